/- What StampSays' own code does, case by case. Conditions: each case's own. -/
import Derived.Test.YtdmicehmmmpjcaaDoorDigA
import Derived.Test.YtdmicehmmmpjcaaDoorRef
namespace Go.Proofs.YtdmicehmmmpjcaaDoor
open Go.RowKit
set_option linter.unusedVariables false
set_option linter.unusedSimpArgs false
set_option maxHeartbeats 1000000

theorem says_21 (t n u k v p i1 i2 c m1 m2 : Int) (sT : ByteArray) (w : World) (TB : Hid (Tab w)) (hne : ¬ t = 36028797018963967) (hadd : IntKind.i64.wrap (t + 1) = t + 1)
    (HA : Hid (∀ w, Calls Tryd.prog 9 #[.agg #[.int .i64 t, .int .u8 n]] w fun x w' => x = .returned (.tuple #[.int .u64 p, .int .i64 0]) ∧ Below w.heap.size w w'))
    (RA : Hid (∀ w, Calls Tryd.prog 16 #[.agg #[.int .i64 t, .int .u8 n]] w fun x w' => x = .returned (.tuple #[.int .u64 p, .bool true]) ∧ Below w.heap.size w w'))
    (HV : Hid (∀ w, Calls Tryd.prog 10 #[.int .u64 v] w fun x w' => x = .returned (.tuple #[.agg (st2 i1 i2), .int .i64 1]) ∧ Below w.heap.size w w'))
    (RV : Hid (∀ w, Calls Tryd.prog 17 #[.int .u64 v] w fun x w' => x = .returned (.tuple #[.agg (st2 i1 i2), .bool false]) ∧ Below w.heap.size w w'))
    (HN : Hid (∀ w, Calls Tryd.prog 13 #[.agg #[.int .i64 t, .int .u8 n]] w fun x w' => x = .returned (.tuple #[.agg (st2 (t + 1) (n)), .int .i64 0]) ∧ Below w.heap.size w w'))
    (RG : Hid (∀ w, Calls Tryd.prog 18 #[.agg #[.int .i64 t, .int .u8 n]] w fun x w' => x = .returned (.bool true) ∧ Below w.heap.size w w'))
    (HG : Hid (∀ w, Calls Tryd.prog 14 #[.agg #[.int .i64 t, .int .u8 n]] w fun x w' => x = .returned (.bool true) ∧ Below w.heap.size w w'))
    (HC : Hid (∀ w, Calls Tryd.prog 11 #[.agg #[.int .i64 t, .int .u8 n], .agg #[.int .i64 u, .int .u8 k]] w fun x w' => x = .returned (.int .i64 c) ∧ Below w.heap.size w w'))
    (RC : Hid (∀ w, Calls Tryd.prog 19 #[.agg #[.int .i64 t, .int .u8 n], .agg #[.int .i64 u, .int .u8 k]] w fun x w' => x = .returned (.int .i64 c) ∧ Below w.heap.size w w'))
    (HM : Hid (∀ w, Calls Tryd.prog 12 #[.agg #[.int .i64 t, .int .u8 n], .agg #[.int .i64 u, .int .u8 k]] w fun x w' => x = .returned (.agg (st2 m1 m2)) ∧ Below w.heap.size w w'))
    (RM : Hid (∀ w, Calls Tryd.prog 20 #[.agg #[.int .i64 t, .int .u8 n], .agg #[.int .i64 u, .int .u8 k]] w fun x w' => x = .returned (.agg (st2 m1 m2)) ∧ Below w.heap.size w w'))
    (HT : Hid (∀ w, Tab w → Calls Tryd.prog 15 #[.agg #[.int .i64 t, .int .u8 n]] w fun x w' => x = .returned (.string sT) ∧ Below w.heap.size w w'))
    (RT : Hid (∀ w, Calls Tryd.prog 21 #[.agg #[.int .i64 t, .int .u8 n]] w fun x w' => x = .returned (.string sT) ∧ Below w.heap.size w w')) :
    Calls Tryd.prog 7 #[.agg #[.int .i64 t, .int .u8 n], .agg #[.int .i64 u, .int .u8 k], .int .u64 v] w fun x w' => x = .returned (.bool true) ∧ Below w.heap.size w w' := by
  have I0 := Lib.hid ((isSt_new w t n).alloc (.cells #[.int .i64 u, .int .u8 k] 23))
  have I1 := Lib.hid (isSt_new (w.alloc (.cells #[.int .i64 t, .int .u8 n] 23)) u k)
  have BA := Lib.hid (((Below.refl w.heap.size w).alloc (Nat.le_refl _) (.cells #[.int .i64 t, .int .u8 n] 23)).alloc (by simp) (.cells #[.int .i64 u, .int .u8 k] 23))
  go_enter Tryd.func7, Tryd.ntmps7
  go_wp2_with fail
  refine (awake_calls _).mono ?_
  rintro x w1 ⟨rfl, hb1⟩
  have J0 := I0.out.to hb1 (by simp; omega)
  have J1 := I1.out.to hb1 (by simp)
  simp only [World.size_alloc] at J1
  have M0 := Lib.hid J0
  have M1 := Lib.hid J1
  have B1 := Lib.hid (BA.out.trans (hb1.mono BA.out.size))
  have z1 : w.heap.size + 1 + 1 ≤ w1.heap.size := by have := hb1.size; simpa using this
  clear hb1 J0 J1
  have ac0 := (M0.out).c0
  have ac1 := (M0.out).c1
  have bc0 := (M1.out).c0
  have bc1 := (M1.out).c1
  go_wp2_with fail
  refine (HA.out _).mono ?_
  rintro x v0 ⟨rfl, hb⟩
  have aP0 := Lib.hid ((M0.out).to hb (by omega))
  have bP0 := Lib.hid ((M1.out).to hb (by omega))
  have Q0 := Lib.hid (B1.out.trans (hb.mono B1.out.size))
  have y0 : (w.heap.size + 1) + 1 ≤ v0.heap.size := by have := hb.size; omega
  clear hb ac0 ac1 bc0 bc1
  have ac0 := (aP0.out).c0
  have ac1 := (aP0.out).c1
  have bc0 := (bP0.out).c0
  have bc1 := (bP0.out).c1
  go_wp2_with fail
  refine (RA.out _).mono ?_
  rintro x v1 ⟨rfl, hb⟩
  have aP1 := Lib.hid ((aP0.out).to hb (by omega))
  have bP1 := Lib.hid ((bP0.out).to hb (by omega))
  have Q1 := Lib.hid (Q0.out.trans (hb.mono Q0.out.size))
  have y1 : (w.heap.size + 1) + 1 ≤ v1.heap.size := by have := hb.size; omega
  clear hb ac0 ac1 bc0 bc1
  have ac0 := (aP1.out).c0
  have ac1 := (aP1.out).c1
  have bc0 := (bP1.out).c0
  have bc1 := (bP1.out).c1
  go_wp2_with fail
  refine (HV.out _).mono ?_
  rintro x v2 ⟨rfl, hb⟩
  have aP2 := Lib.hid ((aP1.out).to hb (by omega))
  have bP2 := Lib.hid ((bP1.out).to hb (by omega))
  have Q2 := Lib.hid (Q1.out.trans (hb.mono Q1.out.size))
  have y2 : (w.heap.size + 1) + 1 ≤ v2.heap.size := by have := hb.size; omega
  clear hb ac0 ac1 bc0 bc1
  have aS3 := Lib.hid (((aP2.out).alloc (.cells #[.int .i64 0, .int .u8 0] 23)).putO (h := v2.heap.size) (by omega) (i1) (i2))
  have bS3 := Lib.hid (((bP2.out).alloc (.cells #[.int .i64 0, .int .u8 0] 23)).putO (h := v2.heap.size) (by omega) (i1) (i2))
  have K3 := Lib.hid (isSt_new v2 0 0)
  have L3 := Lib.hid ((isSt_new v2 0 0).put (i1) (i2))
  have Q3 := Lib.hid (below_setRow (Q2.out.alloc Q2.out.size (.cells #[.int .i64 0, .int .u8 0] 23)) Q2.out.size (st2 (i1) (i2)))
  have SZ3 : Hid (((v2.alloc (.cells #[.int .i64 0, .int .u8 0] 23)).setRow v2.heap.size (st2 (i1) (i2))).heap.size = v2.heap.size + 1) := Lib.hid (by simp)
  obtain ⟨W3, hW⟩ : ∃ W, (v2.alloc (.cells #[.int .i64 0, .int .u8 0] 23)).setRow v2.heap.size (st2 (i1) (i2)) = W := ⟨_, rfl⟩
  rw [hW] at aS3 bS3 L3 Q3 SZ3
  have HW := Lib.hid hW
  clear hW
  have y3 : v2.heap.size + 1 ≤ W3.heap.size := by have := SZ3.out; omega
  have ac0 := (aS3.out).c0
  have ac1 := (aS3.out).c1
  have bc0 := (bS3.out).c0
  have bc1 := (bS3.out).c1
  have dc0 := (L3.out).c0
  have dc1 := (L3.out).c1
  go_wp2_with (((with_reducible refine stL (.tmp 11) (.tmp 34) _ (i1) (i2) 0 0 ?_ ?_ K3.out ?_); rfl; rfl; rw [HW.out]))
  clear K3 HW
  refine (RV.out _).mono ?_
  rintro x v4 ⟨rfl, hb⟩
  have aP4 := Lib.hid ((aS3.out).to hb (by omega))
  have bP4 := Lib.hid ((bS3.out).to hb (by omega))
  have dP4 := Lib.hid ((L3.out).to hb (by omega))
  have Q4 := Lib.hid (Q3.out.trans (hb.mono Q3.out.size))
  have y4 : v2.heap.size + 1 ≤ v4.heap.size := by have := hb.size; omega
  clear hb ac0 ac1 bc0 bc1 dc0 dc1
  have aS5 := Lib.hid (((aP4.out).alloc (.cells #[.int .i64 0, .int .u8 0] 23)).putO (h := v4.heap.size) (by omega) (i1) (i2))
  have bS5 := Lib.hid (((bP4.out).alloc (.cells #[.int .i64 0, .int .u8 0] 23)).putO (h := v4.heap.size) (by omega) (i1) (i2))
  have dS5 := Lib.hid (((dP4.out).alloc (.cells #[.int .i64 0, .int .u8 0] 23)).putO (h := v4.heap.size) (by omega) (i1) (i2))
  have K5 := Lib.hid (isSt_new v4 0 0)
  have L5 := Lib.hid ((isSt_new v4 0 0).put (i1) (i2))
  have Q5 := Lib.hid (below_setRow (Q4.out.alloc Q4.out.size (.cells #[.int .i64 0, .int .u8 0] 23)) Q4.out.size (st2 (i1) (i2)))
  have SZ5 : Hid (((v4.alloc (.cells #[.int .i64 0, .int .u8 0] 23)).setRow v4.heap.size (st2 (i1) (i2))).heap.size = v4.heap.size + 1) := Lib.hid (by simp)
  obtain ⟨W5, hW⟩ : ∃ W, (v4.alloc (.cells #[.int .i64 0, .int .u8 0] 23)).setRow v4.heap.size (st2 (i1) (i2)) = W := ⟨_, rfl⟩
  rw [hW] at aS5 bS5 dS5 L5 Q5 SZ5
  have HW := Lib.hid hW
  clear hW
  have y5 : v4.heap.size + 1 ≤ W5.heap.size := by have := SZ5.out; omega
  have ac0 := (aS5.out).c0
  have ac1 := (aS5.out).c1
  have bc0 := (bS5.out).c0
  have bc1 := (bS5.out).c1
  have dc0 := (dS5.out).c0
  have dc1 := (dS5.out).c1
  have ec0 := (L5.out).c0
  have ec1 := (L5.out).c1
  go_wp2_with (((with_reducible refine stL (.tmp 13) (.tmp 39) _ (i1) (i2) 0 0 ?_ ?_ K5.out ?_); rfl; rfl; rw [HW.out]))
  clear K5 HW
  refine (HN.out _).mono ?_
  rintro x v6 ⟨rfl, hb⟩
  have aP6 := Lib.hid ((aS5.out).to hb (by omega))
  have bP6 := Lib.hid ((bS5.out).to hb (by omega))
  have dP6 := Lib.hid ((dS5.out).to hb (by omega))
  have eP6 := Lib.hid ((L5.out).to hb (by omega))
  have Q6 := Lib.hid (Q5.out.trans (hb.mono Q5.out.size))
  have y6 : v4.heap.size + 1 ≤ v6.heap.size := by have := hb.size; omega
  clear hb ac0 ac1 bc0 bc1 dc0 dc1 ec0 ec1
  have aS7 := Lib.hid (((aP6.out).alloc (.cells #[.int .i64 0, .int .u8 0] 23)).putO (h := v6.heap.size) (by omega) (t + 1) (n))
  have bS7 := Lib.hid (((bP6.out).alloc (.cells #[.int .i64 0, .int .u8 0] 23)).putO (h := v6.heap.size) (by omega) (t + 1) (n))
  have dS7 := Lib.hid (((dP6.out).alloc (.cells #[.int .i64 0, .int .u8 0] 23)).putO (h := v6.heap.size) (by omega) (t + 1) (n))
  have eS7 := Lib.hid (((eP6.out).alloc (.cells #[.int .i64 0, .int .u8 0] 23)).putO (h := v6.heap.size) (by omega) (t + 1) (n))
  have K7 := Lib.hid (isSt_new v6 0 0)
  have L7 := Lib.hid ((isSt_new v6 0 0).put (t + 1) (n))
  have Q7 := Lib.hid (below_setRow (Q6.out.alloc Q6.out.size (.cells #[.int .i64 0, .int .u8 0] 23)) Q6.out.size (st2 (t + 1) (n)))
  have SZ7 : Hid (((v6.alloc (.cells #[.int .i64 0, .int .u8 0] 23)).setRow v6.heap.size (st2 (t + 1) (n))).heap.size = v6.heap.size + 1) := Lib.hid (by simp)
  obtain ⟨W7, hW⟩ : ∃ W, (v6.alloc (.cells #[.int .i64 0, .int .u8 0] 23)).setRow v6.heap.size (st2 (t + 1) (n)) = W := ⟨_, rfl⟩
  rw [hW] at aS7 bS7 dS7 eS7 L7 Q7 SZ7
  have HW7 := Lib.hid hW
  clear hW
  have y7 : v6.heap.size + 1 ≤ W7.heap.size := by have := SZ7.out; omega
  have aS8 := Lib.hid (((aS7.out).alloc (.cells #[.int .i64 0, .int .u8 0] 23)).putO (h := W7.heap.size) (by omega) (0) (0))
  have bS8 := Lib.hid (((bS7.out).alloc (.cells #[.int .i64 0, .int .u8 0] 23)).putO (h := W7.heap.size) (by omega) (0) (0))
  have dS8 := Lib.hid (((dS7.out).alloc (.cells #[.int .i64 0, .int .u8 0] 23)).putO (h := W7.heap.size) (by omega) (0) (0))
  have eS8 := Lib.hid (((eS7.out).alloc (.cells #[.int .i64 0, .int .u8 0] 23)).putO (h := W7.heap.size) (by omega) (0) (0))
  have fS8 := Lib.hid (((L7.out).alloc (.cells #[.int .i64 0, .int .u8 0] 23)).putO (h := W7.heap.size) (by omega) (0) (0))
  have K8 := Lib.hid (isSt_new W7 0 0)
  have L8 := Lib.hid ((isSt_new W7 0 0).put (0) (0))
  have Q8 := Lib.hid (below_setRow (Q7.out.alloc Q7.out.size (.cells #[.int .i64 0, .int .u8 0] 23)) Q7.out.size (st2 (0) (0)))
  have SZ8 : Hid (((W7.alloc (.cells #[.int .i64 0, .int .u8 0] 23)).setRow W7.heap.size (st2 (0) (0))).heap.size = W7.heap.size + 1) := Lib.hid (by simp)
  obtain ⟨W8, hW⟩ : ∃ W, (W7.alloc (.cells #[.int .i64 0, .int .u8 0] 23)).setRow W7.heap.size (st2 (0) (0)) = W := ⟨_, rfl⟩
  rw [hW] at aS8 bS8 dS8 eS8 fS8 L8 Q8 SZ8
  have HW8 := Lib.hid hW
  clear hW
  have y8 : W7.heap.size + 1 ≤ W8.heap.size := by have := SZ8.out; omega
  have ac0 := (aS8.out).c0
  have ac1 := (aS8.out).c1
  have bc0 := (bS8.out).c0
  have bc1 := (bS8.out).c1
  have dc0 := (dS8.out).c0
  have dc1 := (dS8.out).c1
  have ec0 := (eS8.out).c0
  have ec1 := (eS8.out).c1
  have fc0 := (fS8.out).c0
  have fc1 := (fS8.out).c1
  have gc0 := (L8.out).c0
  have gc1 := (L8.out).c1
  go_wp2_with (first | ((with_reducible refine stL (.tmp 15) (.tmp 44) _ (t + 1) (n) 0 0 ?_ ?_ K7.out ?_); rfl; rfl; rw [HW7.out]) | ((with_reducible refine stL (.tmp 17) (.tmp 46) _ (0) (0) 0 0 ?_ ?_ K8.out ?_); rfl; rfl; rw [HW8.out]))
  clear K7 HW7 K8 HW8
  refine (RG.out _).mono ?_
  rintro x v9 ⟨rfl, hb⟩
  have aP9 := Lib.hid ((aS8.out).to hb (by omega))
  have bP9 := Lib.hid ((bS8.out).to hb (by omega))
  have dP9 := Lib.hid ((dS8.out).to hb (by omega))
  have eP9 := Lib.hid ((eS8.out).to hb (by omega))
  have fP9 := Lib.hid ((fS8.out).to hb (by omega))
  have gP9 := Lib.hid ((L8.out).to hb (by omega))
  have Q9 := Lib.hid (Q8.out.trans (hb.mono Q8.out.size))
  have y9 : W7.heap.size + 1 ≤ v9.heap.size := by have := hb.size; omega
  clear hb ac0 ac1 bc0 bc1 dc0 dc1 ec0 ec1 fc0 fc1 gc0 gc1
  have ac0 := (aP9.out).c0
  have ac1 := (aP9.out).c1
  have bc0 := (bP9.out).c0
  have bc1 := (bP9.out).c1
  have dc0 := (dP9.out).c0
  have dc1 := (dP9.out).c1
  have ec0 := (eP9.out).c0
  have ec1 := (eP9.out).c1
  have fc0 := (fP9.out).c0
  have fc1 := (fP9.out).c1
  have gc0 := (gP9.out).c0
  have gc1 := (gP9.out).c1
  have K10 := Lib.hid (gP9.out)
  have L10 := Lib.hid ((gP9.out).put (t + 1) n)
  have aS10 := Lib.hid ((aP9.out).putO (h := W7.heap.size) (by omega) (t + 1) n)
  have bS10 := Lib.hid ((bP9.out).putO (h := W7.heap.size) (by omega) (t + 1) n)
  have dS10 := Lib.hid ((dP9.out).putO (h := W7.heap.size) (by omega) (t + 1) n)
  have eS10 := Lib.hid ((eP9.out).putO (h := W7.heap.size) (by omega) (t + 1) n)
  have fS10 := Lib.hid ((fP9.out).putO (h := W7.heap.size) (by omega) (t + 1) n)
  have Q10 := Lib.hid (below_setRow Q9.out (show w.heap.size ≤ W7.heap.size by omega) (st2 (t + 1) n))
  have SZ10 : Hid ((v9.setRow W7.heap.size (st2 (t + 1) n)).heap.size = v9.heap.size) := Lib.hid (by simp [World.setRow])
  obtain ⟨W10, hW⟩ : ∃ W, v9.setRow W7.heap.size (st2 (t + 1) n) = W := ⟨_, rfl⟩
  rw [hW] at aS10 bS10 dS10 eS10 fS10 L10 Q10 SZ10
  have HW10 := Lib.hid hW
  clear hW
  have y10 : W7.heap.size + 1 ≤ W10.heap.size := by have := SZ10.out; omega
  have ac0 := (aS10.out).c0
  have ac1 := (aS10.out).c1
  have bc0 := (bS10.out).c0
  have bc1 := (bS10.out).c1
  have dc0 := (dS10.out).c0
  have dc1 := (dS10.out).c1
  have ec0 := (eS10.out).c0
  have ec1 := (eS10.out).c1
  have fc0 := (fS10.out).c0
  have fc1 := (fS10.out).c1
  have ggc0 := (L10.out).c0
  have ggc1 := (L10.out).c1
  go_wp2_with ((with_reducible refine stL (.tmp 17) (.tmp 58) _ (t + 1) (n) 0 0 ?_ ?_ K10.out ?_); rfl; rfl; rw [HW10.out])
  clear K10 HW10 gc0 gc1
  have TBx := Lib.hid (tab_below TB.out Q10.out (tab_pos TB.out))
  have ZZ : Hid (W7.heap.size + 1 ≤ W10.heap.size) := Lib.hid (by omega)
  have Fa := Lib.hid (show w.heap.size < W10.heap.size ∧ True from ⟨by omega, trivial⟩)
  have Fb := Lib.hid (show w.heap.size + 1 < W10.heap.size ∧ True from ⟨by omega, trivial⟩)
  have Fd := Lib.hid (show v2.heap.size < W10.heap.size ∧ True from ⟨by omega, trivial⟩)
  have Fe := Lib.hid (show v4.heap.size < W10.heap.size ∧ True from ⟨by omega, trivial⟩)
  have Ff := Lib.hid (show v6.heap.size < W10.heap.size ∧ True from ⟨by omega, trivial⟩)
  have Fg := Lib.hid (show W7.heap.size < W10.heap.size ∧ True from ⟨by omega, trivial⟩)
  refine region_quiet_lit (C := fun w' => Below W10.heap.size W10 w') (by kernel_rfl) (by kernel_rfl) (Below.refl _ _).drew ?_
  refine BigFrame.wpQuiet_want rfl (fun K hK => ?_)
  refine quiet_val (.int .u64 p) (fun w2 hw => rfl) (hK _ ?_)
  clear hK K
  simp only [Act.put, List.setIfInBounds_toArray, List.set_cons_zero, List.set_cons_succ]
  refine BigFrame.wpQuiet_want rfl (fun K hK => ?_)
  refine quiet_val (.int .u64 p) (fun w2 hw => rfl) (hK _ ?_)
  clear hK K
  simp only [Act.put, List.setIfInBounds_toArray, List.set_cons_zero, List.set_cons_succ]
  refine BigFrame.wpQuiet_want rfl (fun K hK => ?_)
  refine quiet_val (.bool true) (fun w2 hw => by simp [go_sem]) (hK _ ?_)
  clear hK K
  simp only [Act.put, List.setIfInBounds_toArray, List.set_cons_zero, List.set_cons_succ]
  refine BigFrame.wpQuiet_want rfl (fun K hK => ?_)
  refine quiet_val (.bool true) (fun w2 hw => rfl) (hK _ ?_)
  clear hK K
  simp only [Act.put, List.setIfInBounds_toArray, List.set_cons_zero, List.set_cons_succ]
  refine BigFrame.wpQuiet_want rfl (fun K hK => ?_)
  refine quiet_val (.int .i64 0) (fun w2 hw => rfl) (hK _ ?_)
  clear hK K
  simp only [Act.put, List.setIfInBounds_toArray, List.set_cons_zero, List.set_cons_succ]
  refine BigFrame.wpQuiet_want rfl (fun K hK => ?_)
  refine quiet_val (.bool true) (fun w2 hw => rfl) (hK _ ?_)
  clear hK K
  simp only [Act.put, List.setIfInBounds_toArray, List.set_cons_zero, List.set_cons_succ]
  refine BigFrame.wpQuiet_want rfl (fun K hK => ?_)
  refine quiet_val (.bool true) (fun w2 hw => rfl) (hK _ ?_)
  clear hK K
  simp only [Act.put, List.setIfInBounds_toArray, List.set_cons_zero, List.set_cons_succ]
  refine BigFrame.wpQuiet_want rfl (fun K hK => ?_)
  refine quiet_val (.bool true) (fun w2 hw => rfl) (hK _ ?_)
  clear hK K
  simp only [Act.put, List.setIfInBounds_toArray, List.set_cons_zero, List.set_cons_succ]
  refine BigFrame.wpQuiet_want rfl (fun K hK => ?_)
  refine quiet_val (.bool true) (fun w2 hw => rfl) (hK _ ?_)
  clear hK K
  simp only [Act.put, List.setIfInBounds_toArray, List.set_cons_zero, List.set_cons_succ]
  refine BigFrame.wpQuiet_want rfl (fun K hK => ?_)
  refine quiet_val (.bool true) (fun w2 hw => rfl) (hK _ ?_)
  clear hK K
  simp only [Act.put, List.setIfInBounds_toArray, List.set_cons_zero, List.set_cons_succ]
  refine BigFrame.wpQuiet_want rfl (fun K hK => ?_)
  refine quiet_val (.bool true) (fun w2 hw => rfl) (hK _ ?_)
  clear hK K
  simp only [Act.put, List.setIfInBounds_toArray, List.set_cons_zero, List.set_cons_succ]
  refine BigFrame.wpQuiet_want rfl (fun K hK => ?_)
  refine quiet_val (.bool true) (fun w2 hw => rfl) (hK _ ?_)
  clear hK K
  simp only [Act.put, List.setIfInBounds_toArray, List.set_cons_zero, List.set_cons_succ]
  refine BigFrame.wpQuiet_skip rfl ?_
  simp only [Act.put, List.setIfInBounds_toArray, List.set_cons_zero, List.set_cons_succ]
  refine BigFrame.wpQuiet_skip rfl ?_
  simp only [Act.put, List.setIfInBounds_toArray, List.set_cons_zero, List.set_cons_succ]
  refine BigFrame.wpQuiet_want rfl (fun K hK => ?_)
  refine quiet_val (.bool true) (fun w2 hw => rfl) (hK _ ?_)
  clear hK K
  simp only [Act.put, List.setIfInBounds_toArray, List.set_cons_zero, List.set_cons_succ]
  refine BigFrame.wpQuiet_want rfl (fun K hK => ?_)
  refine quiet_val (.bool true) (fun w2 hw => rfl) (hK _ ?_)
  clear hK K
  simp only [Act.put, List.setIfInBounds_toArray, List.set_cons_zero, List.set_cons_succ]
  refine BigFrame.wpQuiet_want rfl (fun K hK => ?_)
  refine quiet_val (.bool true) (fun w2 hw => rfl) (hK _ ?_)
  clear hK K
  simp only [Act.put, List.setIfInBounds_toArray, List.set_cons_zero, List.set_cons_succ]
  refine BigFrame.wpQuiet_want rfl (fun K hK => ?_)
  refine quiet_ld23 (.tmp 11) rfl _ rfl (i1) (i2) (fun w2 hw => (dS10.out).to hw (Fd).out.1) (hK _ ?_)
  clear hK K
  simp only [Act.put, List.setIfInBounds_toArray, List.set_cons_zero, List.set_cons_succ]
  refine BigFrame.wpQuiet_want rfl (fun K hK => ?_)
  refine quiet_ld23 (.tmp 13) rfl _ rfl (i1) (i2) (fun w2 hw => (eS10.out).to hw (Fe).out.1) (hK _ ?_)
  clear hK K
  simp only [Act.put, List.setIfInBounds_toArray, List.set_cons_zero, List.set_cons_succ]
  refine BigFrame.wpQuiet_want rfl (fun K hK => ?_)
  refine quiet_val (.bool true) (fun w2 hw => by simp [go_sem]) (hK _ ?_)
  clear hK K
  simp only [Act.put, List.setIfInBounds_toArray, List.set_cons_zero, List.set_cons_succ]
  refine BigFrame.wpQuiet_want rfl (fun K hK => ?_)
  refine quiet_val (.bool true) (fun w2 hw => rfl) (hK _ ?_)
  clear hK K
  simp only [Act.put, List.setIfInBounds_toArray, List.set_cons_zero, List.set_cons_succ]
  refine BigFrame.wpQuiet_want rfl (fun K hK => ?_)
  refine quiet_val (.bool true) (fun w2 hw => rfl) (hK _ ?_)
  clear hK K
  simp only [Act.put, List.setIfInBounds_toArray, List.set_cons_zero, List.set_cons_succ]
  refine BigFrame.wpQuiet_want rfl (fun K hK => ?_)
  refine quiet_val (.int .i64 1) (fun w2 hw => rfl) (hK _ ?_)
  clear hK K
  simp only [Act.put, List.setIfInBounds_toArray, List.set_cons_zero, List.set_cons_succ]
  refine BigFrame.wpQuiet_want rfl (fun K hK => ?_)
  refine quiet_val (.bool false) (fun w2 hw => rfl) (hK _ ?_)
  clear hK K
  simp only [Act.put, List.setIfInBounds_toArray, List.set_cons_zero, List.set_cons_succ]
  refine BigFrame.wpQuiet_want rfl (fun K hK => ?_)
  refine quiet_val (.bool false) (fun w2 hw => rfl) (hK _ ?_)
  clear hK K
  simp only [Act.put, List.setIfInBounds_toArray, List.set_cons_zero, List.set_cons_succ]
  refine BigFrame.wpQuiet_want rfl (fun K hK => ?_)
  refine quiet_val (.bool true) (fun w2 hw => rfl) (hK _ ?_)
  clear hK K
  simp only [Act.put, List.setIfInBounds_toArray, List.set_cons_zero, List.set_cons_succ]
  refine BigFrame.wpQuiet_want rfl (fun K hK => ?_)
  refine quiet_val (.bool true) (fun w2 hw => rfl) (hK _ ?_)
  clear hK K
  simp only [Act.put, List.setIfInBounds_toArray, List.set_cons_zero, List.set_cons_succ]
  refine BigFrame.wpQuiet_want rfl (fun K hK => ?_)
  refine quiet_val (.bool true) (fun w2 hw => rfl) (hK _ ?_)
  clear hK K
  simp only [Act.put, List.setIfInBounds_toArray, List.set_cons_zero, List.set_cons_succ]
  refine BigFrame.wpQuiet_want rfl (fun K hK => ?_)
  refine quiet_val (.bool false) (fun w2 hw => rfl) (hK _ ?_)
  clear hK K
  simp only [Act.put, List.setIfInBounds_toArray, List.set_cons_zero, List.set_cons_succ]
  refine BigFrame.wpQuiet_want rfl (fun K hK => ?_)
  refine quiet_val (.bool false) (fun w2 hw => rfl) (hK _ ?_)
  clear hK K
  simp only [Act.put, List.setIfInBounds_toArray, List.set_cons_zero, List.set_cons_succ]
  refine BigFrame.wpQuiet_want rfl (fun K hK => ?_)
  refine quiet_val (.int .i64 1) (fun w2 hw => rfl) (hK _ ?_)
  clear hK K
  simp only [Act.put, List.setIfInBounds_toArray, List.set_cons_zero, List.set_cons_succ]
  refine BigFrame.wpQuiet_want rfl (fun K hK => ?_)
  refine quiet_val (.bool true) (fun w2 hw => rfl) (hK _ ?_)
  clear hK K
  simp only [Act.put, List.setIfInBounds_toArray, List.set_cons_zero, List.set_cons_succ]
  refine BigFrame.wpQuiet_want rfl (fun K hK => ?_)
  refine quiet_val (.bool true) (fun w2 hw => rfl) (hK _ ?_)
  clear hK K
  simp only [Act.put, List.setIfInBounds_toArray, List.set_cons_zero, List.set_cons_succ]
  refine BigFrame.wpQuiet_want rfl (fun K hK => ?_)
  refine quiet_val (.bool true) (fun w2 hw => rfl) (hK _ ?_)
  clear hK K
  simp only [Act.put, List.setIfInBounds_toArray, List.set_cons_zero, List.set_cons_succ]
  refine BigFrame.wpQuiet_want rfl (fun K hK => ?_)
  refine quiet_val (.bool true) (fun w2 hw => rfl) (hK _ ?_)
  clear hK K
  simp only [Act.put, List.setIfInBounds_toArray, List.set_cons_zero, List.set_cons_succ]
  refine BigFrame.wpQuiet_want rfl (fun K hK => ?_)
  refine quiet_ld23 (.tmp 15) rfl _ rfl (t + 1) (n) (fun w2 hw => (fS10.out).to hw (Ff).out.1) (hK _ ?_)
  clear hK K
  simp only [Act.put, List.setIfInBounds_toArray, List.set_cons_zero, List.set_cons_succ]
  refine BigFrame.wpQuiet_want rfl (fun K hK => ?_)
  refine quiet_ld23 (.tmp 17) rfl _ rfl (t + 1) (n) (fun w2 hw => (L10.out).to hw (Fg).out.1) (hK _ ?_)
  clear hK K
  simp only [Act.put, List.setIfInBounds_toArray, List.set_cons_zero, List.set_cons_succ]
  refine BigFrame.wpQuiet_want rfl (fun K hK => ?_)
  refine quiet_val (.bool true) (fun w2 hw => by simp [go_sem]) (hK _ ?_)
  clear hK K
  simp only [Act.put, List.setIfInBounds_toArray, List.set_cons_zero, List.set_cons_succ]
  refine BigFrame.wpQuiet_want rfl (fun K hK => ?_)
  refine quiet_val (.bool true) (fun w2 hw => rfl) (hK _ ?_)
  clear hK K
  simp only [Act.put, List.setIfInBounds_toArray, List.set_cons_zero, List.set_cons_succ]
  refine BigFrame.wpQuiet_want rfl (fun K hK => ?_)
  refine quiet_val (.bool true) (fun w2 hw => rfl) (hK _ ?_)
  clear hK K
  simp only [Act.put, List.setIfInBounds_toArray, List.set_cons_zero, List.set_cons_succ]
  refine BigFrame.wpQuiet_want rfl (fun K hK => ?_)
  refine quiet_val (.int .i64 0) (fun w2 hw => rfl) (hK _ ?_)
  clear hK K
  simp only [Act.put, List.setIfInBounds_toArray, List.set_cons_zero, List.set_cons_succ]
  refine BigFrame.wpQuiet_want rfl (fun K hK => ?_)
  refine quiet_val (.int .i64 0) (fun w2 hw => rfl) (hK _ ?_)
  clear hK K
  simp only [Act.put, List.setIfInBounds_toArray, List.set_cons_zero, List.set_cons_succ]
  refine BigFrame.wpQuiet_want rfl (fun K hK => ?_)
  refine quiet_val (.bool true) (fun w2 hw => rfl) (hK _ ?_)
  clear hK K
  simp only [Act.put, List.setIfInBounds_toArray, List.set_cons_zero, List.set_cons_succ]
  refine BigFrame.wpQuiet_want rfl (fun K hK => ?_)
  refine quiet_val (.bool true) (fun w2 hw => rfl) (hK _ ?_)
  clear hK K
  simp only [Act.put, List.setIfInBounds_toArray, List.set_cons_zero, List.set_cons_succ]
  refine BigFrame.wpQuiet_want rfl (fun K hK => ?_)
  refine quiet_val (.bool true) (fun w2 hw => rfl) (hK _ ?_)
  clear hK K
  simp only [Act.put, List.setIfInBounds_toArray, List.set_cons_zero, List.set_cons_succ]
  refine BigFrame.wpQuiet_want rfl (fun K hK => ?_)
  refine quiet_ld23 (.tmp 3) rfl _ rfl (t) (n) (fun w2 hw => (aS10.out).to hw (Fa).out.1) (hK _ ?_)
  clear hK K
  simp only [Act.put, List.setIfInBounds_toArray, List.set_cons_zero, List.set_cons_succ]
  refine BigFrame.wpQuiet_want rfl (fun K hK => ?_)
  refine quiet_ld23 (.tmp 4) rfl _ rfl (u) (k) (fun w2 hw => (bS10.out).to hw (Fb).out.1) (hK _ ?_)
  clear hK K
  simp only [Act.put, List.setIfInBounds_toArray, List.set_cons_zero, List.set_cons_succ]
  refine BigFrame.wpQuiet_want rfl (fun K hK => ?_)
  refine quiet_call 11 #[.agg #[.int .i64 t, .int .u8 n], .agg #[.int .i64 u, .int .u8 k]] (.int .i64 c) (fun w2 => by simp [go_sem]) (fun w2 hw => (HC.out w2).mono fun e w3 hh => ⟨hh.1, hw.trans (hh.2.mono hw.size)⟩) (hK _ ?_)
  clear hK K
  simp only [Act.put, List.setIfInBounds_toArray, List.set_cons_zero, List.set_cons_succ]
  refine BigFrame.wpQuiet_want rfl (fun K hK => ?_)
  refine quiet_ld23 (.tmp 3) rfl _ rfl (t) (n) (fun w2 hw => (aS10.out).to hw (Fa).out.1) (hK _ ?_)
  clear hK K
  simp only [Act.put, List.setIfInBounds_toArray, List.set_cons_zero, List.set_cons_succ]
  refine BigFrame.wpQuiet_want rfl (fun K hK => ?_)
  refine quiet_ld23 (.tmp 4) rfl _ rfl (u) (k) (fun w2 hw => (bS10.out).to hw (Fb).out.1) (hK _ ?_)
  clear hK K
  simp only [Act.put, List.setIfInBounds_toArray, List.set_cons_zero, List.set_cons_succ]
  refine BigFrame.wpQuiet_want rfl (fun K hK => ?_)
  refine quiet_call 19 #[.agg #[.int .i64 t, .int .u8 n], .agg #[.int .i64 u, .int .u8 k]] (.int .i64 c) (fun w2 => by simp [go_sem]) (fun w2 hw => (RC.out w2).mono fun e w3 hh => ⟨hh.1, hw.trans (hh.2.mono hw.size)⟩) (hK _ ?_)
  clear hK K
  simp only [Act.put, List.setIfInBounds_toArray, List.set_cons_zero, List.set_cons_succ]
  refine BigFrame.wpQuiet_want rfl (fun K hK => ?_)
  refine quiet_val (.bool true) (fun w2 hw => by simp [go_sem]) (hK _ ?_)
  clear hK K
  simp only [Act.put, List.setIfInBounds_toArray, List.set_cons_zero, List.set_cons_succ]
  refine BigFrame.wpQuiet_want rfl (fun K hK => ?_)
  refine quiet_val (.bool true) (fun w2 hw => rfl) (hK _ ?_)
  clear hK K
  simp only [Act.put, List.setIfInBounds_toArray, List.set_cons_zero, List.set_cons_succ]
  refine BigFrame.wpQuiet_want rfl (fun K hK => ?_)
  refine quiet_val (.bool true) (fun w2 hw => rfl) (hK _ ?_)
  clear hK K
  simp only [Act.put, List.setIfInBounds_toArray, List.set_cons_zero, List.set_cons_succ]
  refine BigFrame.wpQuiet_want rfl (fun K hK => ?_)
  refine quiet_ld23 (.tmp 3) rfl _ rfl (t) (n) (fun w2 hw => (aS10.out).to hw (Fa).out.1) (hK _ ?_)
  clear hK K
  simp only [Act.put, List.setIfInBounds_toArray, List.set_cons_zero, List.set_cons_succ]
  refine BigFrame.wpQuiet_want rfl (fun K hK => ?_)
  refine quiet_ld23 (.tmp 4) rfl _ rfl (u) (k) (fun w2 hw => (bS10.out).to hw (Fb).out.1) (hK _ ?_)
  clear hK K
  simp only [Act.put, List.setIfInBounds_toArray, List.set_cons_zero, List.set_cons_succ]
  refine BigFrame.wpQuiet_want rfl (fun K hK => ?_)
  refine quiet_call 12 #[.agg #[.int .i64 t, .int .u8 n], .agg #[.int .i64 u, .int .u8 k]] (.agg (st2 m1 m2)) (fun w2 => by simp [go_sem]) (fun w2 hw => (HM.out w2).mono fun e w3 hh => ⟨hh.1, hw.trans (hh.2.mono hw.size)⟩) (hK _ ?_)
  clear hK K
  simp only [Act.put, List.setIfInBounds_toArray, List.set_cons_zero, List.set_cons_succ]
  refine BigFrame.wpQuiet_want rfl (fun K hK => ?_)
  refine quiet_ld23 (.tmp 3) rfl _ rfl (t) (n) (fun w2 hw => (aS10.out).to hw (Fa).out.1) (hK _ ?_)
  clear hK K
  simp only [Act.put, List.setIfInBounds_toArray, List.set_cons_zero, List.set_cons_succ]
  refine BigFrame.wpQuiet_want rfl (fun K hK => ?_)
  refine quiet_ld23 (.tmp 4) rfl _ rfl (u) (k) (fun w2 hw => (bS10.out).to hw (Fb).out.1) (hK _ ?_)
  clear hK K
  simp only [Act.put, List.setIfInBounds_toArray, List.set_cons_zero, List.set_cons_succ]
  refine BigFrame.wpQuiet_want rfl (fun K hK => ?_)
  refine quiet_call 20 #[.agg #[.int .i64 t, .int .u8 n], .agg #[.int .i64 u, .int .u8 k]] (.agg (st2 m1 m2)) (fun w2 => by simp [go_sem]) (fun w2 hw => (RM.out w2).mono fun e w3 hh => ⟨hh.1, hw.trans (hh.2.mono hw.size)⟩) (hK _ ?_)
  clear hK K
  simp only [Act.put, List.setIfInBounds_toArray, List.set_cons_zero, List.set_cons_succ]
  refine BigFrame.wpQuiet_want rfl (fun K hK => ?_)
  refine quiet_val (.bool true) (fun w2 hw => by simp [go_sem]) (hK _ ?_)
  clear hK K
  simp only [Act.put, List.setIfInBounds_toArray, List.set_cons_zero, List.set_cons_succ]
  refine BigFrame.wpQuiet_want rfl (fun K hK => ?_)
  refine quiet_val (.bool true) (fun w2 hw => rfl) (hK _ ?_)
  clear hK K
  simp only [Act.put, List.setIfInBounds_toArray, List.set_cons_zero, List.set_cons_succ]
  refine BigFrame.wpQuiet_want rfl (fun K hK => ?_)
  refine quiet_val (.bool true) (fun w2 hw => rfl) (hK _ ?_)
  clear hK K
  simp only [Act.put, List.setIfInBounds_toArray, List.set_cons_zero, List.set_cons_succ]
  refine BigFrame.wpQuiet_want rfl (fun K hK => ?_)
  refine quiet_ld23 (.tmp 3) rfl _ rfl (t) (n) (fun w2 hw => (aS10.out).to hw (Fa).out.1) (hK _ ?_)
  clear hK K
  simp only [Act.put, List.setIfInBounds_toArray, List.set_cons_zero, List.set_cons_succ]
  refine BigFrame.wpQuiet_want rfl (fun K hK => ?_)
  refine quiet_call 15 #[.agg #[.int .i64 t, .int .u8 n]] (.string sT) (fun w2 => by simp [go_sem]) (fun w2 hw => (HT.out w2 (tab_below TBx.out hw (tab_pos TBx.out))).mono fun e w3 hh => ⟨hh.1, hw.trans (hh.2.mono hw.size)⟩) (hK _ ?_)
  clear hK K
  simp only [Act.put, List.setIfInBounds_toArray, List.set_cons_zero, List.set_cons_succ]
  refine BigFrame.wpQuiet_want rfl (fun K hK => ?_)
  refine quiet_ld23 (.tmp 3) rfl _ rfl (t) (n) (fun w2 hw => (aS10.out).to hw (Fa).out.1) (hK _ ?_)
  clear hK K
  simp only [Act.put, List.setIfInBounds_toArray, List.set_cons_zero, List.set_cons_succ]
  refine BigFrame.wpQuiet_want rfl (fun K hK => ?_)
  refine quiet_call 21 #[.agg #[.int .i64 t, .int .u8 n]] (.string sT) (fun w2 => by simp [go_sem]) (fun w2 hw => (RT.out w2).mono fun e w3 hh => ⟨hh.1, hw.trans (hh.2.mono hw.size)⟩) (hK _ ?_)
  clear hK K
  simp only [Act.put, List.setIfInBounds_toArray, List.set_cons_zero, List.set_cons_succ]
  refine BigFrame.wpQuiet_want rfl (fun K hK => ?_)
  refine quiet_val (.bool true) (fun w2 hw => by simp [go_sem]) (hK _ ?_)
  clear hK K
  simp only [Act.put, List.setIfInBounds_toArray, List.set_cons_zero, List.set_cons_succ]
  refine BigFrame.wpQuiet_want rfl (fun K hK => ?_)
  refine quiet_val (.bool true) (fun w2 hw => rfl) (hK _ ?_)
  clear hK K
  simp only [Act.put, List.setIfInBounds_toArray, List.set_cons_zero, List.set_cons_succ]
  refine BigFrame.wpQuiet_want rfl (fun K hK => ?_)
  refine quiet_val (.bool true) (fun w2 hw => rfl) (hK _ ?_)
  clear hK K
  simp only [Act.put, List.setIfInBounds_toArray, List.set_cons_zero, List.set_cons_succ]
  refine BigFrame.wpQuiet_want rfl (fun K hK => ?_)
  refine quiet_ld23 (.tmp 3) rfl _ rfl (t) (n) (fun w2 hw => (aS10.out).to hw (Fa).out.1) (hK _ ?_)
  clear hK K
  simp only [Act.put, List.setIfInBounds_toArray, List.set_cons_zero, List.set_cons_succ]
  refine BigFrame.wpQuiet_want rfl (fun K hK => ?_)
  refine quiet_call 14 #[.agg #[.int .i64 t, .int .u8 n]] (.bool true) (fun w2 => by simp [go_sem]) (fun w2 hw => (HG.out w2).mono fun e w3 hh => ⟨hh.1, hw.trans (hh.2.mono hw.size)⟩) (hK _ ?_)
  clear hK K
  simp only [Act.put, List.setIfInBounds_toArray, List.set_cons_zero, List.set_cons_succ]
  refine BigFrame.wpQuiet_want rfl (fun K hK => ?_)
  refine quiet_ld23 (.tmp 3) rfl _ rfl (t) (n) (fun w2 hw => (aS10.out).to hw (Fa).out.1) (hK _ ?_)
  clear hK K
  simp only [Act.put, List.setIfInBounds_toArray, List.set_cons_zero, List.set_cons_succ]
  refine BigFrame.wpQuiet_want rfl (fun K hK => ?_)
  refine quiet_call 18 #[.agg #[.int .i64 t, .int .u8 n]] (.bool true) (fun w2 => by simp [go_sem]) (fun w2 hw => (RG.out w2).mono fun e w3 hh => ⟨hh.1, hw.trans (hh.2.mono hw.size)⟩) (hK _ ?_)
  clear hK K
  simp only [Act.put, List.setIfInBounds_toArray, List.set_cons_zero, List.set_cons_succ]
  refine BigFrame.wpQuiet_want rfl (fun K hK => ?_)
  refine quiet_val (.bool true) (fun w2 hw => rfl) (hK _ ?_)
  clear hK K
  simp only [Act.put, List.setIfInBounds_toArray, List.set_cons_zero, List.set_cons_succ]
  refine BigFrame.wpQuiet_want rfl (fun K hK => ?_)
  refine quiet_val (.bool true) (fun w2 hw => rfl) (hK _ ?_)
  clear hK K
  simp only [Act.put, List.setIfInBounds_toArray, List.set_cons_zero, List.set_cons_succ]
  refine BigFrame.wpQuiet_want rfl (fun K hK => ?_)
  refine quiet_val (.bool true) (fun w2 hw => rfl) (hK _ ?_)
  clear hK K
  simp only [Act.put, List.setIfInBounds_toArray, List.set_cons_zero, List.set_cons_succ]
  refine wpQuiet_nil ?_
  intro w9 hb9
  have B9 := Lib.hid (Q10.out.trans (hb9.mono Q10.out.size))
  clear hb9
  go_wp2_with fail
  go_ret
  exact ⟨rfl, B9.out⟩
end Go.Proofs.YtdmicehmmmpjcaaDoor
