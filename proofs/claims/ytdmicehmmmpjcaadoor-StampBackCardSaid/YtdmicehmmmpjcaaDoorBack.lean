/- What StampBack's own code does, case by case. Conditions: each case's own. -/
import Derived.Test.YtdmicehmmmpjcaaDoorAwake
namespace Go.Proofs.YtdmicehmmmpjcaaDoor
open Go.RowKit
set_option linter.unusedVariables false
set_option linter.unusedSimpArgs false
set_option maxHeartbeats 400000

theorem back_100 (t n u k v p q i1 i2 : Int) (w : World) 
    (HA : Hid (∀ w, Calls Tryd.prog 9 #[.agg #[.int .i64 t, .int .u8 n]] w fun x w' => x = .returned (.tuple #[.int .u64 p, .int .i64 1]) ∧ Below w.heap.size w w'))
    (HB : Hid (∀ w, Calls Tryd.prog 9 #[.agg #[.int .i64 u, .int .u8 k]] w fun x w' => x = .returned (.tuple #[.int .u64 q, .int .i64 0]) ∧ Below w.heap.size w w'))
    (HV : Hid (∀ w, Calls Tryd.prog 10 #[.int .u64 v] w fun x w' => x = .returned (.tuple #[.agg (st2 i1 i2), .int .i64 0]) ∧ Below w.heap.size w w'))
    (HW : Hid (∀ w, Calls Tryd.prog 9 #[.agg #[.int .i64 i1, .int .u8 i2]] w fun x w' => x = .returned (.tuple #[.int .u64 v, .int .i64 0]) ∧ Below w.heap.size w w')) :
    Calls Tryd.prog 3 #[.agg #[.int .i64 t, .int .u8 n], .agg #[.int .i64 u, .int .u8 k], .int .u64 v] w fun x w' => x = .returned (.bool true) ∧ Below w.heap.size w w' := by
  have I0 := Lib.hid ((isSt_new w t n).alloc (.cells #[.int .i64 u, .int .u8 k] 23))
  have I1 := Lib.hid (isSt_new (w.alloc (.cells #[.int .i64 t, .int .u8 n] 23)) u k)
  have BA := Lib.hid (((Below.refl w.heap.size w).alloc (Nat.le_refl _) (.cells #[.int .i64 t, .int .u8 n] 23)).alloc (by simp) (.cells #[.int .i64 u, .int .u8 k] 23))
  go_enter Tryd.func3, Tryd.ntmps3
  go_wp2_with fail
  refine (awake_calls _).mono ?_
  rintro x w1 ⟨rfl, hb1⟩
  have J0 := I0.out.to hb1 (by simp; omega)
  have J1 := I1.out.to hb1 (by simp)
  simp only [World.size_alloc] at J1
  have M0 := Lib.hid J0
  have M1 := Lib.hid J1
  have B1 := Lib.hid (BA.out.trans (hb1.mono BA.out.size))
  have z1 : w.heap.size + 1 + 1 ≤ w1.heap.size := by have := hb1.size; simpa using this
  clear hb1 J0 J1
  have ac0 := (M0.out).c0
  have ac1 := (M0.out).c1
  have bc0 := (M1.out).c0
  have bc1 := (M1.out).c1
  go_wp2_with fail
  refine (HA.out _).mono ?_
  rintro x v0 ⟨rfl, hb⟩
  have aP0 := Lib.hid ((M0.out).to hb (by omega))
  have bP0 := Lib.hid ((M1.out).to hb (by omega))
  have Q0 := Lib.hid (B1.out.trans (hb.mono B1.out.size))
  have y0 : (w.heap.size + 1) + 1 ≤ v0.heap.size := by have := hb.size; omega
  clear hb ac0 ac1 bc0 bc1
  have ac0 := (aP0.out).c0
  have ac1 := (aP0.out).c1
  have bc0 := (bP0.out).c0
  have bc1 := (bP0.out).c1
  go_wp2_with fail
  refine (HB.out _).mono ?_
  rintro x v1 ⟨rfl, hb⟩
  have aP1 := Lib.hid ((aP0.out).to hb (by omega))
  have bP1 := Lib.hid ((bP0.out).to hb (by omega))
  have Q1 := Lib.hid (Q0.out.trans (hb.mono Q0.out.size))
  have y1 : (w.heap.size + 1) + 1 ≤ v1.heap.size := by have := hb.size; omega
  clear hb ac0 ac1 bc0 bc1
  have ac0 := (aP1.out).c0
  have ac1 := (aP1.out).c1
  have bc0 := (bP1.out).c0
  have bc1 := (bP1.out).c1
  go_wp2_with fail
  refine (HV.out _).mono ?_
  rintro x v2 ⟨rfl, hb⟩
  have aP2 := Lib.hid ((aP1.out).to hb (by omega))
  have bP2 := Lib.hid ((bP1.out).to hb (by omega))
  have Q2 := Lib.hid (Q1.out.trans (hb.mono Q1.out.size))
  have y2 : (w.heap.size + 1) + 1 ≤ v2.heap.size := by have := hb.size; omega
  clear hb ac0 ac1 bc0 bc1
  have aS3 := Lib.hid (((aP2.out).alloc (.cells #[.int .i64 0, .int .u8 0] 23)).putO (h := v2.heap.size) (by omega) (i1) (i2))
  have bS3 := Lib.hid (((bP2.out).alloc (.cells #[.int .i64 0, .int .u8 0] 23)).putO (h := v2.heap.size) (by omega) (i1) (i2))
  have K3 := Lib.hid (isSt_new v2 0 0)
  have L3 := Lib.hid ((isSt_new v2 0 0).put (i1) (i2))
  have Q3 := Lib.hid (below_setRow (Q2.out.alloc Q2.out.size (.cells #[.int .i64 0, .int .u8 0] 23)) Q2.out.size (st2 (i1) (i2)))
  have SZ3 : Hid (((v2.alloc (.cells #[.int .i64 0, .int .u8 0] 23)).setRow v2.heap.size (st2 (i1) (i2))).heap.size = v2.heap.size + 1) := Lib.hid (by simp)
  obtain ⟨W3, hW⟩ : ∃ W, (v2.alloc (.cells #[.int .i64 0, .int .u8 0] 23)).setRow v2.heap.size (st2 (i1) (i2)) = W := ⟨_, rfl⟩
  rw [hW] at aS3 bS3 L3 Q3 SZ3
  have HW := Lib.hid hW
  clear hW
  have y3 : v2.heap.size + 1 ≤ W3.heap.size := by have := SZ3.out; omega
  have ac0 := (aS3.out).c0
  have ac1 := (aS3.out).c1
  have bc0 := (bS3.out).c0
  have bc1 := (bS3.out).c1
  have dc0 := (L3.out).c0
  have dc1 := (L3.out).c1
  go_wp2_with (((with_reducible refine stL (.tmp 13) (.tmp 46) _ (i1) (i2) 0 0 ?_ ?_ K3.out ?_); rfl; rfl; rw [HW.out]))
  clear K3 HW
  refine (HW.out _).mono ?_
  rintro x v4 ⟨rfl, hb⟩
  have aP4 := Lib.hid ((aS3.out).to hb (by omega))
  have bP4 := Lib.hid ((bS3.out).to hb (by omega))
  have dP4 := Lib.hid ((L3.out).to hb (by omega))
  have Q4 := Lib.hid (Q3.out.trans (hb.mono Q3.out.size))
  have y4 : v2.heap.size + 1 ≤ v4.heap.size := by have := hb.size; omega
  clear hb ac0 ac1 bc0 bc1 dc0 dc1
  have ac0 := (aP4.out).c0
  have ac1 := (aP4.out).c1
  have bc0 := (bP4.out).c0
  have bc1 := (bP4.out).c1
  have dc0 := (dP4.out).c0
  have dc1 := (dP4.out).c1
  go_wp2_with fail
  all_goals go_ret
  all_goals exact ⟨congrArg (fun b => Ending.returned (Value.bool b)) (rfl), Q4.out⟩

theorem back_110 (t n u k v p q i1 i2 : Int) (w : World) 
    (HA : Hid (∀ w, Calls Tryd.prog 9 #[.agg #[.int .i64 t, .int .u8 n]] w fun x w' => x = .returned (.tuple #[.int .u64 p, .int .i64 1]) ∧ Below w.heap.size w w'))
    (HB : Hid (∀ w, Calls Tryd.prog 9 #[.agg #[.int .i64 u, .int .u8 k]] w fun x w' => x = .returned (.tuple #[.int .u64 q, .int .i64 1]) ∧ Below w.heap.size w w'))
    (HV : Hid (∀ w, Calls Tryd.prog 10 #[.int .u64 v] w fun x w' => x = .returned (.tuple #[.agg (st2 i1 i2), .int .i64 0]) ∧ Below w.heap.size w w'))
    (HW : Hid (∀ w, Calls Tryd.prog 9 #[.agg #[.int .i64 i1, .int .u8 i2]] w fun x w' => x = .returned (.tuple #[.int .u64 v, .int .i64 0]) ∧ Below w.heap.size w w')) :
    Calls Tryd.prog 3 #[.agg #[.int .i64 t, .int .u8 n], .agg #[.int .i64 u, .int .u8 k], .int .u64 v] w fun x w' => x = .returned (.bool true) ∧ Below w.heap.size w w' := by
  have I0 := Lib.hid ((isSt_new w t n).alloc (.cells #[.int .i64 u, .int .u8 k] 23))
  have I1 := Lib.hid (isSt_new (w.alloc (.cells #[.int .i64 t, .int .u8 n] 23)) u k)
  have BA := Lib.hid (((Below.refl w.heap.size w).alloc (Nat.le_refl _) (.cells #[.int .i64 t, .int .u8 n] 23)).alloc (by simp) (.cells #[.int .i64 u, .int .u8 k] 23))
  go_enter Tryd.func3, Tryd.ntmps3
  go_wp2_with fail
  refine (awake_calls _).mono ?_
  rintro x w1 ⟨rfl, hb1⟩
  have J0 := I0.out.to hb1 (by simp; omega)
  have J1 := I1.out.to hb1 (by simp)
  simp only [World.size_alloc] at J1
  have M0 := Lib.hid J0
  have M1 := Lib.hid J1
  have B1 := Lib.hid (BA.out.trans (hb1.mono BA.out.size))
  have z1 : w.heap.size + 1 + 1 ≤ w1.heap.size := by have := hb1.size; simpa using this
  clear hb1 J0 J1
  have ac0 := (M0.out).c0
  have ac1 := (M0.out).c1
  have bc0 := (M1.out).c0
  have bc1 := (M1.out).c1
  go_wp2_with fail
  refine (HA.out _).mono ?_
  rintro x v0 ⟨rfl, hb⟩
  have aP0 := Lib.hid ((M0.out).to hb (by omega))
  have bP0 := Lib.hid ((M1.out).to hb (by omega))
  have Q0 := Lib.hid (B1.out.trans (hb.mono B1.out.size))
  have y0 : (w.heap.size + 1) + 1 ≤ v0.heap.size := by have := hb.size; omega
  clear hb ac0 ac1 bc0 bc1
  have ac0 := (aP0.out).c0
  have ac1 := (aP0.out).c1
  have bc0 := (bP0.out).c0
  have bc1 := (bP0.out).c1
  go_wp2_with fail
  refine (HB.out _).mono ?_
  rintro x v1 ⟨rfl, hb⟩
  have aP1 := Lib.hid ((aP0.out).to hb (by omega))
  have bP1 := Lib.hid ((bP0.out).to hb (by omega))
  have Q1 := Lib.hid (Q0.out.trans (hb.mono Q0.out.size))
  have y1 : (w.heap.size + 1) + 1 ≤ v1.heap.size := by have := hb.size; omega
  clear hb ac0 ac1 bc0 bc1
  have ac0 := (aP1.out).c0
  have ac1 := (aP1.out).c1
  have bc0 := (bP1.out).c0
  have bc1 := (bP1.out).c1
  go_wp2_with fail
  refine (HV.out _).mono ?_
  rintro x v2 ⟨rfl, hb⟩
  have aP2 := Lib.hid ((aP1.out).to hb (by omega))
  have bP2 := Lib.hid ((bP1.out).to hb (by omega))
  have Q2 := Lib.hid (Q1.out.trans (hb.mono Q1.out.size))
  have y2 : (w.heap.size + 1) + 1 ≤ v2.heap.size := by have := hb.size; omega
  clear hb ac0 ac1 bc0 bc1
  have aS3 := Lib.hid (((aP2.out).alloc (.cells #[.int .i64 0, .int .u8 0] 23)).putO (h := v2.heap.size) (by omega) (i1) (i2))
  have bS3 := Lib.hid (((bP2.out).alloc (.cells #[.int .i64 0, .int .u8 0] 23)).putO (h := v2.heap.size) (by omega) (i1) (i2))
  have K3 := Lib.hid (isSt_new v2 0 0)
  have L3 := Lib.hid ((isSt_new v2 0 0).put (i1) (i2))
  have Q3 := Lib.hid (below_setRow (Q2.out.alloc Q2.out.size (.cells #[.int .i64 0, .int .u8 0] 23)) Q2.out.size (st2 (i1) (i2)))
  have SZ3 : Hid (((v2.alloc (.cells #[.int .i64 0, .int .u8 0] 23)).setRow v2.heap.size (st2 (i1) (i2))).heap.size = v2.heap.size + 1) := Lib.hid (by simp)
  obtain ⟨W3, hW⟩ : ∃ W, (v2.alloc (.cells #[.int .i64 0, .int .u8 0] 23)).setRow v2.heap.size (st2 (i1) (i2)) = W := ⟨_, rfl⟩
  rw [hW] at aS3 bS3 L3 Q3 SZ3
  have HW := Lib.hid hW
  clear hW
  have y3 : v2.heap.size + 1 ≤ W3.heap.size := by have := SZ3.out; omega
  have ac0 := (aS3.out).c0
  have ac1 := (aS3.out).c1
  have bc0 := (bS3.out).c0
  have bc1 := (bS3.out).c1
  have dc0 := (L3.out).c0
  have dc1 := (L3.out).c1
  go_wp2_with (((with_reducible refine stL (.tmp 13) (.tmp 46) _ (i1) (i2) 0 0 ?_ ?_ K3.out ?_); rfl; rfl; rw [HW.out]))
  clear K3 HW
  refine (HW.out _).mono ?_
  rintro x v4 ⟨rfl, hb⟩
  have aP4 := Lib.hid ((aS3.out).to hb (by omega))
  have bP4 := Lib.hid ((bS3.out).to hb (by omega))
  have dP4 := Lib.hid ((L3.out).to hb (by omega))
  have Q4 := Lib.hid (Q3.out.trans (hb.mono Q3.out.size))
  have y4 : v2.heap.size + 1 ≤ v4.heap.size := by have := hb.size; omega
  clear hb ac0 ac1 bc0 bc1 dc0 dc1
  have ac0 := (aP4.out).c0
  have ac1 := (aP4.out).c1
  have bc0 := (bP4.out).c0
  have bc1 := (bP4.out).c1
  have dc0 := (dP4.out).c0
  have dc1 := (dP4.out).c1
  go_wp2_with fail
  all_goals go_ret
  all_goals exact ⟨congrArg (fun b => Ending.returned (Value.bool b)) (rfl), Q4.out⟩

theorem back_101 (t n u k v p q i1 i2 z : Int) (w : World) 
    (HA : Hid (∀ w, Calls Tryd.prog 9 #[.agg #[.int .i64 t, .int .u8 n]] w fun x w' => x = .returned (.tuple #[.int .u64 p, .int .i64 1]) ∧ Below w.heap.size w w'))
    (HB : Hid (∀ w, Calls Tryd.prog 9 #[.agg #[.int .i64 u, .int .u8 k]] w fun x w' => x = .returned (.tuple #[.int .u64 q, .int .i64 0]) ∧ Below w.heap.size w w'))
    (HV : Hid (∀ w, Calls Tryd.prog 10 #[.int .u64 v] w fun x w' => x = .returned (.tuple #[.agg (st2 i1 i2), .int .i64 1]) ∧ Below w.heap.size w w'))
    (HW : Hid (∀ w, Calls Tryd.prog 9 #[.agg #[.int .i64 i1, .int .u8 i2]] w fun x w' => x = .returned (.tuple #[.int .u64 z, .int .i64 0]) ∧ Below w.heap.size w w')) :
    Calls Tryd.prog 3 #[.agg #[.int .i64 t, .int .u8 n], .agg #[.int .i64 u, .int .u8 k], .int .u64 v] w fun x w' => x = .returned (.bool true) ∧ Below w.heap.size w w' := by
  have I0 := Lib.hid ((isSt_new w t n).alloc (.cells #[.int .i64 u, .int .u8 k] 23))
  have I1 := Lib.hid (isSt_new (w.alloc (.cells #[.int .i64 t, .int .u8 n] 23)) u k)
  have BA := Lib.hid (((Below.refl w.heap.size w).alloc (Nat.le_refl _) (.cells #[.int .i64 t, .int .u8 n] 23)).alloc (by simp) (.cells #[.int .i64 u, .int .u8 k] 23))
  go_enter Tryd.func3, Tryd.ntmps3
  go_wp2_with fail
  refine (awake_calls _).mono ?_
  rintro x w1 ⟨rfl, hb1⟩
  have J0 := I0.out.to hb1 (by simp; omega)
  have J1 := I1.out.to hb1 (by simp)
  simp only [World.size_alloc] at J1
  have M0 := Lib.hid J0
  have M1 := Lib.hid J1
  have B1 := Lib.hid (BA.out.trans (hb1.mono BA.out.size))
  have z1 : w.heap.size + 1 + 1 ≤ w1.heap.size := by have := hb1.size; simpa using this
  clear hb1 J0 J1
  have ac0 := (M0.out).c0
  have ac1 := (M0.out).c1
  have bc0 := (M1.out).c0
  have bc1 := (M1.out).c1
  go_wp2_with fail
  refine (HA.out _).mono ?_
  rintro x v0 ⟨rfl, hb⟩
  have aP0 := Lib.hid ((M0.out).to hb (by omega))
  have bP0 := Lib.hid ((M1.out).to hb (by omega))
  have Q0 := Lib.hid (B1.out.trans (hb.mono B1.out.size))
  have y0 : (w.heap.size + 1) + 1 ≤ v0.heap.size := by have := hb.size; omega
  clear hb ac0 ac1 bc0 bc1
  have ac0 := (aP0.out).c0
  have ac1 := (aP0.out).c1
  have bc0 := (bP0.out).c0
  have bc1 := (bP0.out).c1
  go_wp2_with fail
  refine (HB.out _).mono ?_
  rintro x v1 ⟨rfl, hb⟩
  have aP1 := Lib.hid ((aP0.out).to hb (by omega))
  have bP1 := Lib.hid ((bP0.out).to hb (by omega))
  have Q1 := Lib.hid (Q0.out.trans (hb.mono Q0.out.size))
  have y1 : (w.heap.size + 1) + 1 ≤ v1.heap.size := by have := hb.size; omega
  clear hb ac0 ac1 bc0 bc1
  have ac0 := (aP1.out).c0
  have ac1 := (aP1.out).c1
  have bc0 := (bP1.out).c0
  have bc1 := (bP1.out).c1
  go_wp2_with fail
  refine (HV.out _).mono ?_
  rintro x v2 ⟨rfl, hb⟩
  have aP2 := Lib.hid ((aP1.out).to hb (by omega))
  have bP2 := Lib.hid ((bP1.out).to hb (by omega))
  have Q2 := Lib.hid (Q1.out.trans (hb.mono Q1.out.size))
  have y2 : (w.heap.size + 1) + 1 ≤ v2.heap.size := by have := hb.size; omega
  clear hb ac0 ac1 bc0 bc1
  have aS3 := Lib.hid (((aP2.out).alloc (.cells #[.int .i64 0, .int .u8 0] 23)).putO (h := v2.heap.size) (by omega) (i1) (i2))
  have bS3 := Lib.hid (((bP2.out).alloc (.cells #[.int .i64 0, .int .u8 0] 23)).putO (h := v2.heap.size) (by omega) (i1) (i2))
  have K3 := Lib.hid (isSt_new v2 0 0)
  have L3 := Lib.hid ((isSt_new v2 0 0).put (i1) (i2))
  have Q3 := Lib.hid (below_setRow (Q2.out.alloc Q2.out.size (.cells #[.int .i64 0, .int .u8 0] 23)) Q2.out.size (st2 (i1) (i2)))
  have SZ3 : Hid (((v2.alloc (.cells #[.int .i64 0, .int .u8 0] 23)).setRow v2.heap.size (st2 (i1) (i2))).heap.size = v2.heap.size + 1) := Lib.hid (by simp)
  obtain ⟨W3, hW⟩ : ∃ W, (v2.alloc (.cells #[.int .i64 0, .int .u8 0] 23)).setRow v2.heap.size (st2 (i1) (i2)) = W := ⟨_, rfl⟩
  rw [hW] at aS3 bS3 L3 Q3 SZ3
  have HW := Lib.hid hW
  clear hW
  have y3 : v2.heap.size + 1 ≤ W3.heap.size := by have := SZ3.out; omega
  have ac0 := (aS3.out).c0
  have ac1 := (aS3.out).c1
  have bc0 := (bS3.out).c0
  have bc1 := (bS3.out).c1
  have dc0 := (L3.out).c0
  have dc1 := (L3.out).c1
  go_wp2_with (((with_reducible refine stL (.tmp 13) (.tmp 46) _ (i1) (i2) 0 0 ?_ ?_ K3.out ?_); rfl; rfl; rw [HW.out]))
  clear K3 HW
  refine (HW.out _).mono ?_
  rintro x v4 ⟨rfl, hb⟩
  have aP4 := Lib.hid ((aS3.out).to hb (by omega))
  have bP4 := Lib.hid ((bS3.out).to hb (by omega))
  have dP4 := Lib.hid ((L3.out).to hb (by omega))
  have Q4 := Lib.hid (Q3.out.trans (hb.mono Q3.out.size))
  have y4 : v2.heap.size + 1 ≤ v4.heap.size := by have := hb.size; omega
  clear hb ac0 ac1 bc0 bc1 dc0 dc1
  have ac0 := (aP4.out).c0
  have ac1 := (aP4.out).c1
  have bc0 := (bP4.out).c0
  have bc1 := (bP4.out).c1
  have dc0 := (dP4.out).c0
  have dc1 := (dP4.out).c1
  go_wp2_with fail
  all_goals go_ret
  all_goals exact ⟨congrArg (fun b => Ending.returned (Value.bool b)) (rfl), Q4.out⟩

theorem back_111 (t n u k v p q i1 i2 z : Int) (w : World) 
    (HA : Hid (∀ w, Calls Tryd.prog 9 #[.agg #[.int .i64 t, .int .u8 n]] w fun x w' => x = .returned (.tuple #[.int .u64 p, .int .i64 1]) ∧ Below w.heap.size w w'))
    (HB : Hid (∀ w, Calls Tryd.prog 9 #[.agg #[.int .i64 u, .int .u8 k]] w fun x w' => x = .returned (.tuple #[.int .u64 q, .int .i64 1]) ∧ Below w.heap.size w w'))
    (HV : Hid (∀ w, Calls Tryd.prog 10 #[.int .u64 v] w fun x w' => x = .returned (.tuple #[.agg (st2 i1 i2), .int .i64 1]) ∧ Below w.heap.size w w'))
    (HW : Hid (∀ w, Calls Tryd.prog 9 #[.agg #[.int .i64 i1, .int .u8 i2]] w fun x w' => x = .returned (.tuple #[.int .u64 z, .int .i64 0]) ∧ Below w.heap.size w w')) :
    Calls Tryd.prog 3 #[.agg #[.int .i64 t, .int .u8 n], .agg #[.int .i64 u, .int .u8 k], .int .u64 v] w fun x w' => x = .returned (.bool true) ∧ Below w.heap.size w w' := by
  have I0 := Lib.hid ((isSt_new w t n).alloc (.cells #[.int .i64 u, .int .u8 k] 23))
  have I1 := Lib.hid (isSt_new (w.alloc (.cells #[.int .i64 t, .int .u8 n] 23)) u k)
  have BA := Lib.hid (((Below.refl w.heap.size w).alloc (Nat.le_refl _) (.cells #[.int .i64 t, .int .u8 n] 23)).alloc (by simp) (.cells #[.int .i64 u, .int .u8 k] 23))
  go_enter Tryd.func3, Tryd.ntmps3
  go_wp2_with fail
  refine (awake_calls _).mono ?_
  rintro x w1 ⟨rfl, hb1⟩
  have J0 := I0.out.to hb1 (by simp; omega)
  have J1 := I1.out.to hb1 (by simp)
  simp only [World.size_alloc] at J1
  have M0 := Lib.hid J0
  have M1 := Lib.hid J1
  have B1 := Lib.hid (BA.out.trans (hb1.mono BA.out.size))
  have z1 : w.heap.size + 1 + 1 ≤ w1.heap.size := by have := hb1.size; simpa using this
  clear hb1 J0 J1
  have ac0 := (M0.out).c0
  have ac1 := (M0.out).c1
  have bc0 := (M1.out).c0
  have bc1 := (M1.out).c1
  go_wp2_with fail
  refine (HA.out _).mono ?_
  rintro x v0 ⟨rfl, hb⟩
  have aP0 := Lib.hid ((M0.out).to hb (by omega))
  have bP0 := Lib.hid ((M1.out).to hb (by omega))
  have Q0 := Lib.hid (B1.out.trans (hb.mono B1.out.size))
  have y0 : (w.heap.size + 1) + 1 ≤ v0.heap.size := by have := hb.size; omega
  clear hb ac0 ac1 bc0 bc1
  have ac0 := (aP0.out).c0
  have ac1 := (aP0.out).c1
  have bc0 := (bP0.out).c0
  have bc1 := (bP0.out).c1
  go_wp2_with fail
  refine (HB.out _).mono ?_
  rintro x v1 ⟨rfl, hb⟩
  have aP1 := Lib.hid ((aP0.out).to hb (by omega))
  have bP1 := Lib.hid ((bP0.out).to hb (by omega))
  have Q1 := Lib.hid (Q0.out.trans (hb.mono Q0.out.size))
  have y1 : (w.heap.size + 1) + 1 ≤ v1.heap.size := by have := hb.size; omega
  clear hb ac0 ac1 bc0 bc1
  have ac0 := (aP1.out).c0
  have ac1 := (aP1.out).c1
  have bc0 := (bP1.out).c0
  have bc1 := (bP1.out).c1
  go_wp2_with fail
  refine (HV.out _).mono ?_
  rintro x v2 ⟨rfl, hb⟩
  have aP2 := Lib.hid ((aP1.out).to hb (by omega))
  have bP2 := Lib.hid ((bP1.out).to hb (by omega))
  have Q2 := Lib.hid (Q1.out.trans (hb.mono Q1.out.size))
  have y2 : (w.heap.size + 1) + 1 ≤ v2.heap.size := by have := hb.size; omega
  clear hb ac0 ac1 bc0 bc1
  have aS3 := Lib.hid (((aP2.out).alloc (.cells #[.int .i64 0, .int .u8 0] 23)).putO (h := v2.heap.size) (by omega) (i1) (i2))
  have bS3 := Lib.hid (((bP2.out).alloc (.cells #[.int .i64 0, .int .u8 0] 23)).putO (h := v2.heap.size) (by omega) (i1) (i2))
  have K3 := Lib.hid (isSt_new v2 0 0)
  have L3 := Lib.hid ((isSt_new v2 0 0).put (i1) (i2))
  have Q3 := Lib.hid (below_setRow (Q2.out.alloc Q2.out.size (.cells #[.int .i64 0, .int .u8 0] 23)) Q2.out.size (st2 (i1) (i2)))
  have SZ3 : Hid (((v2.alloc (.cells #[.int .i64 0, .int .u8 0] 23)).setRow v2.heap.size (st2 (i1) (i2))).heap.size = v2.heap.size + 1) := Lib.hid (by simp)
  obtain ⟨W3, hW⟩ : ∃ W, (v2.alloc (.cells #[.int .i64 0, .int .u8 0] 23)).setRow v2.heap.size (st2 (i1) (i2)) = W := ⟨_, rfl⟩
  rw [hW] at aS3 bS3 L3 Q3 SZ3
  have HW := Lib.hid hW
  clear hW
  have y3 : v2.heap.size + 1 ≤ W3.heap.size := by have := SZ3.out; omega
  have ac0 := (aS3.out).c0
  have ac1 := (aS3.out).c1
  have bc0 := (bS3.out).c0
  have bc1 := (bS3.out).c1
  have dc0 := (L3.out).c0
  have dc1 := (L3.out).c1
  go_wp2_with (((with_reducible refine stL (.tmp 13) (.tmp 46) _ (i1) (i2) 0 0 ?_ ?_ K3.out ?_); rfl; rfl; rw [HW.out]))
  clear K3 HW
  refine (HW.out _).mono ?_
  rintro x v4 ⟨rfl, hb⟩
  have aP4 := Lib.hid ((aS3.out).to hb (by omega))
  have bP4 := Lib.hid ((bS3.out).to hb (by omega))
  have dP4 := Lib.hid ((L3.out).to hb (by omega))
  have Q4 := Lib.hid (Q3.out.trans (hb.mono Q3.out.size))
  have y4 : v2.heap.size + 1 ≤ v4.heap.size := by have := hb.size; omega
  clear hb ac0 ac1 bc0 bc1 dc0 dc1
  have ac0 := (aP4.out).c0
  have ac1 := (aP4.out).c1
  have bc0 := (bP4.out).c0
  have bc1 := (bP4.out).c1
  have dc0 := (dP4.out).c0
  have dc1 := (dP4.out).c1
  go_wp2_with fail
  all_goals go_ret
  all_goals exact ⟨congrArg (fun b => Ending.returned (Value.bool b)) (rfl), Q4.out⟩

theorem back_010 (t n u k v p q i1 i2 : Int) (w : World) 
    (HA : Hid (∀ w, Calls Tryd.prog 9 #[.agg #[.int .i64 t, .int .u8 n]] w fun x w' => x = .returned (.tuple #[.int .u64 p, .int .i64 0]) ∧ Below w.heap.size w w'))
    (HB : Hid (∀ w, Calls Tryd.prog 9 #[.agg #[.int .i64 u, .int .u8 k]] w fun x w' => x = .returned (.tuple #[.int .u64 q, .int .i64 1]) ∧ Below w.heap.size w w'))
    (HU : Hid (∀ w, Calls Tryd.prog 10 #[.int .u64 p] w fun x w' => x = .returned (.tuple #[.agg (st2 t n), .int .i64 0]) ∧ Below w.heap.size w w'))
    (HV : Hid (∀ w, Calls Tryd.prog 10 #[.int .u64 v] w fun x w' => x = .returned (.tuple #[.agg (st2 i1 i2), .int .i64 0]) ∧ Below w.heap.size w w'))
    (HW : Hid (∀ w, Calls Tryd.prog 9 #[.agg #[.int .i64 i1, .int .u8 i2]] w fun x w' => x = .returned (.tuple #[.int .u64 v, .int .i64 0]) ∧ Below w.heap.size w w')) :
    Calls Tryd.prog 3 #[.agg #[.int .i64 t, .int .u8 n], .agg #[.int .i64 u, .int .u8 k], .int .u64 v] w fun x w' => x = .returned (.bool true) ∧ Below w.heap.size w w' := by
  have I0 := Lib.hid ((isSt_new w t n).alloc (.cells #[.int .i64 u, .int .u8 k] 23))
  have I1 := Lib.hid (isSt_new (w.alloc (.cells #[.int .i64 t, .int .u8 n] 23)) u k)
  have BA := Lib.hid (((Below.refl w.heap.size w).alloc (Nat.le_refl _) (.cells #[.int .i64 t, .int .u8 n] 23)).alloc (by simp) (.cells #[.int .i64 u, .int .u8 k] 23))
  go_enter Tryd.func3, Tryd.ntmps3
  go_wp2_with fail
  refine (awake_calls _).mono ?_
  rintro x w1 ⟨rfl, hb1⟩
  have J0 := I0.out.to hb1 (by simp; omega)
  have J1 := I1.out.to hb1 (by simp)
  simp only [World.size_alloc] at J1
  have M0 := Lib.hid J0
  have M1 := Lib.hid J1
  have B1 := Lib.hid (BA.out.trans (hb1.mono BA.out.size))
  have z1 : w.heap.size + 1 + 1 ≤ w1.heap.size := by have := hb1.size; simpa using this
  clear hb1 J0 J1
  have ac0 := (M0.out).c0
  have ac1 := (M0.out).c1
  have bc0 := (M1.out).c0
  have bc1 := (M1.out).c1
  go_wp2_with fail
  refine (HA.out _).mono ?_
  rintro x v0 ⟨rfl, hb⟩
  have aP0 := Lib.hid ((M0.out).to hb (by omega))
  have bP0 := Lib.hid ((M1.out).to hb (by omega))
  have Q0 := Lib.hid (B1.out.trans (hb.mono B1.out.size))
  have y0 : (w.heap.size + 1) + 1 ≤ v0.heap.size := by have := hb.size; omega
  clear hb ac0 ac1 bc0 bc1
  have ac0 := (aP0.out).c0
  have ac1 := (aP0.out).c1
  have bc0 := (bP0.out).c0
  have bc1 := (bP0.out).c1
  go_wp2_with fail
  refine (HB.out _).mono ?_
  rintro x v1 ⟨rfl, hb⟩
  have aP1 := Lib.hid ((aP0.out).to hb (by omega))
  have bP1 := Lib.hid ((bP0.out).to hb (by omega))
  have Q1 := Lib.hid (Q0.out.trans (hb.mono Q0.out.size))
  have y1 : (w.heap.size + 1) + 1 ≤ v1.heap.size := by have := hb.size; omega
  clear hb ac0 ac1 bc0 bc1
  have ac0 := (aP1.out).c0
  have ac1 := (aP1.out).c1
  have bc0 := (bP1.out).c0
  have bc1 := (bP1.out).c1
  go_wp2_with fail
  refine (HU.out _).mono ?_
  rintro x v2 ⟨rfl, hb⟩
  have aP2 := Lib.hid ((aP1.out).to hb (by omega))
  have bP2 := Lib.hid ((bP1.out).to hb (by omega))
  have Q2 := Lib.hid (Q1.out.trans (hb.mono Q1.out.size))
  have y2 : (w.heap.size + 1) + 1 ≤ v2.heap.size := by have := hb.size; omega
  clear hb ac0 ac1 bc0 bc1
  have aS3 := Lib.hid (((aP2.out).alloc (.cells #[.int .i64 0, .int .u8 0] 23)).putO (h := v2.heap.size) (by omega) (t) (n))
  have bS3 := Lib.hid (((bP2.out).alloc (.cells #[.int .i64 0, .int .u8 0] 23)).putO (h := v2.heap.size) (by omega) (t) (n))
  have K3 := Lib.hid (isSt_new v2 0 0)
  have L3 := Lib.hid ((isSt_new v2 0 0).put (t) (n))
  have Q3 := Lib.hid (below_setRow (Q2.out.alloc Q2.out.size (.cells #[.int .i64 0, .int .u8 0] 23)) Q2.out.size (st2 (t) (n)))
  have SZ3 : Hid (((v2.alloc (.cells #[.int .i64 0, .int .u8 0] 23)).setRow v2.heap.size (st2 (t) (n))).heap.size = v2.heap.size + 1) := Lib.hid (by simp)
  obtain ⟨W3, hW⟩ : ∃ W, (v2.alloc (.cells #[.int .i64 0, .int .u8 0] 23)).setRow v2.heap.size (st2 (t) (n)) = W := ⟨_, rfl⟩
  rw [hW] at aS3 bS3 L3 Q3 SZ3
  have HW := Lib.hid hW
  clear hW
  have y3 : v2.heap.size + 1 ≤ W3.heap.size := by have := SZ3.out; omega
  have ac0 := (aS3.out).c0
  have ac1 := (aS3.out).c1
  have bc0 := (bS3.out).c0
  have bc1 := (bS3.out).c1
  have cc0 := (L3.out).c0
  have cc1 := (L3.out).c1
  go_wp2_with (((with_reducible refine stL (.tmp 11) (.tmp 34) _ (t) (n) 0 0 ?_ ?_ K3.out ?_); rfl; rfl; rw [HW.out]))
  clear K3 HW
  refine (HV.out _).mono ?_
  rintro x v4 ⟨rfl, hb⟩
  have aP4 := Lib.hid ((aS3.out).to hb (by omega))
  have bP4 := Lib.hid ((bS3.out).to hb (by omega))
  have cP4 := Lib.hid ((L3.out).to hb (by omega))
  have Q4 := Lib.hid (Q3.out.trans (hb.mono Q3.out.size))
  have y4 : v2.heap.size + 1 ≤ v4.heap.size := by have := hb.size; omega
  clear hb ac0 ac1 bc0 bc1 cc0 cc1
  have aS5 := Lib.hid (((aP4.out).alloc (.cells #[.int .i64 0, .int .u8 0] 23)).putO (h := v4.heap.size) (by omega) (i1) (i2))
  have bS5 := Lib.hid (((bP4.out).alloc (.cells #[.int .i64 0, .int .u8 0] 23)).putO (h := v4.heap.size) (by omega) (i1) (i2))
  have cS5 := Lib.hid (((cP4.out).alloc (.cells #[.int .i64 0, .int .u8 0] 23)).putO (h := v4.heap.size) (by omega) (i1) (i2))
  have K5 := Lib.hid (isSt_new v4 0 0)
  have L5 := Lib.hid ((isSt_new v4 0 0).put (i1) (i2))
  have Q5 := Lib.hid (below_setRow (Q4.out.alloc Q4.out.size (.cells #[.int .i64 0, .int .u8 0] 23)) Q4.out.size (st2 (i1) (i2)))
  have SZ5 : Hid (((v4.alloc (.cells #[.int .i64 0, .int .u8 0] 23)).setRow v4.heap.size (st2 (i1) (i2))).heap.size = v4.heap.size + 1) := Lib.hid (by simp)
  obtain ⟨W5, hW⟩ : ∃ W, (v4.alloc (.cells #[.int .i64 0, .int .u8 0] 23)).setRow v4.heap.size (st2 (i1) (i2)) = W := ⟨_, rfl⟩
  rw [hW] at aS5 bS5 cS5 L5 Q5 SZ5
  have HW := Lib.hid hW
  clear hW
  have y5 : v4.heap.size + 1 ≤ W5.heap.size := by have := SZ5.out; omega
  have ac0 := (aS5.out).c0
  have ac1 := (aS5.out).c1
  have bc0 := (bS5.out).c0
  have bc1 := (bS5.out).c1
  have cc0 := (cS5.out).c0
  have cc1 := (cS5.out).c1
  have dc0 := (L5.out).c0
  have dc1 := (L5.out).c1
  go_wp2_with (((with_reducible refine stL (.tmp 13) (.tmp 46) _ (i1) (i2) 0 0 ?_ ?_ K5.out ?_); rfl; rfl; rw [HW.out]))
  clear K5 HW
  refine (HW.out _).mono ?_
  rintro x v6 ⟨rfl, hb⟩
  have aP6 := Lib.hid ((aS5.out).to hb (by omega))
  have bP6 := Lib.hid ((bS5.out).to hb (by omega))
  have cP6 := Lib.hid ((cS5.out).to hb (by omega))
  have dP6 := Lib.hid ((L5.out).to hb (by omega))
  have Q6 := Lib.hid (Q5.out.trans (hb.mono Q5.out.size))
  have y6 : v4.heap.size + 1 ≤ v6.heap.size := by have := hb.size; omega
  clear hb ac0 ac1 bc0 bc1 cc0 cc1 dc0 dc1
  have ac0 := (aP6.out).c0
  have ac1 := (aP6.out).c1
  have bc0 := (bP6.out).c0
  have bc1 := (bP6.out).c1
  have cc0 := (cP6.out).c0
  have cc1 := (cP6.out).c1
  have dc0 := (dP6.out).c0
  have dc1 := (dP6.out).c1
  go_wp2_with fail
  all_goals go_ret
  all_goals exact ⟨congrArg (fun b => Ending.returned (Value.bool b)) (rfl), Q6.out⟩

theorem back_011 (t n u k v p q i1 i2 z : Int) (w : World) 
    (HA : Hid (∀ w, Calls Tryd.prog 9 #[.agg #[.int .i64 t, .int .u8 n]] w fun x w' => x = .returned (.tuple #[.int .u64 p, .int .i64 0]) ∧ Below w.heap.size w w'))
    (HB : Hid (∀ w, Calls Tryd.prog 9 #[.agg #[.int .i64 u, .int .u8 k]] w fun x w' => x = .returned (.tuple #[.int .u64 q, .int .i64 1]) ∧ Below w.heap.size w w'))
    (HU : Hid (∀ w, Calls Tryd.prog 10 #[.int .u64 p] w fun x w' => x = .returned (.tuple #[.agg (st2 t n), .int .i64 0]) ∧ Below w.heap.size w w'))
    (HV : Hid (∀ w, Calls Tryd.prog 10 #[.int .u64 v] w fun x w' => x = .returned (.tuple #[.agg (st2 i1 i2), .int .i64 1]) ∧ Below w.heap.size w w'))
    (HW : Hid (∀ w, Calls Tryd.prog 9 #[.agg #[.int .i64 i1, .int .u8 i2]] w fun x w' => x = .returned (.tuple #[.int .u64 z, .int .i64 0]) ∧ Below w.heap.size w w')) :
    Calls Tryd.prog 3 #[.agg #[.int .i64 t, .int .u8 n], .agg #[.int .i64 u, .int .u8 k], .int .u64 v] w fun x w' => x = .returned (.bool true) ∧ Below w.heap.size w w' := by
  have I0 := Lib.hid ((isSt_new w t n).alloc (.cells #[.int .i64 u, .int .u8 k] 23))
  have I1 := Lib.hid (isSt_new (w.alloc (.cells #[.int .i64 t, .int .u8 n] 23)) u k)
  have BA := Lib.hid (((Below.refl w.heap.size w).alloc (Nat.le_refl _) (.cells #[.int .i64 t, .int .u8 n] 23)).alloc (by simp) (.cells #[.int .i64 u, .int .u8 k] 23))
  go_enter Tryd.func3, Tryd.ntmps3
  go_wp2_with fail
  refine (awake_calls _).mono ?_
  rintro x w1 ⟨rfl, hb1⟩
  have J0 := I0.out.to hb1 (by simp; omega)
  have J1 := I1.out.to hb1 (by simp)
  simp only [World.size_alloc] at J1
  have M0 := Lib.hid J0
  have M1 := Lib.hid J1
  have B1 := Lib.hid (BA.out.trans (hb1.mono BA.out.size))
  have z1 : w.heap.size + 1 + 1 ≤ w1.heap.size := by have := hb1.size; simpa using this
  clear hb1 J0 J1
  have ac0 := (M0.out).c0
  have ac1 := (M0.out).c1
  have bc0 := (M1.out).c0
  have bc1 := (M1.out).c1
  go_wp2_with fail
  refine (HA.out _).mono ?_
  rintro x v0 ⟨rfl, hb⟩
  have aP0 := Lib.hid ((M0.out).to hb (by omega))
  have bP0 := Lib.hid ((M1.out).to hb (by omega))
  have Q0 := Lib.hid (B1.out.trans (hb.mono B1.out.size))
  have y0 : (w.heap.size + 1) + 1 ≤ v0.heap.size := by have := hb.size; omega
  clear hb ac0 ac1 bc0 bc1
  have ac0 := (aP0.out).c0
  have ac1 := (aP0.out).c1
  have bc0 := (bP0.out).c0
  have bc1 := (bP0.out).c1
  go_wp2_with fail
  refine (HB.out _).mono ?_
  rintro x v1 ⟨rfl, hb⟩
  have aP1 := Lib.hid ((aP0.out).to hb (by omega))
  have bP1 := Lib.hid ((bP0.out).to hb (by omega))
  have Q1 := Lib.hid (Q0.out.trans (hb.mono Q0.out.size))
  have y1 : (w.heap.size + 1) + 1 ≤ v1.heap.size := by have := hb.size; omega
  clear hb ac0 ac1 bc0 bc1
  have ac0 := (aP1.out).c0
  have ac1 := (aP1.out).c1
  have bc0 := (bP1.out).c0
  have bc1 := (bP1.out).c1
  go_wp2_with fail
  refine (HU.out _).mono ?_
  rintro x v2 ⟨rfl, hb⟩
  have aP2 := Lib.hid ((aP1.out).to hb (by omega))
  have bP2 := Lib.hid ((bP1.out).to hb (by omega))
  have Q2 := Lib.hid (Q1.out.trans (hb.mono Q1.out.size))
  have y2 : (w.heap.size + 1) + 1 ≤ v2.heap.size := by have := hb.size; omega
  clear hb ac0 ac1 bc0 bc1
  have aS3 := Lib.hid (((aP2.out).alloc (.cells #[.int .i64 0, .int .u8 0] 23)).putO (h := v2.heap.size) (by omega) (t) (n))
  have bS3 := Lib.hid (((bP2.out).alloc (.cells #[.int .i64 0, .int .u8 0] 23)).putO (h := v2.heap.size) (by omega) (t) (n))
  have K3 := Lib.hid (isSt_new v2 0 0)
  have L3 := Lib.hid ((isSt_new v2 0 0).put (t) (n))
  have Q3 := Lib.hid (below_setRow (Q2.out.alloc Q2.out.size (.cells #[.int .i64 0, .int .u8 0] 23)) Q2.out.size (st2 (t) (n)))
  have SZ3 : Hid (((v2.alloc (.cells #[.int .i64 0, .int .u8 0] 23)).setRow v2.heap.size (st2 (t) (n))).heap.size = v2.heap.size + 1) := Lib.hid (by simp)
  obtain ⟨W3, hW⟩ : ∃ W, (v2.alloc (.cells #[.int .i64 0, .int .u8 0] 23)).setRow v2.heap.size (st2 (t) (n)) = W := ⟨_, rfl⟩
  rw [hW] at aS3 bS3 L3 Q3 SZ3
  have HW := Lib.hid hW
  clear hW
  have y3 : v2.heap.size + 1 ≤ W3.heap.size := by have := SZ3.out; omega
  have ac0 := (aS3.out).c0
  have ac1 := (aS3.out).c1
  have bc0 := (bS3.out).c0
  have bc1 := (bS3.out).c1
  have cc0 := (L3.out).c0
  have cc1 := (L3.out).c1
  go_wp2_with (((with_reducible refine stL (.tmp 11) (.tmp 34) _ (t) (n) 0 0 ?_ ?_ K3.out ?_); rfl; rfl; rw [HW.out]))
  clear K3 HW
  refine (HV.out _).mono ?_
  rintro x v4 ⟨rfl, hb⟩
  have aP4 := Lib.hid ((aS3.out).to hb (by omega))
  have bP4 := Lib.hid ((bS3.out).to hb (by omega))
  have cP4 := Lib.hid ((L3.out).to hb (by omega))
  have Q4 := Lib.hid (Q3.out.trans (hb.mono Q3.out.size))
  have y4 : v2.heap.size + 1 ≤ v4.heap.size := by have := hb.size; omega
  clear hb ac0 ac1 bc0 bc1 cc0 cc1
  have aS5 := Lib.hid (((aP4.out).alloc (.cells #[.int .i64 0, .int .u8 0] 23)).putO (h := v4.heap.size) (by omega) (i1) (i2))
  have bS5 := Lib.hid (((bP4.out).alloc (.cells #[.int .i64 0, .int .u8 0] 23)).putO (h := v4.heap.size) (by omega) (i1) (i2))
  have cS5 := Lib.hid (((cP4.out).alloc (.cells #[.int .i64 0, .int .u8 0] 23)).putO (h := v4.heap.size) (by omega) (i1) (i2))
  have K5 := Lib.hid (isSt_new v4 0 0)
  have L5 := Lib.hid ((isSt_new v4 0 0).put (i1) (i2))
  have Q5 := Lib.hid (below_setRow (Q4.out.alloc Q4.out.size (.cells #[.int .i64 0, .int .u8 0] 23)) Q4.out.size (st2 (i1) (i2)))
  have SZ5 : Hid (((v4.alloc (.cells #[.int .i64 0, .int .u8 0] 23)).setRow v4.heap.size (st2 (i1) (i2))).heap.size = v4.heap.size + 1) := Lib.hid (by simp)
  obtain ⟨W5, hW⟩ : ∃ W, (v4.alloc (.cells #[.int .i64 0, .int .u8 0] 23)).setRow v4.heap.size (st2 (i1) (i2)) = W := ⟨_, rfl⟩
  rw [hW] at aS5 bS5 cS5 L5 Q5 SZ5
  have HW := Lib.hid hW
  clear hW
  have y5 : v4.heap.size + 1 ≤ W5.heap.size := by have := SZ5.out; omega
  have ac0 := (aS5.out).c0
  have ac1 := (aS5.out).c1
  have bc0 := (bS5.out).c0
  have bc1 := (bS5.out).c1
  have cc0 := (cS5.out).c0
  have cc1 := (cS5.out).c1
  have dc0 := (L5.out).c0
  have dc1 := (L5.out).c1
  go_wp2_with (((with_reducible refine stL (.tmp 13) (.tmp 46) _ (i1) (i2) 0 0 ?_ ?_ K5.out ?_); rfl; rfl; rw [HW.out]))
  clear K5 HW
  refine (HW.out _).mono ?_
  rintro x v6 ⟨rfl, hb⟩
  have aP6 := Lib.hid ((aS5.out).to hb (by omega))
  have bP6 := Lib.hid ((bS5.out).to hb (by omega))
  have cP6 := Lib.hid ((cS5.out).to hb (by omega))
  have dP6 := Lib.hid ((L5.out).to hb (by omega))
  have Q6 := Lib.hid (Q5.out.trans (hb.mono Q5.out.size))
  have y6 : v4.heap.size + 1 ≤ v6.heap.size := by have := hb.size; omega
  clear hb ac0 ac1 bc0 bc1 cc0 cc1 dc0 dc1
  have ac0 := (aP6.out).c0
  have ac1 := (aP6.out).c1
  have bc0 := (bP6.out).c0
  have bc1 := (bP6.out).c1
  have cc0 := (cP6.out).c0
  have cc1 := (cP6.out).c1
  have dc0 := (dP6.out).c0
  have dc1 := (dP6.out).c1
  go_wp2_with fail
  all_goals go_ret
  all_goals exact ⟨congrArg (fun b => Ending.returned (Value.bool b)) (rfl), Q6.out⟩

theorem back_000s (t n v p i1 i2 c : Int) (w : World) (hc : ¬ c < 0)
    (HA : Hid (∀ w, Calls Tryd.prog 9 #[.agg #[.int .i64 t, .int .u8 n]] w fun x w' => x = .returned (.tuple #[.int .u64 p, .int .i64 0]) ∧ Below w.heap.size w w'))
    (HU : Hid (∀ w, Calls Tryd.prog 10 #[.int .u64 p] w fun x w' => x = .returned (.tuple #[.agg (st2 t n), .int .i64 0]) ∧ Below w.heap.size w w'))
    (HV : Hid (∀ w, Calls Tryd.prog 10 #[.int .u64 v] w fun x w' => x = .returned (.tuple #[.agg (st2 i1 i2), .int .i64 0]) ∧ Below w.heap.size w w'))
    (HW : Hid (∀ w, Calls Tryd.prog 9 #[.agg #[.int .i64 i1, .int .u8 i2]] w fun x w' => x = .returned (.tuple #[.int .u64 v, .int .i64 0]) ∧ Below w.heap.size w w'))
    (HC : Hid (∀ w, Calls Tryd.prog 11 #[.agg #[.int .i64 t, .int .u8 n], .agg #[.int .i64 t, .int .u8 n]] w fun x w' => x = .returned (.int .i64 c) ∧ Below w.heap.size w w')) :
    Calls Tryd.prog 3 #[.agg #[.int .i64 t, .int .u8 n], .agg #[.int .i64 t, .int .u8 n], .int .u64 v] w fun x w' => x = .returned (.bool true) ∧ Below w.heap.size w w' := by
  have I0 := Lib.hid ((isSt_new w t n).alloc (.cells #[.int .i64 t, .int .u8 n] 23))
  have I1 := Lib.hid (isSt_new (w.alloc (.cells #[.int .i64 t, .int .u8 n] 23)) t n)
  have BA := Lib.hid (((Below.refl w.heap.size w).alloc (Nat.le_refl _) (.cells #[.int .i64 t, .int .u8 n] 23)).alloc (by simp) (.cells #[.int .i64 t, .int .u8 n] 23))
  go_enter Tryd.func3, Tryd.ntmps3
  go_wp2_with fail
  refine (awake_calls _).mono ?_
  rintro x w1 ⟨rfl, hb1⟩
  have J0 := I0.out.to hb1 (by simp; omega)
  have J1 := I1.out.to hb1 (by simp)
  simp only [World.size_alloc] at J1
  have M0 := Lib.hid J0
  have M1 := Lib.hid J1
  have B1 := Lib.hid (BA.out.trans (hb1.mono BA.out.size))
  have z1 : w.heap.size + 1 + 1 ≤ w1.heap.size := by have := hb1.size; simpa using this
  clear hb1 J0 J1
  have ac0 := (M0.out).c0
  have ac1 := (M0.out).c1
  have bc0 := (M1.out).c0
  have bc1 := (M1.out).c1
  go_wp2_with fail
  refine (HA.out _).mono ?_
  rintro x v0 ⟨rfl, hb⟩
  have aP0 := Lib.hid ((M0.out).to hb (by omega))
  have bP0 := Lib.hid ((M1.out).to hb (by omega))
  have Q0 := Lib.hid (B1.out.trans (hb.mono B1.out.size))
  have y0 : (w.heap.size + 1) + 1 ≤ v0.heap.size := by have := hb.size; omega
  clear hb ac0 ac1 bc0 bc1
  have ac0 := (aP0.out).c0
  have ac1 := (aP0.out).c1
  have bc0 := (bP0.out).c0
  have bc1 := (bP0.out).c1
  go_wp2_with fail
  refine (HA.out _).mono ?_
  rintro x v1 ⟨rfl, hb⟩
  have aP1 := Lib.hid ((aP0.out).to hb (by omega))
  have bP1 := Lib.hid ((bP0.out).to hb (by omega))
  have Q1 := Lib.hid (Q0.out.trans (hb.mono Q0.out.size))
  have y1 : (w.heap.size + 1) + 1 ≤ v1.heap.size := by have := hb.size; omega
  clear hb ac0 ac1 bc0 bc1
  have ac0 := (aP1.out).c0
  have ac1 := (aP1.out).c1
  have bc0 := (bP1.out).c0
  have bc1 := (bP1.out).c1
  go_wp2_with fail
  refine (HU.out _).mono ?_
  rintro x v2 ⟨rfl, hb⟩
  have aP2 := Lib.hid ((aP1.out).to hb (by omega))
  have bP2 := Lib.hid ((bP1.out).to hb (by omega))
  have Q2 := Lib.hid (Q1.out.trans (hb.mono Q1.out.size))
  have y2 : (w.heap.size + 1) + 1 ≤ v2.heap.size := by have := hb.size; omega
  clear hb ac0 ac1 bc0 bc1
  have aS3 := Lib.hid (((aP2.out).alloc (.cells #[.int .i64 0, .int .u8 0] 23)).putO (h := v2.heap.size) (by omega) (t) (n))
  have bS3 := Lib.hid (((bP2.out).alloc (.cells #[.int .i64 0, .int .u8 0] 23)).putO (h := v2.heap.size) (by omega) (t) (n))
  have K3 := Lib.hid (isSt_new v2 0 0)
  have L3 := Lib.hid ((isSt_new v2 0 0).put (t) (n))
  have Q3 := Lib.hid (below_setRow (Q2.out.alloc Q2.out.size (.cells #[.int .i64 0, .int .u8 0] 23)) Q2.out.size (st2 (t) (n)))
  have SZ3 : Hid (((v2.alloc (.cells #[.int .i64 0, .int .u8 0] 23)).setRow v2.heap.size (st2 (t) (n))).heap.size = v2.heap.size + 1) := Lib.hid (by simp)
  obtain ⟨W3, hW⟩ : ∃ W, (v2.alloc (.cells #[.int .i64 0, .int .u8 0] 23)).setRow v2.heap.size (st2 (t) (n)) = W := ⟨_, rfl⟩
  rw [hW] at aS3 bS3 L3 Q3 SZ3
  have HW := Lib.hid hW
  clear hW
  have y3 : v2.heap.size + 1 ≤ W3.heap.size := by have := SZ3.out; omega
  have ac0 := (aS3.out).c0
  have ac1 := (aS3.out).c1
  have bc0 := (bS3.out).c0
  have bc1 := (bS3.out).c1
  have cc0 := (L3.out).c0
  have cc1 := (L3.out).c1
  go_wp2_with (((with_reducible refine stL (.tmp 11) (.tmp 34) _ (t) (n) 0 0 ?_ ?_ K3.out ?_); rfl; rfl; rw [HW.out]))
  clear K3 HW
  refine (HV.out _).mono ?_
  rintro x v4 ⟨rfl, hb⟩
  have aP4 := Lib.hid ((aS3.out).to hb (by omega))
  have bP4 := Lib.hid ((bS3.out).to hb (by omega))
  have cP4 := Lib.hid ((L3.out).to hb (by omega))
  have Q4 := Lib.hid (Q3.out.trans (hb.mono Q3.out.size))
  have y4 : v2.heap.size + 1 ≤ v4.heap.size := by have := hb.size; omega
  clear hb ac0 ac1 bc0 bc1 cc0 cc1
  have aS5 := Lib.hid (((aP4.out).alloc (.cells #[.int .i64 0, .int .u8 0] 23)).putO (h := v4.heap.size) (by omega) (i1) (i2))
  have bS5 := Lib.hid (((bP4.out).alloc (.cells #[.int .i64 0, .int .u8 0] 23)).putO (h := v4.heap.size) (by omega) (i1) (i2))
  have cS5 := Lib.hid (((cP4.out).alloc (.cells #[.int .i64 0, .int .u8 0] 23)).putO (h := v4.heap.size) (by omega) (i1) (i2))
  have K5 := Lib.hid (isSt_new v4 0 0)
  have L5 := Lib.hid ((isSt_new v4 0 0).put (i1) (i2))
  have Q5 := Lib.hid (below_setRow (Q4.out.alloc Q4.out.size (.cells #[.int .i64 0, .int .u8 0] 23)) Q4.out.size (st2 (i1) (i2)))
  have SZ5 : Hid (((v4.alloc (.cells #[.int .i64 0, .int .u8 0] 23)).setRow v4.heap.size (st2 (i1) (i2))).heap.size = v4.heap.size + 1) := Lib.hid (by simp)
  obtain ⟨W5, hW⟩ : ∃ W, (v4.alloc (.cells #[.int .i64 0, .int .u8 0] 23)).setRow v4.heap.size (st2 (i1) (i2)) = W := ⟨_, rfl⟩
  rw [hW] at aS5 bS5 cS5 L5 Q5 SZ5
  have HW := Lib.hid hW
  clear hW
  have y5 : v4.heap.size + 1 ≤ W5.heap.size := by have := SZ5.out; omega
  have ac0 := (aS5.out).c0
  have ac1 := (aS5.out).c1
  have bc0 := (bS5.out).c0
  have bc1 := (bS5.out).c1
  have cc0 := (cS5.out).c0
  have cc1 := (cS5.out).c1
  have dc0 := (L5.out).c0
  have dc1 := (L5.out).c1
  go_wp2_with (((with_reducible refine stL (.tmp 13) (.tmp 46) _ (i1) (i2) 0 0 ?_ ?_ K5.out ?_); rfl; rfl; rw [HW.out]))
  clear K5 HW
  refine (HW.out _).mono ?_
  rintro x v6 ⟨rfl, hb⟩
  have aP6 := Lib.hid ((aS5.out).to hb (by omega))
  have bP6 := Lib.hid ((bS5.out).to hb (by omega))
  have cP6 := Lib.hid ((cS5.out).to hb (by omega))
  have dP6 := Lib.hid ((L5.out).to hb (by omega))
  have Q6 := Lib.hid (Q5.out.trans (hb.mono Q5.out.size))
  have y6 : v4.heap.size + 1 ≤ v6.heap.size := by have := hb.size; omega
  clear hb ac0 ac1 bc0 bc1 cc0 cc1 dc0 dc1
  have ac0 := (aP6.out).c0
  have ac1 := (aP6.out).c1
  have bc0 := (bP6.out).c0
  have bc1 := (bP6.out).c1
  have cc0 := (cP6.out).c0
  have cc1 := (cP6.out).c1
  have dc0 := (dP6.out).c0
  have dc1 := (dP6.out).c1
  go_wp2_with fail
  refine (HC.out _).mono ?_
  rintro x v7 ⟨rfl, hb⟩
  have aP7 := Lib.hid ((aP6.out).to hb (by omega))
  have bP7 := Lib.hid ((bP6.out).to hb (by omega))
  have cP7 := Lib.hid ((cP6.out).to hb (by omega))
  have dP7 := Lib.hid ((dP6.out).to hb (by omega))
  have Q7 := Lib.hid (Q6.out.trans (hb.mono Q6.out.size))
  have y7 : v4.heap.size + 1 ≤ v7.heap.size := by have := hb.size; omega
  clear hb ac0 ac1 bc0 bc1 cc0 cc1 dc0 dc1
  have ac0 := (aP7.out).c0
  have ac1 := (aP7.out).c1
  have bc0 := (bP7.out).c0
  have bc1 := (bP7.out).c1
  have cc0 := (cP7.out).c0
  have cc1 := (cP7.out).c1
  have dc0 := (dP7.out).c0
  have dc1 := (dP7.out).c1
  all_goals go_wp2_with fail
  all_goals go_ret
  all_goals exact ⟨congrArg (fun b => Ending.returned (Value.bool b)) (by simp [hc]), Q7.out⟩

theorem back_001s (t n v p i1 i2 z c : Int) (w : World) (hc : ¬ c < 0)
    (HA : Hid (∀ w, Calls Tryd.prog 9 #[.agg #[.int .i64 t, .int .u8 n]] w fun x w' => x = .returned (.tuple #[.int .u64 p, .int .i64 0]) ∧ Below w.heap.size w w'))
    (HU : Hid (∀ w, Calls Tryd.prog 10 #[.int .u64 p] w fun x w' => x = .returned (.tuple #[.agg (st2 t n), .int .i64 0]) ∧ Below w.heap.size w w'))
    (HV : Hid (∀ w, Calls Tryd.prog 10 #[.int .u64 v] w fun x w' => x = .returned (.tuple #[.agg (st2 i1 i2), .int .i64 1]) ∧ Below w.heap.size w w'))
    (HW : Hid (∀ w, Calls Tryd.prog 9 #[.agg #[.int .i64 i1, .int .u8 i2]] w fun x w' => x = .returned (.tuple #[.int .u64 z, .int .i64 0]) ∧ Below w.heap.size w w'))
    (HC : Hid (∀ w, Calls Tryd.prog 11 #[.agg #[.int .i64 t, .int .u8 n], .agg #[.int .i64 t, .int .u8 n]] w fun x w' => x = .returned (.int .i64 c) ∧ Below w.heap.size w w')) :
    Calls Tryd.prog 3 #[.agg #[.int .i64 t, .int .u8 n], .agg #[.int .i64 t, .int .u8 n], .int .u64 v] w fun x w' => x = .returned (.bool true) ∧ Below w.heap.size w w' := by
  have I0 := Lib.hid ((isSt_new w t n).alloc (.cells #[.int .i64 t, .int .u8 n] 23))
  have I1 := Lib.hid (isSt_new (w.alloc (.cells #[.int .i64 t, .int .u8 n] 23)) t n)
  have BA := Lib.hid (((Below.refl w.heap.size w).alloc (Nat.le_refl _) (.cells #[.int .i64 t, .int .u8 n] 23)).alloc (by simp) (.cells #[.int .i64 t, .int .u8 n] 23))
  go_enter Tryd.func3, Tryd.ntmps3
  go_wp2_with fail
  refine (awake_calls _).mono ?_
  rintro x w1 ⟨rfl, hb1⟩
  have J0 := I0.out.to hb1 (by simp; omega)
  have J1 := I1.out.to hb1 (by simp)
  simp only [World.size_alloc] at J1
  have M0 := Lib.hid J0
  have M1 := Lib.hid J1
  have B1 := Lib.hid (BA.out.trans (hb1.mono BA.out.size))
  have z1 : w.heap.size + 1 + 1 ≤ w1.heap.size := by have := hb1.size; simpa using this
  clear hb1 J0 J1
  have ac0 := (M0.out).c0
  have ac1 := (M0.out).c1
  have bc0 := (M1.out).c0
  have bc1 := (M1.out).c1
  go_wp2_with fail
  refine (HA.out _).mono ?_
  rintro x v0 ⟨rfl, hb⟩
  have aP0 := Lib.hid ((M0.out).to hb (by omega))
  have bP0 := Lib.hid ((M1.out).to hb (by omega))
  have Q0 := Lib.hid (B1.out.trans (hb.mono B1.out.size))
  have y0 : (w.heap.size + 1) + 1 ≤ v0.heap.size := by have := hb.size; omega
  clear hb ac0 ac1 bc0 bc1
  have ac0 := (aP0.out).c0
  have ac1 := (aP0.out).c1
  have bc0 := (bP0.out).c0
  have bc1 := (bP0.out).c1
  go_wp2_with fail
  refine (HA.out _).mono ?_
  rintro x v1 ⟨rfl, hb⟩
  have aP1 := Lib.hid ((aP0.out).to hb (by omega))
  have bP1 := Lib.hid ((bP0.out).to hb (by omega))
  have Q1 := Lib.hid (Q0.out.trans (hb.mono Q0.out.size))
  have y1 : (w.heap.size + 1) + 1 ≤ v1.heap.size := by have := hb.size; omega
  clear hb ac0 ac1 bc0 bc1
  have ac0 := (aP1.out).c0
  have ac1 := (aP1.out).c1
  have bc0 := (bP1.out).c0
  have bc1 := (bP1.out).c1
  go_wp2_with fail
  refine (HU.out _).mono ?_
  rintro x v2 ⟨rfl, hb⟩
  have aP2 := Lib.hid ((aP1.out).to hb (by omega))
  have bP2 := Lib.hid ((bP1.out).to hb (by omega))
  have Q2 := Lib.hid (Q1.out.trans (hb.mono Q1.out.size))
  have y2 : (w.heap.size + 1) + 1 ≤ v2.heap.size := by have := hb.size; omega
  clear hb ac0 ac1 bc0 bc1
  have aS3 := Lib.hid (((aP2.out).alloc (.cells #[.int .i64 0, .int .u8 0] 23)).putO (h := v2.heap.size) (by omega) (t) (n))
  have bS3 := Lib.hid (((bP2.out).alloc (.cells #[.int .i64 0, .int .u8 0] 23)).putO (h := v2.heap.size) (by omega) (t) (n))
  have K3 := Lib.hid (isSt_new v2 0 0)
  have L3 := Lib.hid ((isSt_new v2 0 0).put (t) (n))
  have Q3 := Lib.hid (below_setRow (Q2.out.alloc Q2.out.size (.cells #[.int .i64 0, .int .u8 0] 23)) Q2.out.size (st2 (t) (n)))
  have SZ3 : Hid (((v2.alloc (.cells #[.int .i64 0, .int .u8 0] 23)).setRow v2.heap.size (st2 (t) (n))).heap.size = v2.heap.size + 1) := Lib.hid (by simp)
  obtain ⟨W3, hW⟩ : ∃ W, (v2.alloc (.cells #[.int .i64 0, .int .u8 0] 23)).setRow v2.heap.size (st2 (t) (n)) = W := ⟨_, rfl⟩
  rw [hW] at aS3 bS3 L3 Q3 SZ3
  have HW := Lib.hid hW
  clear hW
  have y3 : v2.heap.size + 1 ≤ W3.heap.size := by have := SZ3.out; omega
  have ac0 := (aS3.out).c0
  have ac1 := (aS3.out).c1
  have bc0 := (bS3.out).c0
  have bc1 := (bS3.out).c1
  have cc0 := (L3.out).c0
  have cc1 := (L3.out).c1
  go_wp2_with (((with_reducible refine stL (.tmp 11) (.tmp 34) _ (t) (n) 0 0 ?_ ?_ K3.out ?_); rfl; rfl; rw [HW.out]))
  clear K3 HW
  refine (HV.out _).mono ?_
  rintro x v4 ⟨rfl, hb⟩
  have aP4 := Lib.hid ((aS3.out).to hb (by omega))
  have bP4 := Lib.hid ((bS3.out).to hb (by omega))
  have cP4 := Lib.hid ((L3.out).to hb (by omega))
  have Q4 := Lib.hid (Q3.out.trans (hb.mono Q3.out.size))
  have y4 : v2.heap.size + 1 ≤ v4.heap.size := by have := hb.size; omega
  clear hb ac0 ac1 bc0 bc1 cc0 cc1
  have aS5 := Lib.hid (((aP4.out).alloc (.cells #[.int .i64 0, .int .u8 0] 23)).putO (h := v4.heap.size) (by omega) (i1) (i2))
  have bS5 := Lib.hid (((bP4.out).alloc (.cells #[.int .i64 0, .int .u8 0] 23)).putO (h := v4.heap.size) (by omega) (i1) (i2))
  have cS5 := Lib.hid (((cP4.out).alloc (.cells #[.int .i64 0, .int .u8 0] 23)).putO (h := v4.heap.size) (by omega) (i1) (i2))
  have K5 := Lib.hid (isSt_new v4 0 0)
  have L5 := Lib.hid ((isSt_new v4 0 0).put (i1) (i2))
  have Q5 := Lib.hid (below_setRow (Q4.out.alloc Q4.out.size (.cells #[.int .i64 0, .int .u8 0] 23)) Q4.out.size (st2 (i1) (i2)))
  have SZ5 : Hid (((v4.alloc (.cells #[.int .i64 0, .int .u8 0] 23)).setRow v4.heap.size (st2 (i1) (i2))).heap.size = v4.heap.size + 1) := Lib.hid (by simp)
  obtain ⟨W5, hW⟩ : ∃ W, (v4.alloc (.cells #[.int .i64 0, .int .u8 0] 23)).setRow v4.heap.size (st2 (i1) (i2)) = W := ⟨_, rfl⟩
  rw [hW] at aS5 bS5 cS5 L5 Q5 SZ5
  have HW := Lib.hid hW
  clear hW
  have y5 : v4.heap.size + 1 ≤ W5.heap.size := by have := SZ5.out; omega
  have ac0 := (aS5.out).c0
  have ac1 := (aS5.out).c1
  have bc0 := (bS5.out).c0
  have bc1 := (bS5.out).c1
  have cc0 := (cS5.out).c0
  have cc1 := (cS5.out).c1
  have dc0 := (L5.out).c0
  have dc1 := (L5.out).c1
  go_wp2_with (((with_reducible refine stL (.tmp 13) (.tmp 46) _ (i1) (i2) 0 0 ?_ ?_ K5.out ?_); rfl; rfl; rw [HW.out]))
  clear K5 HW
  refine (HW.out _).mono ?_
  rintro x v6 ⟨rfl, hb⟩
  have aP6 := Lib.hid ((aS5.out).to hb (by omega))
  have bP6 := Lib.hid ((bS5.out).to hb (by omega))
  have cP6 := Lib.hid ((cS5.out).to hb (by omega))
  have dP6 := Lib.hid ((L5.out).to hb (by omega))
  have Q6 := Lib.hid (Q5.out.trans (hb.mono Q5.out.size))
  have y6 : v4.heap.size + 1 ≤ v6.heap.size := by have := hb.size; omega
  clear hb ac0 ac1 bc0 bc1 cc0 cc1 dc0 dc1
  have ac0 := (aP6.out).c0
  have ac1 := (aP6.out).c1
  have bc0 := (bP6.out).c0
  have bc1 := (bP6.out).c1
  have cc0 := (cP6.out).c0
  have cc1 := (cP6.out).c1
  have dc0 := (dP6.out).c0
  have dc1 := (dP6.out).c1
  go_wp2_with fail
  refine (HC.out _).mono ?_
  rintro x v7 ⟨rfl, hb⟩
  have aP7 := Lib.hid ((aP6.out).to hb (by omega))
  have bP7 := Lib.hid ((bP6.out).to hb (by omega))
  have cP7 := Lib.hid ((cP6.out).to hb (by omega))
  have dP7 := Lib.hid ((dP6.out).to hb (by omega))
  have Q7 := Lib.hid (Q6.out.trans (hb.mono Q6.out.size))
  have y7 : v4.heap.size + 1 ≤ v7.heap.size := by have := hb.size; omega
  clear hb ac0 ac1 bc0 bc1 cc0 cc1 dc0 dc1
  have ac0 := (aP7.out).c0
  have ac1 := (aP7.out).c1
  have bc0 := (bP7.out).c0
  have bc1 := (bP7.out).c1
  have cc0 := (cP7.out).c0
  have cc1 := (cP7.out).c1
  have dc0 := (dP7.out).c0
  have dc1 := (dP7.out).c1
  all_goals go_wp2_with fail
  all_goals go_ret
  all_goals exact ⟨congrArg (fun b => Ending.returned (Value.bool b)) (by simp [hc]), Q7.out⟩

theorem back_000d (t n u k v p q i1 i2 c : Int) (r : Bool) (w : World) (hx : decide (p < q) = r) (hy : decide (c < 0) = r) (hpq : ¬ p = q) (hne : ¬ (t = u ∧ n = k))
    (HA : Hid (∀ w, Calls Tryd.prog 9 #[.agg #[.int .i64 t, .int .u8 n]] w fun x w' => x = .returned (.tuple #[.int .u64 p, .int .i64 0]) ∧ Below w.heap.size w w'))
    (HB : Hid (∀ w, Calls Tryd.prog 9 #[.agg #[.int .i64 u, .int .u8 k]] w fun x w' => x = .returned (.tuple #[.int .u64 q, .int .i64 0]) ∧ Below w.heap.size w w'))
    (HU : Hid (∀ w, Calls Tryd.prog 10 #[.int .u64 p] w fun x w' => x = .returned (.tuple #[.agg (st2 t n), .int .i64 0]) ∧ Below w.heap.size w w'))
    (HV : Hid (∀ w, Calls Tryd.prog 10 #[.int .u64 v] w fun x w' => x = .returned (.tuple #[.agg (st2 i1 i2), .int .i64 0]) ∧ Below w.heap.size w w'))
    (HW : Hid (∀ w, Calls Tryd.prog 9 #[.agg #[.int .i64 i1, .int .u8 i2]] w fun x w' => x = .returned (.tuple #[.int .u64 v, .int .i64 0]) ∧ Below w.heap.size w w'))
    (HC : Hid (∀ w, Calls Tryd.prog 11 #[.agg #[.int .i64 t, .int .u8 n], .agg #[.int .i64 u, .int .u8 k]] w fun x w' => x = .returned (.int .i64 c) ∧ Below w.heap.size w w')) :
    Calls Tryd.prog 3 #[.agg #[.int .i64 t, .int .u8 n], .agg #[.int .i64 u, .int .u8 k], .int .u64 v] w fun x w' => x = .returned (.bool true) ∧ Below w.heap.size w w' := by
  have I0 := Lib.hid ((isSt_new w t n).alloc (.cells #[.int .i64 u, .int .u8 k] 23))
  have I1 := Lib.hid (isSt_new (w.alloc (.cells #[.int .i64 t, .int .u8 n] 23)) u k)
  have BA := Lib.hid (((Below.refl w.heap.size w).alloc (Nat.le_refl _) (.cells #[.int .i64 t, .int .u8 n] 23)).alloc (by simp) (.cells #[.int .i64 u, .int .u8 k] 23))
  go_enter Tryd.func3, Tryd.ntmps3
  go_wp2_with fail
  refine (awake_calls _).mono ?_
  rintro x w1 ⟨rfl, hb1⟩
  have J0 := I0.out.to hb1 (by simp; omega)
  have J1 := I1.out.to hb1 (by simp)
  simp only [World.size_alloc] at J1
  have M0 := Lib.hid J0
  have M1 := Lib.hid J1
  have B1 := Lib.hid (BA.out.trans (hb1.mono BA.out.size))
  have z1 : w.heap.size + 1 + 1 ≤ w1.heap.size := by have := hb1.size; simpa using this
  clear hb1 J0 J1
  have ac0 := (M0.out).c0
  have ac1 := (M0.out).c1
  have bc0 := (M1.out).c0
  have bc1 := (M1.out).c1
  go_wp2_with fail
  refine (HA.out _).mono ?_
  rintro x v0 ⟨rfl, hb⟩
  have aP0 := Lib.hid ((M0.out).to hb (by omega))
  have bP0 := Lib.hid ((M1.out).to hb (by omega))
  have Q0 := Lib.hid (B1.out.trans (hb.mono B1.out.size))
  have y0 : (w.heap.size + 1) + 1 ≤ v0.heap.size := by have := hb.size; omega
  clear hb ac0 ac1 bc0 bc1
  have ac0 := (aP0.out).c0
  have ac1 := (aP0.out).c1
  have bc0 := (bP0.out).c0
  have bc1 := (bP0.out).c1
  go_wp2_with fail
  refine (HB.out _).mono ?_
  rintro x v1 ⟨rfl, hb⟩
  have aP1 := Lib.hid ((aP0.out).to hb (by omega))
  have bP1 := Lib.hid ((bP0.out).to hb (by omega))
  have Q1 := Lib.hid (Q0.out.trans (hb.mono Q0.out.size))
  have y1 : (w.heap.size + 1) + 1 ≤ v1.heap.size := by have := hb.size; omega
  clear hb ac0 ac1 bc0 bc1
  have ac0 := (aP1.out).c0
  have ac1 := (aP1.out).c1
  have bc0 := (bP1.out).c0
  have bc1 := (bP1.out).c1
  go_wp2_with fail
  refine (HU.out _).mono ?_
  rintro x v2 ⟨rfl, hb⟩
  have aP2 := Lib.hid ((aP1.out).to hb (by omega))
  have bP2 := Lib.hid ((bP1.out).to hb (by omega))
  have Q2 := Lib.hid (Q1.out.trans (hb.mono Q1.out.size))
  have y2 : (w.heap.size + 1) + 1 ≤ v2.heap.size := by have := hb.size; omega
  clear hb ac0 ac1 bc0 bc1
  have aS3 := Lib.hid (((aP2.out).alloc (.cells #[.int .i64 0, .int .u8 0] 23)).putO (h := v2.heap.size) (by omega) (t) (n))
  have bS3 := Lib.hid (((bP2.out).alloc (.cells #[.int .i64 0, .int .u8 0] 23)).putO (h := v2.heap.size) (by omega) (t) (n))
  have K3 := Lib.hid (isSt_new v2 0 0)
  have L3 := Lib.hid ((isSt_new v2 0 0).put (t) (n))
  have Q3 := Lib.hid (below_setRow (Q2.out.alloc Q2.out.size (.cells #[.int .i64 0, .int .u8 0] 23)) Q2.out.size (st2 (t) (n)))
  have SZ3 : Hid (((v2.alloc (.cells #[.int .i64 0, .int .u8 0] 23)).setRow v2.heap.size (st2 (t) (n))).heap.size = v2.heap.size + 1) := Lib.hid (by simp)
  obtain ⟨W3, hW⟩ : ∃ W, (v2.alloc (.cells #[.int .i64 0, .int .u8 0] 23)).setRow v2.heap.size (st2 (t) (n)) = W := ⟨_, rfl⟩
  rw [hW] at aS3 bS3 L3 Q3 SZ3
  have HW := Lib.hid hW
  clear hW
  have y3 : v2.heap.size + 1 ≤ W3.heap.size := by have := SZ3.out; omega
  have ac0 := (aS3.out).c0
  have ac1 := (aS3.out).c1
  have bc0 := (bS3.out).c0
  have bc1 := (bS3.out).c1
  have cc0 := (L3.out).c0
  have cc1 := (L3.out).c1
  go_wp2_with (((with_reducible refine stL (.tmp 11) (.tmp 34) _ (t) (n) 0 0 ?_ ?_ K3.out ?_); rfl; rfl; rw [HW.out]))
  clear K3 HW
  refine (HV.out _).mono ?_
  rintro x v4 ⟨rfl, hb⟩
  have aP4 := Lib.hid ((aS3.out).to hb (by omega))
  have bP4 := Lib.hid ((bS3.out).to hb (by omega))
  have cP4 := Lib.hid ((L3.out).to hb (by omega))
  have Q4 := Lib.hid (Q3.out.trans (hb.mono Q3.out.size))
  have y4 : v2.heap.size + 1 ≤ v4.heap.size := by have := hb.size; omega
  clear hb ac0 ac1 bc0 bc1 cc0 cc1
  have aS5 := Lib.hid (((aP4.out).alloc (.cells #[.int .i64 0, .int .u8 0] 23)).putO (h := v4.heap.size) (by omega) (i1) (i2))
  have bS5 := Lib.hid (((bP4.out).alloc (.cells #[.int .i64 0, .int .u8 0] 23)).putO (h := v4.heap.size) (by omega) (i1) (i2))
  have cS5 := Lib.hid (((cP4.out).alloc (.cells #[.int .i64 0, .int .u8 0] 23)).putO (h := v4.heap.size) (by omega) (i1) (i2))
  have K5 := Lib.hid (isSt_new v4 0 0)
  have L5 := Lib.hid ((isSt_new v4 0 0).put (i1) (i2))
  have Q5 := Lib.hid (below_setRow (Q4.out.alloc Q4.out.size (.cells #[.int .i64 0, .int .u8 0] 23)) Q4.out.size (st2 (i1) (i2)))
  have SZ5 : Hid (((v4.alloc (.cells #[.int .i64 0, .int .u8 0] 23)).setRow v4.heap.size (st2 (i1) (i2))).heap.size = v4.heap.size + 1) := Lib.hid (by simp)
  obtain ⟨W5, hW⟩ : ∃ W, (v4.alloc (.cells #[.int .i64 0, .int .u8 0] 23)).setRow v4.heap.size (st2 (i1) (i2)) = W := ⟨_, rfl⟩
  rw [hW] at aS5 bS5 cS5 L5 Q5 SZ5
  have HW := Lib.hid hW
  clear hW
  have y5 : v4.heap.size + 1 ≤ W5.heap.size := by have := SZ5.out; omega
  have ac0 := (aS5.out).c0
  have ac1 := (aS5.out).c1
  have bc0 := (bS5.out).c0
  have bc1 := (bS5.out).c1
  have cc0 := (cS5.out).c0
  have cc1 := (cS5.out).c1
  have dc0 := (L5.out).c0
  have dc1 := (L5.out).c1
  go_wp2_with (((with_reducible refine stL (.tmp 13) (.tmp 46) _ (i1) (i2) 0 0 ?_ ?_ K5.out ?_); rfl; rfl; rw [HW.out]))
  clear K5 HW
  refine (HW.out _).mono ?_
  rintro x v6 ⟨rfl, hb⟩
  have aP6 := Lib.hid ((aS5.out).to hb (by omega))
  have bP6 := Lib.hid ((bS5.out).to hb (by omega))
  have cP6 := Lib.hid ((cS5.out).to hb (by omega))
  have dP6 := Lib.hid ((L5.out).to hb (by omega))
  have Q6 := Lib.hid (Q5.out.trans (hb.mono Q5.out.size))
  have y6 : v4.heap.size + 1 ≤ v6.heap.size := by have := hb.size; omega
  clear hb ac0 ac1 bc0 bc1 cc0 cc1 dc0 dc1
  have ac0 := (aP6.out).c0
  have ac1 := (aP6.out).c1
  have bc0 := (bP6.out).c0
  have bc1 := (bP6.out).c1
  have cc0 := (cP6.out).c0
  have cc1 := (cP6.out).c1
  have dc0 := (dP6.out).c0
  have dc1 := (dP6.out).c1
  go_wp2_with fail
  refine (HC.out _).mono ?_
  rintro x v7 ⟨rfl, hb⟩
  have aP7 := Lib.hid ((aP6.out).to hb (by omega))
  have bP7 := Lib.hid ((bP6.out).to hb (by omega))
  have cP7 := Lib.hid ((cP6.out).to hb (by omega))
  have dP7 := Lib.hid ((dP6.out).to hb (by omega))
  have Q7 := Lib.hid (Q6.out.trans (hb.mono Q6.out.size))
  have y7 : v4.heap.size + 1 ≤ v7.heap.size := by have := hb.size; omega
  clear hb ac0 ac1 bc0 bc1 cc0 cc1 dc0 dc1
  have ac0 := (aP7.out).c0
  have ac1 := (aP7.out).c1
  have bc0 := (bP7.out).c0
  have bc1 := (bP7.out).c1
  have cc0 := (cP7.out).c0
  have cc1 := (cP7.out).c1
  have dc0 := (dP7.out).c0
  have dc1 := (dP7.out).c1
  cases r
  all_goals simp only [decide_eq_true_eq, decide_eq_false_iff_not] at hx hy
  all_goals go_wp2_with fail
  all_goals go_ret
  all_goals exact ⟨congrArg (fun b => Ending.returned (Value.bool b)) (by simp [hy, hpq]), Q7.out⟩

theorem back_001d (t n u k v p q i1 i2 z c : Int) (r : Bool) (w : World) (hx : decide (p < q) = r) (hy : decide (c < 0) = r) (hpq : ¬ p = q) (hne : ¬ (t = u ∧ n = k))
    (HA : Hid (∀ w, Calls Tryd.prog 9 #[.agg #[.int .i64 t, .int .u8 n]] w fun x w' => x = .returned (.tuple #[.int .u64 p, .int .i64 0]) ∧ Below w.heap.size w w'))
    (HB : Hid (∀ w, Calls Tryd.prog 9 #[.agg #[.int .i64 u, .int .u8 k]] w fun x w' => x = .returned (.tuple #[.int .u64 q, .int .i64 0]) ∧ Below w.heap.size w w'))
    (HU : Hid (∀ w, Calls Tryd.prog 10 #[.int .u64 p] w fun x w' => x = .returned (.tuple #[.agg (st2 t n), .int .i64 0]) ∧ Below w.heap.size w w'))
    (HV : Hid (∀ w, Calls Tryd.prog 10 #[.int .u64 v] w fun x w' => x = .returned (.tuple #[.agg (st2 i1 i2), .int .i64 1]) ∧ Below w.heap.size w w'))
    (HW : Hid (∀ w, Calls Tryd.prog 9 #[.agg #[.int .i64 i1, .int .u8 i2]] w fun x w' => x = .returned (.tuple #[.int .u64 z, .int .i64 0]) ∧ Below w.heap.size w w'))
    (HC : Hid (∀ w, Calls Tryd.prog 11 #[.agg #[.int .i64 t, .int .u8 n], .agg #[.int .i64 u, .int .u8 k]] w fun x w' => x = .returned (.int .i64 c) ∧ Below w.heap.size w w')) :
    Calls Tryd.prog 3 #[.agg #[.int .i64 t, .int .u8 n], .agg #[.int .i64 u, .int .u8 k], .int .u64 v] w fun x w' => x = .returned (.bool true) ∧ Below w.heap.size w w' := by
  have I0 := Lib.hid ((isSt_new w t n).alloc (.cells #[.int .i64 u, .int .u8 k] 23))
  have I1 := Lib.hid (isSt_new (w.alloc (.cells #[.int .i64 t, .int .u8 n] 23)) u k)
  have BA := Lib.hid (((Below.refl w.heap.size w).alloc (Nat.le_refl _) (.cells #[.int .i64 t, .int .u8 n] 23)).alloc (by simp) (.cells #[.int .i64 u, .int .u8 k] 23))
  go_enter Tryd.func3, Tryd.ntmps3
  go_wp2_with fail
  refine (awake_calls _).mono ?_
  rintro x w1 ⟨rfl, hb1⟩
  have J0 := I0.out.to hb1 (by simp; omega)
  have J1 := I1.out.to hb1 (by simp)
  simp only [World.size_alloc] at J1
  have M0 := Lib.hid J0
  have M1 := Lib.hid J1
  have B1 := Lib.hid (BA.out.trans (hb1.mono BA.out.size))
  have z1 : w.heap.size + 1 + 1 ≤ w1.heap.size := by have := hb1.size; simpa using this
  clear hb1 J0 J1
  have ac0 := (M0.out).c0
  have ac1 := (M0.out).c1
  have bc0 := (M1.out).c0
  have bc1 := (M1.out).c1
  go_wp2_with fail
  refine (HA.out _).mono ?_
  rintro x v0 ⟨rfl, hb⟩
  have aP0 := Lib.hid ((M0.out).to hb (by omega))
  have bP0 := Lib.hid ((M1.out).to hb (by omega))
  have Q0 := Lib.hid (B1.out.trans (hb.mono B1.out.size))
  have y0 : (w.heap.size + 1) + 1 ≤ v0.heap.size := by have := hb.size; omega
  clear hb ac0 ac1 bc0 bc1
  have ac0 := (aP0.out).c0
  have ac1 := (aP0.out).c1
  have bc0 := (bP0.out).c0
  have bc1 := (bP0.out).c1
  go_wp2_with fail
  refine (HB.out _).mono ?_
  rintro x v1 ⟨rfl, hb⟩
  have aP1 := Lib.hid ((aP0.out).to hb (by omega))
  have bP1 := Lib.hid ((bP0.out).to hb (by omega))
  have Q1 := Lib.hid (Q0.out.trans (hb.mono Q0.out.size))
  have y1 : (w.heap.size + 1) + 1 ≤ v1.heap.size := by have := hb.size; omega
  clear hb ac0 ac1 bc0 bc1
  have ac0 := (aP1.out).c0
  have ac1 := (aP1.out).c1
  have bc0 := (bP1.out).c0
  have bc1 := (bP1.out).c1
  go_wp2_with fail
  refine (HU.out _).mono ?_
  rintro x v2 ⟨rfl, hb⟩
  have aP2 := Lib.hid ((aP1.out).to hb (by omega))
  have bP2 := Lib.hid ((bP1.out).to hb (by omega))
  have Q2 := Lib.hid (Q1.out.trans (hb.mono Q1.out.size))
  have y2 : (w.heap.size + 1) + 1 ≤ v2.heap.size := by have := hb.size; omega
  clear hb ac0 ac1 bc0 bc1
  have aS3 := Lib.hid (((aP2.out).alloc (.cells #[.int .i64 0, .int .u8 0] 23)).putO (h := v2.heap.size) (by omega) (t) (n))
  have bS3 := Lib.hid (((bP2.out).alloc (.cells #[.int .i64 0, .int .u8 0] 23)).putO (h := v2.heap.size) (by omega) (t) (n))
  have K3 := Lib.hid (isSt_new v2 0 0)
  have L3 := Lib.hid ((isSt_new v2 0 0).put (t) (n))
  have Q3 := Lib.hid (below_setRow (Q2.out.alloc Q2.out.size (.cells #[.int .i64 0, .int .u8 0] 23)) Q2.out.size (st2 (t) (n)))
  have SZ3 : Hid (((v2.alloc (.cells #[.int .i64 0, .int .u8 0] 23)).setRow v2.heap.size (st2 (t) (n))).heap.size = v2.heap.size + 1) := Lib.hid (by simp)
  obtain ⟨W3, hW⟩ : ∃ W, (v2.alloc (.cells #[.int .i64 0, .int .u8 0] 23)).setRow v2.heap.size (st2 (t) (n)) = W := ⟨_, rfl⟩
  rw [hW] at aS3 bS3 L3 Q3 SZ3
  have HW := Lib.hid hW
  clear hW
  have y3 : v2.heap.size + 1 ≤ W3.heap.size := by have := SZ3.out; omega
  have ac0 := (aS3.out).c0
  have ac1 := (aS3.out).c1
  have bc0 := (bS3.out).c0
  have bc1 := (bS3.out).c1
  have cc0 := (L3.out).c0
  have cc1 := (L3.out).c1
  go_wp2_with (((with_reducible refine stL (.tmp 11) (.tmp 34) _ (t) (n) 0 0 ?_ ?_ K3.out ?_); rfl; rfl; rw [HW.out]))
  clear K3 HW
  refine (HV.out _).mono ?_
  rintro x v4 ⟨rfl, hb⟩
  have aP4 := Lib.hid ((aS3.out).to hb (by omega))
  have bP4 := Lib.hid ((bS3.out).to hb (by omega))
  have cP4 := Lib.hid ((L3.out).to hb (by omega))
  have Q4 := Lib.hid (Q3.out.trans (hb.mono Q3.out.size))
  have y4 : v2.heap.size + 1 ≤ v4.heap.size := by have := hb.size; omega
  clear hb ac0 ac1 bc0 bc1 cc0 cc1
  have aS5 := Lib.hid (((aP4.out).alloc (.cells #[.int .i64 0, .int .u8 0] 23)).putO (h := v4.heap.size) (by omega) (i1) (i2))
  have bS5 := Lib.hid (((bP4.out).alloc (.cells #[.int .i64 0, .int .u8 0] 23)).putO (h := v4.heap.size) (by omega) (i1) (i2))
  have cS5 := Lib.hid (((cP4.out).alloc (.cells #[.int .i64 0, .int .u8 0] 23)).putO (h := v4.heap.size) (by omega) (i1) (i2))
  have K5 := Lib.hid (isSt_new v4 0 0)
  have L5 := Lib.hid ((isSt_new v4 0 0).put (i1) (i2))
  have Q5 := Lib.hid (below_setRow (Q4.out.alloc Q4.out.size (.cells #[.int .i64 0, .int .u8 0] 23)) Q4.out.size (st2 (i1) (i2)))
  have SZ5 : Hid (((v4.alloc (.cells #[.int .i64 0, .int .u8 0] 23)).setRow v4.heap.size (st2 (i1) (i2))).heap.size = v4.heap.size + 1) := Lib.hid (by simp)
  obtain ⟨W5, hW⟩ : ∃ W, (v4.alloc (.cells #[.int .i64 0, .int .u8 0] 23)).setRow v4.heap.size (st2 (i1) (i2)) = W := ⟨_, rfl⟩
  rw [hW] at aS5 bS5 cS5 L5 Q5 SZ5
  have HW := Lib.hid hW
  clear hW
  have y5 : v4.heap.size + 1 ≤ W5.heap.size := by have := SZ5.out; omega
  have ac0 := (aS5.out).c0
  have ac1 := (aS5.out).c1
  have bc0 := (bS5.out).c0
  have bc1 := (bS5.out).c1
  have cc0 := (cS5.out).c0
  have cc1 := (cS5.out).c1
  have dc0 := (L5.out).c0
  have dc1 := (L5.out).c1
  go_wp2_with (((with_reducible refine stL (.tmp 13) (.tmp 46) _ (i1) (i2) 0 0 ?_ ?_ K5.out ?_); rfl; rfl; rw [HW.out]))
  clear K5 HW
  refine (HW.out _).mono ?_
  rintro x v6 ⟨rfl, hb⟩
  have aP6 := Lib.hid ((aS5.out).to hb (by omega))
  have bP6 := Lib.hid ((bS5.out).to hb (by omega))
  have cP6 := Lib.hid ((cS5.out).to hb (by omega))
  have dP6 := Lib.hid ((L5.out).to hb (by omega))
  have Q6 := Lib.hid (Q5.out.trans (hb.mono Q5.out.size))
  have y6 : v4.heap.size + 1 ≤ v6.heap.size := by have := hb.size; omega
  clear hb ac0 ac1 bc0 bc1 cc0 cc1 dc0 dc1
  have ac0 := (aP6.out).c0
  have ac1 := (aP6.out).c1
  have bc0 := (bP6.out).c0
  have bc1 := (bP6.out).c1
  have cc0 := (cP6.out).c0
  have cc1 := (cP6.out).c1
  have dc0 := (dP6.out).c0
  have dc1 := (dP6.out).c1
  go_wp2_with fail
  refine (HC.out _).mono ?_
  rintro x v7 ⟨rfl, hb⟩
  have aP7 := Lib.hid ((aP6.out).to hb (by omega))
  have bP7 := Lib.hid ((bP6.out).to hb (by omega))
  have cP7 := Lib.hid ((cP6.out).to hb (by omega))
  have dP7 := Lib.hid ((dP6.out).to hb (by omega))
  have Q7 := Lib.hid (Q6.out.trans (hb.mono Q6.out.size))
  have y7 : v4.heap.size + 1 ≤ v7.heap.size := by have := hb.size; omega
  clear hb ac0 ac1 bc0 bc1 cc0 cc1 dc0 dc1
  have ac0 := (aP7.out).c0
  have ac1 := (aP7.out).c1
  have bc0 := (bP7.out).c0
  have bc1 := (bP7.out).c1
  have cc0 := (cP7.out).c0
  have cc1 := (cP7.out).c1
  have dc0 := (dP7.out).c0
  have dc1 := (dP7.out).c1
  cases r
  all_goals simp only [decide_eq_true_eq, decide_eq_false_iff_not] at hx hy
  all_goals go_wp2_with fail
  all_goals go_ret
  all_goals exact ⟨congrArg (fun b => Ending.returned (Value.bool b)) (by simp [hy, hpq]), Q7.out⟩

theorem cs_cases (t n u k : Int) : (cs t n u k < 0 ↔ t < u ∨ (t = u ∧ n < k)) ∧ (cs t n u k = 0 ↔ t = u ∧ n = k) := by
  unfold cs c2
  by_cases h1 : t < u
  · simp only [if_pos h1]
    constructor <;> constructor <;> intro h <;> first | omega | simp_all | (simp; omega)
  · by_cases h2 : u < t
    · simp only [if_neg h1, if_pos h2]
      constructor <;> constructor <;> intro h <;> first | omega | simp_all | (simp; omega)
    · obtain rfl : t = u := by omega
      simp only [if_neg h1]
      by_cases h3 : n < k
      · simp [if_pos h3]; omega
      · by_cases h4 : k < n
        · simp [if_neg h3, if_pos h4]; omega
        · simp [if_neg h3, if_neg h4]; omega

/-- StampBack answers true, whatever the stamps and the number. -/
theorem stampBack_calls (t n u k v : Int) (hn : 0 ≤ n ∧ n ≤ 255) (hk : 0 ≤ k ∧ k ≤ 255) (hv : 0 ≤ v ∧ v ≤ 18446744073709551615) (w : World) :
    Calls Tryd.prog 3 #[.agg #[.int .i64 t, .int .u8 n], .agg #[.int .i64 u, .int .u8 k], .int .u64 v] w fun x w' => x = .returned (.bool true) ∧ Below w.heap.size w w' := by
  have HV1 : v < 9223372036854775808 → (∀ w, Calls Tryd.prog 10 #[.int .u64 v] w fun x w' => x = .returned (.tuple #[.agg (st2 (v / 256) (v % 256)), .int .i64 0]) ∧ Below w.heap.size w w') ∧
      (∀ w, Calls Tryd.prog 9 #[.agg #[.int .i64 (v / 256), .int .u8 (v % 256)]] w fun x w' => x = .returned (.tuple #[.int .u64 v, .int .i64 0]) ∧ Below w.heap.size w w') := fun h => by
    refine ⟨unpack_yes v hv.1 h, ?_⟩
    have hp := pack_yes (v / 256) (v % 256) (by simp [gd]; omega) (by omega) (by omega)
    rw [show v / 256 * 256 + v % 256 = v by omega] at hp
    exact hp
  have HV2 : ¬ v < 9223372036854775808 → (∀ w, Calls Tryd.prog 10 #[.int .u64 v] w fun x w' => x = .returned (.tuple #[.agg (st2 0 0), .int .i64 1]) ∧ Below w.heap.size w w') := fun h => unpack_no v (by omega) (by omega)
  have HW2 := pack_yes 0 0 rfl (by decide) (by decide)
  cases ha : gd t with
  | false =>
    cases hb : gd u with
    | false =>
      by_cases h : v < 9223372036854775808
      · exact back_110 t n u k v _ _ _ _ w (Lib.hid (pack_no t n ha)) (Lib.hid (pack_no u k hb)) (Lib.hid (HV1 h).1) (Lib.hid (HV1 h).2)
      · exact back_111 t n u k v _ _ _ _ _ w (Lib.hid (pack_no t n ha)) (Lib.hid (pack_no u k hb)) (Lib.hid (HV2 h)) (Lib.hid HW2)
    | true =>
      by_cases h : v < 9223372036854775808
      · exact back_100 t n u k v _ _ _ _ w (Lib.hid (pack_no t n ha)) (Lib.hid (pack_yes u k hb hk.1 hk.2)) (Lib.hid (HV1 h).1) (Lib.hid (HV1 h).2)
      · exact back_101 t n u k v _ _ _ _ _ w (Lib.hid (pack_no t n ha)) (Lib.hid (pack_yes u k hb hk.1 hk.2)) (Lib.hid (HV2 h)) (Lib.hid HW2)
  | true =>
    have ht : 0 ≤ t ∧ t ≤ 36028797018963967 := by simpa [gd] using ha
    have HU := unpack_yes (t * 256 + n) (by omega) (by omega)
    rw [show (t * 256 + n) / 256 = t by omega, show (t * 256 + n) % 256 = n by omega] at HU
    cases hb : gd u with
    | false =>
      by_cases h : v < 9223372036854775808
      · exact back_010 t n u k v _ _ _ _ w (Lib.hid (pack_yes t n ha hn.1 hn.2)) (Lib.hid (pack_no u k hb)) (Lib.hid HU) (Lib.hid (HV1 h).1) (Lib.hid (HV1 h).2)
      · exact back_011 t n u k v _ _ _ _ _ w (Lib.hid (pack_yes t n ha hn.1 hn.2)) (Lib.hid (pack_no u k hb)) (Lib.hid HU) (Lib.hid (HV2 h)) (Lib.hid HW2)
    | true =>
      have hu : 0 ≤ u ∧ u ≤ 36028797018963967 := by simpa [gd] using hb
      by_cases he : t = u ∧ n = k
      · obtain ⟨rfl, rfl⟩ := he
        have hc : ¬ cs t n t n < 0 := by rw [(cs_cases t n t n).1]; omega
        by_cases h : v < 9223372036854775808
        · exact back_000s t n v _ _ _ _ w hc (Lib.hid (pack_yes t n ha hn.1 hn.2)) (Lib.hid HU) (Lib.hid (HV1 h).1) (Lib.hid (HV1 h).2) (Lib.hid (cmp_calls t n t n))
        · exact back_001s t n v _ _ _ _ _ w hc (Lib.hid (pack_yes t n ha hn.1 hn.2)) (Lib.hid HU) (Lib.hid (HV2 h)) (Lib.hid HW2) (Lib.hid (cmp_calls t n t n))
      · have hpq : ¬ t * 256 + n = u * 256 + k := by omega
        have hy : decide (cs t n u k < 0) = decide (t * 256 + n < u * 256 + k) := by
          apply decide_eq_decide.2
          rw [(cs_cases t n u k).1]
          omega
        by_cases h : v < 9223372036854775808
        · exact back_000d t n u k v _ _ _ _ _ _ w rfl hy hpq he (Lib.hid (pack_yes t n ha hn.1 hn.2)) (Lib.hid (pack_yes u k hb hk.1 hk.2)) (Lib.hid HU) (Lib.hid (HV1 h).1) (Lib.hid (HV1 h).2) (Lib.hid (cmp_calls t n u k))
        · exact back_001d t n u k v _ _ _ _ _ _ _ w rfl hy hpq he (Lib.hid (pack_yes t n ha hn.1 hn.2)) (Lib.hid (pack_yes u k hb hk.1 hk.2)) (Lib.hid HU) (Lib.hid (HV2 h)) (Lib.hid HW2) (Lib.hid (cmp_calls t n u k))
end Go.Proofs.YtdmicehmmmpjcaaDoor
