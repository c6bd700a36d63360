/- What StampNext's own code does. No condition beyond the words' own bounds. -/
import Derived.Test.YtdmicehmmmpjcaaDoorAwake
namespace Go.Proofs.YtdmicehmmmpjcaaDoor
open Go.RowKit
set_option linter.unusedVariables false
set_option linter.unusedSimpArgs false

theorem next_stop (t n u k e : Int) (he : e ≠ 0) (w : World) (HN : Hid (∀ w, Calls Tryd.prog 13 #[.agg #[.int .i64 t, .int .u8 n]] w fun x w' => x = .returned (.tuple #[.agg (st2 0 0), .int .i64 e]) ∧ Below w.heap.size w w')) :
    Calls Tryd.prog 5 #[.agg #[.int .i64 t, .int .u8 n], .agg #[.int .i64 u, .int .u8 k]] w fun x w' => x = .returned (.bool true) ∧ Below w.heap.size w w' := by
  have I0 := Lib.hid ((isSt_new w t n).alloc (.cells #[.int .i64 u, .int .u8 k] 23))
  have BA := Lib.hid (((Below.refl w.heap.size w).alloc (Nat.le_refl _) (.cells #[.int .i64 t, .int .u8 n] 23)).alloc (by simp) (.cells #[.int .i64 u, .int .u8 k] 23))
  go_enter Tryd.func5, Tryd.ntmps5
  go_wp2_with fail
  refine (awake_calls _).mono ?_
  rintro x w1 ⟨rfl, hb1⟩
  have J0 := I0.out.to hb1 (by simp; omega)
  have c0 := J0.c0
  have c1 := J0.c1
  have B1 := Lib.hid (BA.out.trans (hb1.mono BA.out.size))
  clear hb1 J0
  go_wp2_with fail
  refine (HN.out _).mono ?_
  rintro x w2 ⟨rfl, hb2⟩
  have B2 := Lib.hid (B1.out.trans (hb2.mono B1.out.size))
  clear hb2 c0 c1
  have K := Lib.hid (isSt_new w2 0 0)
  have L := Lib.hid ((isSt_new w2 0 0).put 0 0)
  go_wp2_with (first
    | ((with_reducible refine stL (.tmp 5) (.tmp 12) _ 0 0 0 0 ?_ ?_ K.out ?_); rfl; rfl)
    | ((with_reducible refine ldL (.tmp 5) _ 0 0 ?_ L.out ?_); rfl))
  go_ret
  exact ⟨rfl, below_setRow (B2.out.alloc B2.out.size _) B2.out.size _⟩

theorem next_a (t n u k : Int) (w : World) (hg : gd t = true) (hne : t ≠ 36028797018963967) (hk : k ≠ n)
    (HB : Hid (∀ w, Calls Tryd.prog 11 #[.agg #[.int .i64 (t + 1), .int .u8 n], .agg #[.int .i64 t, .int .u8 n]] w fun x w' => x = .returned (.int .i64 1) ∧ Below w.heap.size w w'))
    (HG : Hid (∀ w, Calls Tryd.prog 14 #[.agg #[.int .i64 (t + 1), .int .u8 n]] w fun x w' => x = .returned (.bool true) ∧ Below w.heap.size w w')) :
    Calls Tryd.prog 5 #[.agg #[.int .i64 t, .int .u8 n], .agg #[.int .i64 u, .int .u8 k]] w fun x w' => x = .returned (.bool true) ∧ Below w.heap.size w w' := by
  have HN := Lib.hid (next_yes t n hg hne)
  clear hg hne
  have I0 := Lib.hid ((isSt_new w t n).alloc (.cells #[.int .i64 u, .int .u8 k] 23))
  have I1 := Lib.hid (isSt_new (w.alloc (.cells #[.int .i64 t, .int .u8 n] 23)) u k)
  have BA := Lib.hid (((Below.refl w.heap.size w).alloc (Nat.le_refl _) (.cells #[.int .i64 t, .int .u8 n] 23)).alloc (by simp) (.cells #[.int .i64 u, .int .u8 k] 23))
  go_enter Tryd.func5, Tryd.ntmps5
  go_wp2_with fail
  refine (awake_calls _).mono ?_
  rintro x w1 ⟨rfl, hb1⟩
  have J0 := I0.out.to hb1 (by simp; omega)
  have J1 := I1.out.to hb1 (by simp)
  simp only [World.size_alloc] at J1
  have M0 := Lib.hid J0
  have M1 := Lib.hid J1
  have c0 := J0.c0
  have c1 := J0.c1
  have B1 := Lib.hid (BA.out.trans (hb1.mono BA.out.size))
  have z1 : w.heap.size + 1 + 1 ≤ w1.heap.size := by have := hb1.size; simpa using this
  clear hb1 J0 J1
  go_wp2_with fail
  refine (HN.out _).mono ?_
  rintro x w2 ⟨rfl, hb2⟩
  have N0 := Lib.hid (((M0.out.to hb2 (by omega)).alloc (.cells #[.int .i64 0, .int .u8 0] 23)).putO (h := w2.heap.size) (by have := hb2.size; omega) (t + 1) n)
  have N1 := Lib.hid (((M1.out.to hb2 (by omega)).alloc (.cells #[.int .i64 0, .int .u8 0] 23)).putO (h := w2.heap.size) (by have := hb2.size; omega) (t + 1) n)
  have B2 := Lib.hid (B1.out.trans (hb2.mono B1.out.size))
  have z2 : w.heap.size + 1 + 1 ≤ w2.heap.size := by have := hb2.size; omega
  clear hb2 c0 c1 M0 M1
  have K := Lib.hid (isSt_new w2 0 0)
  have L := Lib.hid ((isSt_new w2 0 0).put (t + 1) n)
  have B3 := Lib.hid (below_setRow (B2.out.alloc B2.out.size (.cells #[.int .i64 0, .int .u8 0] 23)) B2.out.size (st2 (t + 1) n))
  have SZ : Hid (((w2.alloc (.cells #[.int .i64 0, .int .u8 0] 23)).setRow w2.heap.size (st2 (t + 1) n)).heap.size = w2.heap.size + 1) := Lib.hid (by simp)
  obtain ⟨W, hW⟩ : ∃ W, (w2.alloc (.cells #[.int .i64 0, .int .u8 0] 23)).setRow w2.heap.size (st2 (t + 1) n) = W := ⟨_, rfl⟩
  rw [hW] at N0 N1 L B3 SZ
  have HW := Lib.hid hW
  clear hW
  have z3 : w2.heap.size < W.heap.size := by have := SZ.out; omega
  have c0 := (N0.out).c0
  have c1 := (N0.out).c1
  have d0 := (N1.out).c0
  have d1 := (N1.out).c1
  have e0 := (L.out).c0
  have e1 := (L.out).c1
  go_wp2_with (((with_reducible refine stL (.tmp 5) (.tmp 12) _ (t + 1) n 0 0 ?_ ?_ K.out ?_); rfl; rfl; rw [HW.out]))
  clear K HW
  refine (HB.out _).mono ?_
  rintro x v0 ⟨rfl, hb⟩
  have P00 := Lib.hid ((N0.out).to hb (by omega))
  have P01 := Lib.hid ((N1.out).to hb (by omega))
  have P02 := Lib.hid ((L.out).to hb (by omega))
  have Q0 := Lib.hid (B3.out.trans (hb.mono B3.out.size))
  have y0 : w2.heap.size < v0.heap.size := by have := hb.size; omega
  clear hb c0 c1 d0 d1 e0 e1
  have c0 := (P00.out).c0
  have c1 := (P00.out).c1
  have d0 := (P01.out).c0
  have d1 := (P01.out).c1
  have e0 := (P02.out).c0
  have e1 := (P02.out).c1
  go_wp2_with fail
  refine (HG.out _).mono ?_
  rintro x v1 ⟨rfl, hb⟩
  have P10 := Lib.hid ((P00.out).to hb (by omega))
  have P11 := Lib.hid ((P01.out).to hb (by omega))
  have P12 := Lib.hid ((P02.out).to hb (by omega))
  have Q1 := Lib.hid (Q0.out.trans (hb.mono Q0.out.size))
  have y1 : w2.heap.size < v1.heap.size := by have := hb.size; omega
  clear hb c0 c1 d0 d1 e0 e1
  have c0 := (P10.out).c0
  have c1 := (P10.out).c1
  have d0 := (P11.out).c0
  have d1 := (P11.out).c1
  have e0 := (P12.out).c0
  have e1 := (P12.out).c1
  go_wp2_with fail
  go_ret
  exact ⟨rfl, Q1.out⟩

theorem next_b (t n u p : Int) (w : World) (hg : gd t = true) (hne : t ≠ 36028797018963967) (hp : p ≤ 0) (HC : Hid (∀ w, Calls Tryd.prog 11 #[.agg #[.int .i64 u, .int .u8 n], .agg #[.int .i64 t, .int .u8 n]] w fun x w' => x = .returned (.int .i64 p) ∧ Below w.heap.size w w'))
    (HB : Hid (∀ w, Calls Tryd.prog 11 #[.agg #[.int .i64 (t + 1), .int .u8 n], .agg #[.int .i64 t, .int .u8 n]] w fun x w' => x = .returned (.int .i64 1) ∧ Below w.heap.size w w'))
    (HG : Hid (∀ w, Calls Tryd.prog 14 #[.agg #[.int .i64 (t + 1), .int .u8 n]] w fun x w' => x = .returned (.bool true) ∧ Below w.heap.size w w')) :
    Calls Tryd.prog 5 #[.agg #[.int .i64 t, .int .u8 n], .agg #[.int .i64 u, .int .u8 n]] w fun x w' => x = .returned (.bool true) ∧ Below w.heap.size w w' := by
  have HN := Lib.hid (next_yes t n hg hne)
  clear hg hne
  have I0 := Lib.hid ((isSt_new w t n).alloc (.cells #[.int .i64 u, .int .u8 n] 23))
  have I1 := Lib.hid (isSt_new (w.alloc (.cells #[.int .i64 t, .int .u8 n] 23)) u n)
  have BA := Lib.hid (((Below.refl w.heap.size w).alloc (Nat.le_refl _) (.cells #[.int .i64 t, .int .u8 n] 23)).alloc (by simp) (.cells #[.int .i64 u, .int .u8 n] 23))
  go_enter Tryd.func5, Tryd.ntmps5
  go_wp2_with fail
  refine (awake_calls _).mono ?_
  rintro x w1 ⟨rfl, hb1⟩
  have J0 := I0.out.to hb1 (by simp; omega)
  have J1 := I1.out.to hb1 (by simp)
  simp only [World.size_alloc] at J1
  have M0 := Lib.hid J0
  have M1 := Lib.hid J1
  have c0 := J0.c0
  have c1 := J0.c1
  have B1 := Lib.hid (BA.out.trans (hb1.mono BA.out.size))
  have z1 : w.heap.size + 1 + 1 ≤ w1.heap.size := by have := hb1.size; simpa using this
  clear hb1 J0 J1
  go_wp2_with fail
  refine (HN.out _).mono ?_
  rintro x w2 ⟨rfl, hb2⟩
  have N0 := Lib.hid (((M0.out.to hb2 (by omega)).alloc (.cells #[.int .i64 0, .int .u8 0] 23)).putO (h := w2.heap.size) (by have := hb2.size; omega) (t + 1) n)
  have N1 := Lib.hid (((M1.out.to hb2 (by omega)).alloc (.cells #[.int .i64 0, .int .u8 0] 23)).putO (h := w2.heap.size) (by have := hb2.size; omega) (t + 1) n)
  have B2 := Lib.hid (B1.out.trans (hb2.mono B1.out.size))
  have z2 : w.heap.size + 1 + 1 ≤ w2.heap.size := by have := hb2.size; omega
  clear hb2 c0 c1 M0 M1
  have K := Lib.hid (isSt_new w2 0 0)
  have L := Lib.hid ((isSt_new w2 0 0).put (t + 1) n)
  have B3 := Lib.hid (below_setRow (B2.out.alloc B2.out.size (.cells #[.int .i64 0, .int .u8 0] 23)) B2.out.size (st2 (t + 1) n))
  have SZ : Hid (((w2.alloc (.cells #[.int .i64 0, .int .u8 0] 23)).setRow w2.heap.size (st2 (t + 1) n)).heap.size = w2.heap.size + 1) := Lib.hid (by simp)
  obtain ⟨W, hW⟩ : ∃ W, (w2.alloc (.cells #[.int .i64 0, .int .u8 0] 23)).setRow w2.heap.size (st2 (t + 1) n) = W := ⟨_, rfl⟩
  rw [hW] at N0 N1 L B3 SZ
  have HW := Lib.hid hW
  clear hW
  have z3 : w2.heap.size < W.heap.size := by have := SZ.out; omega
  have c0 := (N0.out).c0
  have c1 := (N0.out).c1
  have d0 := (N1.out).c0
  have d1 := (N1.out).c1
  have e0 := (L.out).c0
  have e1 := (L.out).c1
  go_wp2_with (((with_reducible refine stL (.tmp 5) (.tmp 12) _ (t + 1) n 0 0 ?_ ?_ K.out ?_); rfl; rfl; rw [HW.out]))
  clear K HW
  refine (HB.out _).mono ?_
  rintro x v0 ⟨rfl, hb⟩
  have P00 := Lib.hid ((N0.out).to hb (by omega))
  have P01 := Lib.hid ((N1.out).to hb (by omega))
  have P02 := Lib.hid ((L.out).to hb (by omega))
  have Q0 := Lib.hid (B3.out.trans (hb.mono B3.out.size))
  have y0 : w2.heap.size < v0.heap.size := by have := hb.size; omega
  clear hb c0 c1 d0 d1 e0 e1
  have c0 := (P00.out).c0
  have c1 := (P00.out).c1
  have d0 := (P01.out).c0
  have d1 := (P01.out).c1
  have e0 := (P02.out).c0
  have e1 := (P02.out).c1
  go_wp2_with fail
  refine (HG.out _).mono ?_
  rintro x v1 ⟨rfl, hb⟩
  have P10 := Lib.hid ((P00.out).to hb (by omega))
  have P11 := Lib.hid ((P01.out).to hb (by omega))
  have P12 := Lib.hid ((P02.out).to hb (by omega))
  have Q1 := Lib.hid (Q0.out.trans (hb.mono Q0.out.size))
  have y1 : w2.heap.size < v1.heap.size := by have := hb.size; omega
  clear hb c0 c1 d0 d1 e0 e1
  have c0 := (P10.out).c0
  have c1 := (P10.out).c1
  have d0 := (P11.out).c0
  have d1 := (P11.out).c1
  have e0 := (P12.out).c0
  have e1 := (P12.out).c1
  go_wp2_with fail
  refine (HC.out _).mono ?_
  rintro x v2 ⟨rfl, hb⟩
  have P20 := Lib.hid ((P10.out).to hb (by omega))
  have P21 := Lib.hid ((P11.out).to hb (by omega))
  have P22 := Lib.hid ((P12.out).to hb (by omega))
  have Q2 := Lib.hid (Q1.out.trans (hb.mono Q1.out.size))
  have y2 : w2.heap.size < v2.heap.size := by have := hb.size; omega
  clear hb c0 c1 d0 d1 e0 e1
  have c0 := (P20.out).c0
  have c1 := (P20.out).c1
  have d0 := (P21.out).c0
  have d1 := (P21.out).c1
  have e0 := (P22.out).c0
  have e1 := (P22.out).c1
  go_wp2_with fail
  go_ret
  exact ⟨rfl, Q2.out⟩

theorem next_c (t n u p q : Int) (w : World) (hg : gd t = true) (hne : t ≠ 36028797018963967) (hp : ¬ p ≤ 0) (hq : 0 ≤ q) (HC : Hid (∀ w, Calls Tryd.prog 11 #[.agg #[.int .i64 u, .int .u8 n], .agg #[.int .i64 t, .int .u8 n]] w fun x w' => x = .returned (.int .i64 p) ∧ Below w.heap.size w w')) (HD : Hid (∀ w, Calls Tryd.prog 11 #[.agg #[.int .i64 u, .int .u8 n], .agg #[.int .i64 (t + 1), .int .u8 n]] w fun x w' => x = .returned (.int .i64 q) ∧ Below w.heap.size w w'))
    (HB : Hid (∀ w, Calls Tryd.prog 11 #[.agg #[.int .i64 (t + 1), .int .u8 n], .agg #[.int .i64 t, .int .u8 n]] w fun x w' => x = .returned (.int .i64 1) ∧ Below w.heap.size w w'))
    (HG : Hid (∀ w, Calls Tryd.prog 14 #[.agg #[.int .i64 (t + 1), .int .u8 n]] w fun x w' => x = .returned (.bool true) ∧ Below w.heap.size w w')) :
    Calls Tryd.prog 5 #[.agg #[.int .i64 t, .int .u8 n], .agg #[.int .i64 u, .int .u8 n]] w fun x w' => x = .returned (.bool true) ∧ Below w.heap.size w w' := by
  have HN := Lib.hid (next_yes t n hg hne)
  clear hg hne
  have I0 := Lib.hid ((isSt_new w t n).alloc (.cells #[.int .i64 u, .int .u8 n] 23))
  have I1 := Lib.hid (isSt_new (w.alloc (.cells #[.int .i64 t, .int .u8 n] 23)) u n)
  have BA := Lib.hid (((Below.refl w.heap.size w).alloc (Nat.le_refl _) (.cells #[.int .i64 t, .int .u8 n] 23)).alloc (by simp) (.cells #[.int .i64 u, .int .u8 n] 23))
  go_enter Tryd.func5, Tryd.ntmps5
  go_wp2_with fail
  refine (awake_calls _).mono ?_
  rintro x w1 ⟨rfl, hb1⟩
  have J0 := I0.out.to hb1 (by simp; omega)
  have J1 := I1.out.to hb1 (by simp)
  simp only [World.size_alloc] at J1
  have M0 := Lib.hid J0
  have M1 := Lib.hid J1
  have c0 := J0.c0
  have c1 := J0.c1
  have B1 := Lib.hid (BA.out.trans (hb1.mono BA.out.size))
  have z1 : w.heap.size + 1 + 1 ≤ w1.heap.size := by have := hb1.size; simpa using this
  clear hb1 J0 J1
  go_wp2_with fail
  refine (HN.out _).mono ?_
  rintro x w2 ⟨rfl, hb2⟩
  have N0 := Lib.hid (((M0.out.to hb2 (by omega)).alloc (.cells #[.int .i64 0, .int .u8 0] 23)).putO (h := w2.heap.size) (by have := hb2.size; omega) (t + 1) n)
  have N1 := Lib.hid (((M1.out.to hb2 (by omega)).alloc (.cells #[.int .i64 0, .int .u8 0] 23)).putO (h := w2.heap.size) (by have := hb2.size; omega) (t + 1) n)
  have B2 := Lib.hid (B1.out.trans (hb2.mono B1.out.size))
  have z2 : w.heap.size + 1 + 1 ≤ w2.heap.size := by have := hb2.size; omega
  clear hb2 c0 c1 M0 M1
  have K := Lib.hid (isSt_new w2 0 0)
  have L := Lib.hid ((isSt_new w2 0 0).put (t + 1) n)
  have B3 := Lib.hid (below_setRow (B2.out.alloc B2.out.size (.cells #[.int .i64 0, .int .u8 0] 23)) B2.out.size (st2 (t + 1) n))
  have SZ : Hid (((w2.alloc (.cells #[.int .i64 0, .int .u8 0] 23)).setRow w2.heap.size (st2 (t + 1) n)).heap.size = w2.heap.size + 1) := Lib.hid (by simp)
  obtain ⟨W, hW⟩ : ∃ W, (w2.alloc (.cells #[.int .i64 0, .int .u8 0] 23)).setRow w2.heap.size (st2 (t + 1) n) = W := ⟨_, rfl⟩
  rw [hW] at N0 N1 L B3 SZ
  have HW := Lib.hid hW
  clear hW
  have z3 : w2.heap.size < W.heap.size := by have := SZ.out; omega
  have c0 := (N0.out).c0
  have c1 := (N0.out).c1
  have d0 := (N1.out).c0
  have d1 := (N1.out).c1
  have e0 := (L.out).c0
  have e1 := (L.out).c1
  go_wp2_with (((with_reducible refine stL (.tmp 5) (.tmp 12) _ (t + 1) n 0 0 ?_ ?_ K.out ?_); rfl; rfl; rw [HW.out]))
  clear K HW
  refine (HB.out _).mono ?_
  rintro x v0 ⟨rfl, hb⟩
  have P00 := Lib.hid ((N0.out).to hb (by omega))
  have P01 := Lib.hid ((N1.out).to hb (by omega))
  have P02 := Lib.hid ((L.out).to hb (by omega))
  have Q0 := Lib.hid (B3.out.trans (hb.mono B3.out.size))
  have y0 : w2.heap.size < v0.heap.size := by have := hb.size; omega
  clear hb c0 c1 d0 d1 e0 e1
  have c0 := (P00.out).c0
  have c1 := (P00.out).c1
  have d0 := (P01.out).c0
  have d1 := (P01.out).c1
  have e0 := (P02.out).c0
  have e1 := (P02.out).c1
  go_wp2_with fail
  refine (HG.out _).mono ?_
  rintro x v1 ⟨rfl, hb⟩
  have P10 := Lib.hid ((P00.out).to hb (by omega))
  have P11 := Lib.hid ((P01.out).to hb (by omega))
  have P12 := Lib.hid ((P02.out).to hb (by omega))
  have Q1 := Lib.hid (Q0.out.trans (hb.mono Q0.out.size))
  have y1 : w2.heap.size < v1.heap.size := by have := hb.size; omega
  clear hb c0 c1 d0 d1 e0 e1
  have c0 := (P10.out).c0
  have c1 := (P10.out).c1
  have d0 := (P11.out).c0
  have d1 := (P11.out).c1
  have e0 := (P12.out).c0
  have e1 := (P12.out).c1
  go_wp2_with fail
  refine (HC.out _).mono ?_
  rintro x v2 ⟨rfl, hb⟩
  have P20 := Lib.hid ((P10.out).to hb (by omega))
  have P21 := Lib.hid ((P11.out).to hb (by omega))
  have P22 := Lib.hid ((P12.out).to hb (by omega))
  have Q2 := Lib.hid (Q1.out.trans (hb.mono Q1.out.size))
  have y2 : w2.heap.size < v2.heap.size := by have := hb.size; omega
  clear hb c0 c1 d0 d1 e0 e1
  have c0 := (P20.out).c0
  have c1 := (P20.out).c1
  have d0 := (P21.out).c0
  have d1 := (P21.out).c1
  have e0 := (P22.out).c0
  have e1 := (P22.out).c1
  go_wp2_with fail
  refine (HD.out _).mono ?_
  rintro x v3 ⟨rfl, hb⟩
  have P30 := Lib.hid ((P20.out).to hb (by omega))
  have P31 := Lib.hid ((P21.out).to hb (by omega))
  have P32 := Lib.hid ((P22.out).to hb (by omega))
  have Q3 := Lib.hid (Q2.out.trans (hb.mono Q2.out.size))
  have y3 : w2.heap.size < v3.heap.size := by have := hb.size; omega
  clear hb c0 c1 d0 d1 e0 e1
  have c0 := (P30.out).c0
  have c1 := (P30.out).c1
  have d0 := (P31.out).c0
  have d1 := (P31.out).c1
  have e0 := (P32.out).c0
  have e1 := (P32.out).c1
  go_wp2_with fail
  go_ret
  exact ⟨rfl, Q3.out⟩

theorem cs_node (u t n : Int) : cs u n t n = c2 u t := by
  unfold cs
  by_cases h : c2 u t = 0
  · rw [if_neg (by simp [h]), h]; simp [c2]
  · rw [if_pos h]

/-- StampNext answers true, whatever the stamps. -/
theorem stampNext_calls (t n u k : Int) (w : World) : Calls Tryd.prog 5 #[.agg #[.int .i64 t, .int .u8 n], .agg #[.int .i64 u, .int .u8 k]] w fun x w' => x = .returned (.bool true) ∧ Below w.heap.size w w' := by
  cases hg : gd t with
  | false => exact next_stop t n u k 1 (by decide) w (Lib.hid (next_no t n hg))
  | true =>
    by_cases hne : t = 36028797018963967
    · subst hne
      exact next_stop _ n u k 12 (by decide) w (Lib.hid (next_spent n))
    · have ht : 0 ≤ t ∧ t ≤ 36028797018963967 := by simpa [gd] using hg
      have HB := Lib.hid (cmp_calls (t + 1) n t n)
      rw [show cs (t + 1) n t n = 1 by unfold cs c2; split <;> split <;> omega] at HB
      have HG := Lib.hid (good_calls (t + 1) n)
      rw [show gd (t + 1) = true by simp [gd]; omega] at HG
      by_cases hk : k = n
      · subst hk
        by_cases hp : cs u k t k ≤ 0
        · exact next_b t k u _ w hg hne hp (Lib.hid (cmp_calls u k t k)) HB HG
        · refine next_c t k u _ _ w hg hne hp ?_ (Lib.hid (cmp_calls u k t k)) (Lib.hid (cmp_calls u k (t + 1) k)) HB HG
          rw [cs_node] at hp ⊢
          unfold c2 at hp ⊢
          by_cases h1 : u < t
          · rw [if_pos h1] at hp; omega
          · rw [if_neg h1] at hp
            by_cases h2 : t < u
            · rw [if_neg (by omega)]; split <;> omega
            · rw [if_neg h2] at hp; omega
      · exact next_a t n u k w hg hne hk HB HG
end Go.Proofs.YtdmicehmmmpjcaaDoor
