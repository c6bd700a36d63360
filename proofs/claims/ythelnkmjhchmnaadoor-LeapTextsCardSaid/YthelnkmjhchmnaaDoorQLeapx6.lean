/- What the Go functions compute: each as a Lean function, with the proof that its call answers so; written by a program of this session over the kit's print. Conditions: each theorem's own. -/
import Derived.Test.YthelnkmjhchmnaaDoorQLeapx0
import Derived.Test.YthelnkmjhchmnaaDoorQLeapx5
namespace Go.Proofs.YthelnkmjhchmnaaDoor.QLeap
open Go.RowKit Go.Proofs.YthelnkmjhchmnaaDoorW.PrintWords Go.Proofs.YthelnkmjhchmnaaDoorW.PrintLast Go.Proofs.YthelnkmjhchmnaaDoorW.PrintMore
attribute [local go_sem] max2_int min2_int max_two min_two max_three min_three max_four min_four   -- for this text's walks alone
set_option linter.unusedVariables false
set_option linter.unusedSimpArgs false

/-! ### civil.Text: function 16, by hand -/
def tw (n : Int) : List UInt8 := Lib.decDigits (n / 10).toNat ++ Lib.decDigits (n % 10).toNat
def txl (y m d : Int) : List UInt8 := (if y < 0 then [45] else []) ++ tw ((if y < 0 then -y else y) / 100) ++ tw ((if y < 0 then -y else y) % 100) ++ [45] ++ tw m ++ [45] ++ tw d
def civil_Text.f (k : Nat) (a0_0 : Int) (a0_1 : Int) (a0_2 : Int) : Option ByteArray := (civil_good.f k a0_0 a0_1 a0_2).bind fun t => if t = true then (if -9999 ≤ a0_0 ∧ a0_0 ≤ 9999 ∧ 0 ≤ a0_1 ∧ a0_1 < 100 ∧ 0 ≤ a0_2 ∧ a0_2 < 100 then some ⟨(txl a0_0 a0_1 a0_2).toArray⟩ else none) else some (⟨#[]⟩ : ByteArray)
theorem civil_Text.mono : ∀ a0 a1 a2 k, LeO (civil_Text.f k a0 a1 a2) (civil_Text.f (k + 1) a0 a1 a2) := by
  intro a0 a1 a2 k
  unfold civil_Text.f
  exact LeO.bind (civil_good.mono a0 a1 a2 k) (fun _ => LeO.refl _)
theorem dec1 (n : Nat) (h : n < 10) : (Lib.decDigits n).length = 1 := by
  rw [Lib.decDigits_one h]; rfl
theorem tw_len (n : Int) (h0 : 0 ≤ n) (h1 : n < 100) : (tw n).length = 2 := by
  unfold tw
  rw [List.length_append, dec1 _ (by omega), dec1 _ (by omega)]
theorem two_is (n : Int) (h0 : 0 ≤ n) (h1 : n < 100) : civil_two.f n = some ⟨(tw n).toArray⟩ := by
  have l1 := dec1 (n / 10).toNat (by omega)
  have l2 := dec1 (n % 10).toNat (by omega)
  unfold civil_two.f strconv_Itoa.f tw
  rw [Int.tdiv_eq_ediv_of_nonneg h0, Int.tmod_eq_emod_of_nonneg h0, show wrap64 (n / 10) = n / 10 by unfold wrap64; omega, if_pos (by omega), if_pos (by omega), if_pos (by omega), if_pos (by omega)]
  simp only [Option.bind_some]
  rw [if_pos (by simp [ByteArray.size, l1, l2]), ByteArray.mk_append_mk]
set_option maxHeartbeats 2000000 in
theorem text_any (sl : List UInt8) (hsl : sl.length ≤ 1) (a y m d : Int) (hy0 : 0 ≤ a) (hy1 : a ≤ 9999) (hm0 : 0 ≤ m) (hm1 : m < 100) (hd0 : 0 ≤ d) (hd1 : d < 100)
    (hya : (y < 0 ∧ a = -y ∧ sl = [45]) ∨ (¬ y < 0 ∧ a = y ∧ sl = [])) (w : World) (HG : Hid (∀ w, Calls Tryd.prog 30 #[.agg #[.int .i64 y, .int .i64 m, .int .i64 d]] w fun e w' => e = .returned (.bool true) ∧ Below w.heap.size w w')) :
    Calls Tryd.prog 16 #[.agg #[.int .i64 y, .int .i64 m, .int .i64 d]] w fun e w' => e = .returned (.string ⟨(sl ++ tw (a / 100) ++ tw (a % 100) ++ [45] ++ tw m ++ [45] ++ tw d).toArray⟩) ∧ Below w.heap.size w w' := by
  have l1 := tw_len (a / 100) (by omega) (by omega)
  have l2 := tw_len (a % 100) (by omega) (by omega)
  have l3 := tw_len m hm0 hm1
  have l4 := tw_len d hd0 hd1
  have q1 : ∀ w : World, (Op.stringOp .add ⟨sl.toArray⟩ ⟨(tw (a / 100)).toArray⟩).run Tryd.prog w = .ok (.string ⟨(sl ++ tw (a / 100)).toArray⟩) w := fun w => run_string_add_lists w _ _ (by omega) (by omega)
  have q2 : ∀ w : World, (Op.stringOp .add ⟨(sl ++ tw (a / 100)).toArray⟩ ⟨(tw (a % 100)).toArray⟩).run Tryd.prog w = .ok (.string ⟨(sl ++ tw (a / 100) ++ tw (a % 100)).toArray⟩) w := fun w => run_string_add_lists w _ _ (by simp; omega) (by omega)
  have q3 : ∀ w : World, (Op.stringOp .add ⟨(sl ++ tw (a / 100) ++ tw (a % 100)).toArray⟩ ⟨#[45]⟩).run Tryd.prog w = .ok (.string ⟨(sl ++ tw (a / 100) ++ tw (a % 100) ++ [45]).toArray⟩) w := fun w => run_string_add_lists w _ [45] (by simp; omega) (by decide)
  have q4 : ∀ w : World, (Op.stringOp .add ⟨(sl ++ tw (a / 100) ++ tw (a % 100) ++ [45]).toArray⟩ ⟨(tw m).toArray⟩).run Tryd.prog w = .ok (.string ⟨(sl ++ tw (a / 100) ++ tw (a % 100) ++ [45] ++ tw m).toArray⟩) w := fun w => run_string_add_lists w _ _ (by simp; omega) (by omega)
  have q5 : ∀ w : World, (Op.stringOp .add ⟨(sl ++ tw (a / 100) ++ tw (a % 100) ++ [45] ++ tw m).toArray⟩ ⟨#[45]⟩).run Tryd.prog w = .ok (.string ⟨(sl ++ tw (a / 100) ++ tw (a % 100) ++ [45] ++ tw m ++ [45]).toArray⟩) w := fun w => run_string_add_lists w _ [45] (by simp; omega) (by decide)
  have q6 : ∀ w : World, (Op.stringOp .add ⟨(sl ++ tw (a / 100) ++ tw (a % 100) ++ [45] ++ tw m ++ [45]).toArray⟩ ⟨(tw d).toArray⟩).run Tryd.prog w = .ok (.string ⟨(sl ++ tw (a / 100) ++ tw (a % 100) ++ [45] ++ tw m ++ [45] ++ tw d).toArray⟩) w := fun w => run_string_add_lists w _ _ (by simp; omega) (by omega)
  have T1 := Lib.hid (fun w => civil_two.calls (a / 100) _ w (two_is (a / 100) (by omega) (by omega)))
  have T2 := Lib.hid (fun w => civil_two.calls (a % 100) _ w (two_is (a % 100) (by omega) (by omega)))
  have T3 := Lib.hid (fun w => civil_two.calls m _ w (two_is m hm0 hm1))
  have T4 := Lib.hid (fun w => civil_two.calls d _ w (two_is d hd0 hd1))
  obtain ⟨x1, e1⟩ : ∃ s : ByteArray, ⟨(tw (a / 100)).toArray⟩ = s := ⟨_, rfl⟩
  obtain ⟨x2, e2⟩ : ∃ s : ByteArray, ⟨(tw (a % 100)).toArray⟩ = s := ⟨_, rfl⟩
  obtain ⟨x3, e3⟩ : ∃ s : ByteArray, ⟨(tw m).toArray⟩ = s := ⟨_, rfl⟩
  obtain ⟨x4, e4⟩ : ∃ s : ByteArray, ⟨(tw d).toArray⟩ = s := ⟨_, rfl⟩
  obtain ⟨p6, f6⟩ : ∃ s : ByteArray, ⟨(sl ++ tw (a / 100) ++ tw (a % 100) ++ [45] ++ tw m ++ [45] ++ tw d).toArray⟩ = s := ⟨_, rfl⟩
  obtain ⟨p5, f5⟩ : ∃ s : ByteArray, ⟨(sl ++ tw (a / 100) ++ tw (a % 100) ++ [45] ++ tw m ++ [45]).toArray⟩ = s := ⟨_, rfl⟩
  obtain ⟨p4, f4⟩ : ∃ s : ByteArray, ⟨(sl ++ tw (a / 100) ++ tw (a % 100) ++ [45] ++ tw m).toArray⟩ = s := ⟨_, rfl⟩
  obtain ⟨p3, f3⟩ : ∃ s : ByteArray, ⟨(sl ++ tw (a / 100) ++ tw (a % 100) ++ [45]).toArray⟩ = s := ⟨_, rfl⟩
  obtain ⟨p2, f2⟩ : ∃ s : ByteArray, ⟨(sl ++ tw (a / 100) ++ tw (a % 100)).toArray⟩ = s := ⟨_, rfl⟩
  obtain ⟨p1, f1⟩ : ∃ s : ByteArray, ⟨(sl ++ tw (a / 100)).toArray⟩ = s := ⟨_, rfl⟩
  rw [e1, f1] at q1
  rw [e2, f1, f2] at q2
  rw [f2, f3] at q3
  rw [e3, f3, f4] at q4
  rw [f4, f5] at q5
  rw [e4, f5, f6] at q6
  rw [e1] at T1
  rw [e2] at T2
  rw [e3] at T3
  rw [e4] at T4
  rw [f6]
  clear e1 e2 e3 e4 f1 f2 f3 f4 f5 f6 l1 l2 l3 l4
  have Q1 := Lib.hid q1
  have Q2 := Lib.hid q2
  have Q3 := Lib.hid q3
  have Q4 := Lib.hid q4
  have Q5 := Lib.hid q5
  have Q6 := Lib.hid q6
  clear q1 q2 q3 q4 q5 q6
  have I0 := Lib.hid (isB_new w #[.int .i64 y, .int .i64 m, .int .i64 d] 37)
  have BA := Lib.hid ((Below.refl w.heap.size w).alloc (Nat.le_refl _) (.cells #[.int .i64 y, .int .i64 m, .int .i64 d] 37))
  rcases hya with ⟨hneg, rfl, rfl⟩ | ⟨hneg, rfl, rfl⟩
  · have hwr : IntKind.i64.wrap (-y) = -y := by rw [IntKind.wrap_i64]; omega
    have N1 := Lib.hid (show IntKind.i64.wrap (-(y.tdiv 100)) = -y / 100 by rw [← Int.neg_tdiv, Int.tdiv_eq_ediv_of_nonneg hy0, IntKind.wrap_i64]; omega)
    have N2 := Lib.hid (show -(y.tmod 100) = -y % 100 by rw [← Int.neg_tmod, Int.tmod_eq_emod_of_nonneg hy0])
    go_enter Tryd.func16, Tryd.ntmps16
    have C0 := (I0.out.at 0)
    have C1 := (I0.out.at 1)
    have C2 := (I0.out.at 2)
    clear C0 C1 C2
    go_wp2_with fail
    refine (HG.out _).mono ?_
    rintro e w1 ⟨rfl, hb⟩
    have J0 := Lib.hid (I0.out.to hb (by simp))
    have B1 := Lib.hid (BA.out.trans (hb.mono BA.out.size))
    have z1 : w.heap.size < w1.heap.size := by have := hb.size; simp at this; omega
    clear hb I0 BA
    have hc0 : w1.cell? ⟨w.heap.size, 0, none⟩ = some (.int .i64 y) := J0.out.at 0
    go_wp2_with fail
    clear hc0
    refine region_quiet_lit (C := fun w' => Below w1.heap.size w1 w') (by kernel_rfl) (by kernel_rfl) (Below.refl _ _).drew ?_
    refine BigFrame.wpQuiet_want rfl (fun K hK => ?_)
    refine quiet_val (.string ⟨#[45]⟩) (fun w2 hw => rfl) (hK _ ?_)
    clear hK K
    simp only [Act.put, List.setIfInBounds_toArray, List.set_cons_zero, List.set_cons_succ]
    refine BigFrame.wpQuiet_want rfl (fun K hK => ?_)
    refine quiet_val (.int .i64 (-y)) (fun w2 hw => rfl) (hK _ ?_)
    clear hK K
    simp only [Act.put, List.setIfInBounds_toArray, List.set_cons_zero, List.set_cons_succ]
    refine BigFrame.wpQuiet_want rfl (fun K hK => ?_)
    refine quiet_val (.int .i64 ((-y) / 100)) (fun w2 hw => by simp [go_sem, N1.out]) (hK _ ?_)
    clear hK K
    simp only [Act.put, List.setIfInBounds_toArray, List.set_cons_zero, List.set_cons_succ]
    refine BigFrame.wpQuiet_want rfl (fun K hK => ?_)
    refine quiet_call 31 #[.int .i64 ((-y) / 100)] (.string x1) (fun w2 => by simp [go_sem]) (fun w2 hw => (T1.out w2).mono fun e w3 hh => ⟨hh.1, by obtain ⟨nd, rfl⟩ := hh.2; exact hw.trans ((below_drewN w2 nd).mono hw.size)⟩) (hK _ ?_)
    clear hK K
    simp only [Act.put, List.setIfInBounds_toArray, List.set_cons_zero, List.set_cons_succ]
    refine BigFrame.wpQuiet_want rfl (fun K hK => ?_)
    refine quiet_val (.string p1) (fun w2 hw => by simp [go_sem, Q1.out]) (hK _ ?_)
    clear hK K
    simp only [Act.put, List.setIfInBounds_toArray, List.set_cons_zero, List.set_cons_succ]
    refine BigFrame.wpQuiet_want rfl (fun K hK => ?_)
    refine quiet_val (.int .i64 (-y)) (fun w2 hw => rfl) (hK _ ?_)
    clear hK K
    simp only [Act.put, List.setIfInBounds_toArray, List.set_cons_zero, List.set_cons_succ]
    refine BigFrame.wpQuiet_want rfl (fun K hK => ?_)
    refine quiet_val (.int .i64 ((-y) % 100)) (fun w2 hw => by simp [go_sem, N2.out]) (hK _ ?_)
    clear hK K
    simp only [Act.put, List.setIfInBounds_toArray, List.set_cons_zero, List.set_cons_succ]
    refine BigFrame.wpQuiet_want rfl (fun K hK => ?_)
    refine quiet_call 31 #[.int .i64 ((-y) % 100)] (.string x2) (fun w2 => by simp [go_sem]) (fun w2 hw => (T2.out w2).mono fun e w3 hh => ⟨hh.1, by obtain ⟨nd, rfl⟩ := hh.2; exact hw.trans ((below_drewN w2 nd).mono hw.size)⟩) (hK _ ?_)
    clear hK K
    simp only [Act.put, List.setIfInBounds_toArray, List.set_cons_zero, List.set_cons_succ]
    refine BigFrame.wpQuiet_want rfl (fun K hK => ?_)
    refine quiet_val (.string p2) (fun w2 hw => by simp [go_sem, Q2.out]) (hK _ ?_)
    clear hK K
    simp only [Act.put, List.setIfInBounds_toArray, List.set_cons_zero, List.set_cons_succ]
    refine BigFrame.wpQuiet_want rfl (fun K hK => ?_)
    refine quiet_val (.string p3) (fun w2 hw => by simp [go_sem, Q3.out]) (hK _ ?_)
    clear hK K
    simp only [Act.put, List.setIfInBounds_toArray, List.set_cons_zero, List.set_cons_succ]
    refine BigFrame.wpQuiet_want rfl (fun K hK => ?_)
    refine quiet_val (.pointer (some ⟨w.heap.size, 1, none⟩)) (fun w2 hw => by simp [go_sem]) (hK _ ?_)
    clear hK K
    simp only [Act.put, List.setIfInBounds_toArray, List.set_cons_zero, List.set_cons_succ]
    refine BigFrame.wpQuiet_want rfl (fun K hK => ?_)
    refine quiet_val (.int .i64 m) (fun w2 hw => by simp [go_sem, (J0.out.to hw z1).at]) (hK _ ?_)
    clear hK K
    simp only [Act.put, List.setIfInBounds_toArray, List.set_cons_zero, List.set_cons_succ]
    refine BigFrame.wpQuiet_want rfl (fun K hK => ?_)
    refine quiet_call 31 #[.int .i64 m] (.string x3) (fun w2 => by simp [go_sem]) (fun w2 hw => (T3.out w2).mono fun e w3 hh => ⟨hh.1, by obtain ⟨nd, rfl⟩ := hh.2; exact hw.trans ((below_drewN w2 nd).mono hw.size)⟩) (hK _ ?_)
    clear hK K
    simp only [Act.put, List.setIfInBounds_toArray, List.set_cons_zero, List.set_cons_succ]
    refine BigFrame.wpQuiet_want rfl (fun K hK => ?_)
    refine quiet_val (.string p4) (fun w2 hw => by simp [go_sem, Q4.out]) (hK _ ?_)
    clear hK K
    simp only [Act.put, List.setIfInBounds_toArray, List.set_cons_zero, List.set_cons_succ]
    refine BigFrame.wpQuiet_want rfl (fun K hK => ?_)
    refine quiet_val (.string p5) (fun w2 hw => by simp [go_sem, Q5.out]) (hK _ ?_)
    clear hK K
    simp only [Act.put, List.setIfInBounds_toArray, List.set_cons_zero, List.set_cons_succ]
    refine BigFrame.wpQuiet_want rfl (fun K hK => ?_)
    refine quiet_val (.pointer (some ⟨w.heap.size, 2, none⟩)) (fun w2 hw => by simp [go_sem]) (hK _ ?_)
    clear hK K
    simp only [Act.put, List.setIfInBounds_toArray, List.set_cons_zero, List.set_cons_succ]
    refine BigFrame.wpQuiet_want rfl (fun K hK => ?_)
    refine quiet_val (.int .i64 d) (fun w2 hw => by simp [go_sem, (J0.out.to hw z1).at]) (hK _ ?_)
    clear hK K
    simp only [Act.put, List.setIfInBounds_toArray, List.set_cons_zero, List.set_cons_succ]
    refine BigFrame.wpQuiet_want rfl (fun K hK => ?_)
    refine quiet_call 31 #[.int .i64 d] (.string x4) (fun w2 => by simp [go_sem]) (fun w2 hw => (T4.out w2).mono fun e w3 hh => ⟨hh.1, by obtain ⟨nd, rfl⟩ := hh.2; exact hw.trans ((below_drewN w2 nd).mono hw.size)⟩) (hK _ ?_)
    clear hK K
    simp only [Act.put, List.setIfInBounds_toArray, List.set_cons_zero, List.set_cons_succ]
    refine BigFrame.wpQuiet_want rfl (fun K hK => ?_)
    refine quiet_val (.string p6) (fun w2 hw => by simp [go_sem, Q6.out]) (hK _ ?_)
    clear hK K
    simp only [Act.put, List.setIfInBounds_toArray, List.set_cons_zero, List.set_cons_succ]
    refine BigFrame.wpQuiet_want rfl (fun K hK => ?_)
    refine quiet_val (.string p6) (fun w2 hw => rfl) (hK _ ?_)
    clear hK K
    simp only [Act.put, List.setIfInBounds_toArray, List.set_cons_zero, List.set_cons_succ]
    refine wpQuiet_nil ?_
    intro w9 hb9
    have B9 := Lib.hid (B1.out.trans (hb9.mono B1.out.size))
    clear hb9
    go_wp2_with fail
    go_ret
    exact ⟨rfl, B9.out⟩
  · have N1 := Lib.hid (show IntKind.i64.wrap (a.tdiv 100) = a / 100 by rw [Int.tdiv_eq_ediv_of_nonneg hy0, IntKind.wrap_i64]; omega)
    have N2 := Lib.hid (show a.tmod 100 = a % 100 by rw [Int.tmod_eq_emod_of_nonneg hy0])
    go_enter Tryd.func16, Tryd.ntmps16
    have C0 := (I0.out.at 0)
    have C1 := (I0.out.at 1)
    have C2 := (I0.out.at 2)
    clear C0 C1 C2
    go_wp2_with fail
    refine (HG.out _).mono ?_
    rintro e w1 ⟨rfl, hb⟩
    have J0 := Lib.hid (I0.out.to hb (by simp))
    have B1 := Lib.hid (BA.out.trans (hb.mono BA.out.size))
    have z1 : w.heap.size < w1.heap.size := by have := hb.size; simp at this; omega
    clear hb I0 BA
    have hc0 : w1.cell? ⟨w.heap.size, 0, none⟩ = some (.int .i64 a) := J0.out.at 0
    go_wp2_with fail
    clear hc0
    refine region_quiet_lit (C := fun w' => Below w1.heap.size w1 w') (by kernel_rfl) (by kernel_rfl) (Below.refl _ _).drew ?_
    refine BigFrame.wpQuiet_want rfl (fun K hK => ?_)
    refine quiet_val (.string ⟨#[]⟩) (fun w2 hw => rfl) (hK _ ?_)
    clear hK K
    simp only [Act.put, List.setIfInBounds_toArray, List.set_cons_zero, List.set_cons_succ]
    refine BigFrame.wpQuiet_want rfl (fun K hK => ?_)
    refine quiet_val (.int .i64 a) (fun w2 hw => rfl) (hK _ ?_)
    clear hK K
    simp only [Act.put, List.setIfInBounds_toArray, List.set_cons_zero, List.set_cons_succ]
    refine BigFrame.wpQuiet_want rfl (fun K hK => ?_)
    refine quiet_val (.int .i64 (a / 100)) (fun w2 hw => by simp [go_sem, N1.out]) (hK _ ?_)
    clear hK K
    simp only [Act.put, List.setIfInBounds_toArray, List.set_cons_zero, List.set_cons_succ]
    refine BigFrame.wpQuiet_want rfl (fun K hK => ?_)
    refine quiet_call 31 #[.int .i64 (a / 100)] (.string x1) (fun w2 => by simp [go_sem]) (fun w2 hw => (T1.out w2).mono fun e w3 hh => ⟨hh.1, by obtain ⟨nd, rfl⟩ := hh.2; exact hw.trans ((below_drewN w2 nd).mono hw.size)⟩) (hK _ ?_)
    clear hK K
    simp only [Act.put, List.setIfInBounds_toArray, List.set_cons_zero, List.set_cons_succ]
    refine BigFrame.wpQuiet_want rfl (fun K hK => ?_)
    refine quiet_val (.string p1) (fun w2 hw => by simp [go_sem, Q1.out]) (hK _ ?_)
    clear hK K
    simp only [Act.put, List.setIfInBounds_toArray, List.set_cons_zero, List.set_cons_succ]
    refine BigFrame.wpQuiet_want rfl (fun K hK => ?_)
    refine quiet_val (.int .i64 a) (fun w2 hw => rfl) (hK _ ?_)
    clear hK K
    simp only [Act.put, List.setIfInBounds_toArray, List.set_cons_zero, List.set_cons_succ]
    refine BigFrame.wpQuiet_want rfl (fun K hK => ?_)
    refine quiet_val (.int .i64 (a % 100)) (fun w2 hw => by simp [go_sem, N2.out]) (hK _ ?_)
    clear hK K
    simp only [Act.put, List.setIfInBounds_toArray, List.set_cons_zero, List.set_cons_succ]
    refine BigFrame.wpQuiet_want rfl (fun K hK => ?_)
    refine quiet_call 31 #[.int .i64 (a % 100)] (.string x2) (fun w2 => by simp [go_sem]) (fun w2 hw => (T2.out w2).mono fun e w3 hh => ⟨hh.1, by obtain ⟨nd, rfl⟩ := hh.2; exact hw.trans ((below_drewN w2 nd).mono hw.size)⟩) (hK _ ?_)
    clear hK K
    simp only [Act.put, List.setIfInBounds_toArray, List.set_cons_zero, List.set_cons_succ]
    refine BigFrame.wpQuiet_want rfl (fun K hK => ?_)
    refine quiet_val (.string p2) (fun w2 hw => by simp [go_sem, Q2.out]) (hK _ ?_)
    clear hK K
    simp only [Act.put, List.setIfInBounds_toArray, List.set_cons_zero, List.set_cons_succ]
    refine BigFrame.wpQuiet_want rfl (fun K hK => ?_)
    refine quiet_val (.string p3) (fun w2 hw => by simp [go_sem, Q3.out]) (hK _ ?_)
    clear hK K
    simp only [Act.put, List.setIfInBounds_toArray, List.set_cons_zero, List.set_cons_succ]
    refine BigFrame.wpQuiet_want rfl (fun K hK => ?_)
    refine quiet_val (.pointer (some ⟨w.heap.size, 1, none⟩)) (fun w2 hw => by simp [go_sem]) (hK _ ?_)
    clear hK K
    simp only [Act.put, List.setIfInBounds_toArray, List.set_cons_zero, List.set_cons_succ]
    refine BigFrame.wpQuiet_want rfl (fun K hK => ?_)
    refine quiet_val (.int .i64 m) (fun w2 hw => by simp [go_sem, (J0.out.to hw z1).at]) (hK _ ?_)
    clear hK K
    simp only [Act.put, List.setIfInBounds_toArray, List.set_cons_zero, List.set_cons_succ]
    refine BigFrame.wpQuiet_want rfl (fun K hK => ?_)
    refine quiet_call 31 #[.int .i64 m] (.string x3) (fun w2 => by simp [go_sem]) (fun w2 hw => (T3.out w2).mono fun e w3 hh => ⟨hh.1, by obtain ⟨nd, rfl⟩ := hh.2; exact hw.trans ((below_drewN w2 nd).mono hw.size)⟩) (hK _ ?_)
    clear hK K
    simp only [Act.put, List.setIfInBounds_toArray, List.set_cons_zero, List.set_cons_succ]
    refine BigFrame.wpQuiet_want rfl (fun K hK => ?_)
    refine quiet_val (.string p4) (fun w2 hw => by simp [go_sem, Q4.out]) (hK _ ?_)
    clear hK K
    simp only [Act.put, List.setIfInBounds_toArray, List.set_cons_zero, List.set_cons_succ]
    refine BigFrame.wpQuiet_want rfl (fun K hK => ?_)
    refine quiet_val (.string p5) (fun w2 hw => by simp [go_sem, Q5.out]) (hK _ ?_)
    clear hK K
    simp only [Act.put, List.setIfInBounds_toArray, List.set_cons_zero, List.set_cons_succ]
    refine BigFrame.wpQuiet_want rfl (fun K hK => ?_)
    refine quiet_val (.pointer (some ⟨w.heap.size, 2, none⟩)) (fun w2 hw => by simp [go_sem]) (hK _ ?_)
    clear hK K
    simp only [Act.put, List.setIfInBounds_toArray, List.set_cons_zero, List.set_cons_succ]
    refine BigFrame.wpQuiet_want rfl (fun K hK => ?_)
    refine quiet_val (.int .i64 d) (fun w2 hw => by simp [go_sem, (J0.out.to hw z1).at]) (hK _ ?_)
    clear hK K
    simp only [Act.put, List.setIfInBounds_toArray, List.set_cons_zero, List.set_cons_succ]
    refine BigFrame.wpQuiet_want rfl (fun K hK => ?_)
    refine quiet_call 31 #[.int .i64 d] (.string x4) (fun w2 => by simp [go_sem]) (fun w2 hw => (T4.out w2).mono fun e w3 hh => ⟨hh.1, by obtain ⟨nd, rfl⟩ := hh.2; exact hw.trans ((below_drewN w2 nd).mono hw.size)⟩) (hK _ ?_)
    clear hK K
    simp only [Act.put, List.setIfInBounds_toArray, List.set_cons_zero, List.set_cons_succ]
    refine BigFrame.wpQuiet_want rfl (fun K hK => ?_)
    refine quiet_val (.string p6) (fun w2 hw => by simp [go_sem, Q6.out]) (hK _ ?_)
    clear hK K
    simp only [Act.put, List.setIfInBounds_toArray, List.set_cons_zero, List.set_cons_succ]
    refine BigFrame.wpQuiet_want rfl (fun K hK => ?_)
    refine quiet_val (.string p6) (fun w2 hw => rfl) (hK _ ?_)
    clear hK K
    simp only [Act.put, List.setIfInBounds_toArray, List.set_cons_zero, List.set_cons_succ]
    refine wpQuiet_nil ?_
    intro w9 hb9
    have B9 := Lib.hid (B1.out.trans (hb9.mono B1.out.size))
    clear hb9
    go_wp2_with fail
    go_ret
    exact ⟨rfl, B9.out⟩
set_option maxHeartbeats 1000000 in
theorem text_no (y m d : Int) (w : World) (HG : Hid (∀ w, Calls Tryd.prog 30 #[.agg #[.int .i64 y, .int .i64 m, .int .i64 d]] w fun e w' => e = .returned (.bool false) ∧ Below w.heap.size w w')) :
    Calls Tryd.prog 16 #[.agg #[.int .i64 y, .int .i64 m, .int .i64 d]] w fun e w' => e = .returned (.string ⟨#[]⟩) ∧ Below w.heap.size w w' := by
  have BA := Lib.hid ((Below.refl w.heap.size w).alloc (Nat.le_refl _) (.cells #[.int .i64 y, .int .i64 m, .int .i64 d] 37))
  go_enter Tryd.func16, Tryd.ntmps16
  go_wp2_with fail
  refine (HG.out _).mono ?_
  rintro e w1 ⟨rfl, hb⟩
  have B1 := Lib.hid (BA.out.trans (hb.mono BA.out.size))
  clear hb BA
  go_wp2_with fail
  go_ret
  exact ⟨rfl, B1.out⟩
theorem civil_Text.calls (k : Nat) (a0_0 : Int) (a0_1 : Int) (a0_2 : Int) (r : ByteArray) (w : World) (h : civil_Text.f k a0_0 a0_1 a0_2 = some r) :
    Calls Tryd.prog 16 #[.agg #[.int .i64 a0_0, .int .i64 a0_1, .int .i64 a0_2]] w fun e w' => e = .returned (.string r) ∧ Below w.heap.size w w' := by
  unfold civil_Text.f at h
  obtain ⟨g, hg, h⟩ := Option.bind_eq_some_iff.mp h
  have HG := Lib.hid (fun w => civil_good.calls k a0_0 a0_1 a0_2 g w hg)
  cases g with
  | false =>
    obtain rfl := Option.some.inj h
    exact text_no _ _ _ w HG
  | true =>
    rw [if_pos rfl] at h
    by_cases hc : -9999 ≤ a0_0 ∧ a0_0 ≤ 9999 ∧ 0 ≤ a0_1 ∧ a0_1 < 100 ∧ 0 ≤ a0_2 ∧ a0_2 < 100
    · rw [if_pos hc] at h
      obtain rfl := Option.some.inj h
      obtain ⟨h1, h2, h3, h4, h5, h6⟩ := hc
      unfold txl
      by_cases hy : a0_0 < 0
      · simp only [if_pos hy]
        exact text_any [45] (by decide) (-a0_0) a0_0 a0_1 a0_2 (by omega) (by omega) h3 h4 h5 h6 (.inl ⟨hy, rfl, rfl⟩) w HG
      · simp only [if_neg hy]
        exact text_any [] (by decide) a0_0 a0_0 a0_1 a0_2 (by omega) (by omega) h3 h4 h5 h6 (.inr ⟨hy, rfl, rfl⟩) w HG
    · rw [if_neg hc] at h
      cases h

end Go.Proofs.YthelnkmjhchmnaaDoor.QLeap
