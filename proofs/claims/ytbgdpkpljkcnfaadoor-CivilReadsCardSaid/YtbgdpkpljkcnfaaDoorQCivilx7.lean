/- What the Go functions compute: each as a Lean function, with the proof that its call answers so; written by a program of this session over the kit's print. Conditions: each theorem's own. -/
import Derived.Test.YtbgdpkpljkcnfaaDoorQCivilx0
import Derived.Test.YtbgdpkpljkcnfaaDoorQCivilx1
import Derived.Test.YtbgdpkpljkcnfaaDoorQCivilx3
import Derived.Test.YtbgdpkpljkcnfaaDoorQCivilx4
import Derived.Test.YtbgdpkpljkcnfaaDoorQCivilx5
import Derived.Test.YtbgdpkpljkcnfaaDoorQCivilx6
namespace Go.Proofs.YtbgdpkpljkcnfaaDoor.QCivil
open Go.RowKit Go.Proofs.YtbgdpkpljkcnfaaDoorW.PrintWords Go.Proofs.YtbgdpkpljkcnfaaDoorW.PrintLast Go.Proofs.YtbgdpkpljkcnfaaDoorW.PrintMore
attribute [local go_sem] max2_int min2_int max_two min_two max_three min_three max_four min_four   -- for this text's walks alone
set_option linter.unusedVariables false
set_option linter.unusedSimpArgs false

attribute [local go_sem high] eqA23
/-! ### ref.Text: function 24, by hand -/
def hourglassref4_Text.t (p1 p2 p3 : ByteArray) : Option ByteArray := if p1.size ≤ 8 ∧ p2.size ≤ 8 ∧ p3.size ≤ 8 then some (((p1 ++ ⟨#[45]⟩) ++ p2 ++ ⟨#[45]⟩) ++ p3) else none
def hourglassref4_Text.f (k : Nat) (a0_0 : Int) (a0_1 : Int) (a0_2 : Int) : Option ByteArray := (hourglassref4_Good.f k a0_0 a0_1 a0_2).bind fun t => if t = true then (if a0_0 < -9999 then none else (if a0_0 < 0 then ((hourglassref4_pad.f k (-a0_0) 4).bind fun p1 => (hourglassref4_pad.f k a0_1 2).bind fun p2 => (hourglassref4_pad.f k a0_2 2).bind fun p3 => if p1.size ≤ 7 then hourglassref4_Text.t (⟨#[45]⟩ ++ p1) p2 p3 else none) else ((hourglassref4_pad.f k a0_0 4).bind fun p1 => (hourglassref4_pad.f k a0_1 2).bind fun p2 => (hourglassref4_pad.f k a0_2 2).bind fun p3 => hourglassref4_Text.t p1 p2 p3))) else some (⟨#[]⟩ : ByteArray)
theorem hourglassref4_Text.mono : ∀ a0 a1 a2 k, LeO (hourglassref4_Text.f k a0 a1 a2) (hourglassref4_Text.f (k + 1) a0 a1 a2) := by
  intro a0 a1 a2 k
  unfold hourglassref4_Text.f
  refine LeO.bind (hourglassref4_Good.mono a0 a1 a2 k) (fun t => LeO.ite (LeO.ite (LeO.refl _) (LeO.ite ?_ ?_)) (LeO.refl _))
  · exact LeO.bind (hourglassref4_pad.mono _ _ k) (fun p1 => LeO.bind (hourglassref4_pad.mono _ _ k) (fun p2 => LeO.bind (hourglassref4_pad.mono _ _ k) (fun p3 => LeO.refl _)))
  · exact LeO.bind (hourglassref4_pad.mono _ _ k) (fun p1 => LeO.bind (hourglassref4_pad.mono _ _ k) (fun p2 => LeO.bind (hourglassref4_pad.mono _ _ k) (fun p3 => LeO.refl _)))
set_option maxHeartbeats 1000000 in
theorem rtext_neg (y m d : Int) (hy : y < 0) (hy2 : -9999 ≤ y) (p1 p2 p3 : ByteArray) (s1 : p1.size ≤ 8) (s2 : p2.size ≤ 8) (s3 : p3.size ≤ 8) (w : World) (HG : Hid (∀ w, Calls Tryd.prog 29 #[.agg #[.int .i64 y, .int .i64 m, .int .i64 d]] w fun e w' => e = .returned (.bool true) ∧ Below w.heap.size w w'))
    (T1 : Hid (∀ w, Calls Tryd.prog 33 #[.int .i64 (-y), .int .i64 4] w fun e w' => e = .returned (.string p1) ∧ Below w.heap.size w w')) (T2 : Hid (∀ w, Calls Tryd.prog 33 #[.int .i64 m, .int .i64 2] w fun e w' => e = .returned (.string p2) ∧ Below w.heap.size w w'))
    (T3 : Hid (∀ w, Calls Tryd.prog 33 #[.int .i64 d, .int .i64 2] w fun e w' => e = .returned (.string p3) ∧ Below w.heap.size w w')) :
    Calls Tryd.prog 24 #[.agg #[.int .i64 y, .int .i64 m, .int .i64 d]] w fun e w' => e = .returned (.string ((((⟨#[45]⟩ ++ p1) ++ ⟨#[45]⟩) ++ p2 ++ ⟨#[45]⟩) ++ p3)) ∧ Below w.heap.size w w' := by
  have d1 : (⟨#[45]⟩ : ByteArray).size = 1 := rfl
  have q0 : ∀ w : World, (Op.stringOp .add (⟨#[45]⟩ : ByteArray) p1).run Tryd.prog w = .ok (.string ((⟨#[45]⟩ : ByteArray) ++ p1)) w := fun w => run_string_add_sum w _ _ (by omega)
  obtain ⟨r0, f0⟩ : ∃ s : ByteArray, (⟨#[45]⟩ : ByteArray) ++ p1 = s := ⟨_, rfl⟩
  have s1' : r0.size ≤ 9 := by rw [← f0, ByteArray.size_append]; omega
  rw [f0] at q0 ⊢
  have q1 : ∀ w : World, (Op.stringOp .add r0 (⟨#[45]⟩ : ByteArray)).run Tryd.prog w = .ok (.string (r0 ++ (⟨#[45]⟩ : ByteArray))) w := fun w => run_string_add_sum w _ _ (by omega)
  obtain ⟨r1, f1⟩ : ∃ s : ByteArray, r0 ++ (⟨#[45]⟩ : ByteArray) = s := ⟨_, rfl⟩
  have z1 : r1.size ≤ 10 := by rw [← f1, ByteArray.size_append]; omega
  rw [f1] at q1
  have q2 : ∀ w : World, (Op.stringOp .add r1 p2).run Tryd.prog w = .ok (.string (r1 ++ p2)) w := fun w => run_string_add_sum w _ _ (by omega)
  obtain ⟨r2, f2⟩ : ∃ s : ByteArray, r1 ++ p2 = s := ⟨_, rfl⟩
  have z2 : r2.size ≤ 18 := by rw [← f2, ByteArray.size_append]; omega
  rw [f2] at q2
  have q3 : ∀ w : World, (Op.stringOp .add r2 (⟨#[45]⟩ : ByteArray)).run Tryd.prog w = .ok (.string (r2 ++ (⟨#[45]⟩ : ByteArray))) w := fun w => run_string_add_sum w _ _ (by omega)
  obtain ⟨r3, f3⟩ : ∃ s : ByteArray, r2 ++ (⟨#[45]⟩ : ByteArray) = s := ⟨_, rfl⟩
  have z3 : r3.size ≤ 19 := by rw [← f3, ByteArray.size_append]; omega
  rw [f3] at q3
  have q4 : ∀ w : World, (Op.stringOp .add r3 p3).run Tryd.prog w = .ok (.string (r3 ++ p3)) w := fun w => run_string_add_sum w _ _ (by omega)
  obtain ⟨r4, f4⟩ : ∃ s : ByteArray, r3 ++ p3 = s := ⟨_, rfl⟩
  have z4 : r4.size ≤ 27 := by rw [← f4, ByteArray.size_append]; omega
  rw [f4] at q4
  rw [f1, f2, f3, f4]
  have Q0 := Lib.hid q0
  have Q1 := Lib.hid q1
  have Q2 := Lib.hid q2
  have Q3 := Lib.hid q3
  have Q4 := Lib.hid q4
  clear q0 f0 q1 f1 q2 f2 q3 f3 q4 f4 d1 z1 z2 z3 z4 s1 s2 s3 s1'
  have hwr := Lib.hid (show IntKind.i64.wrap (-y) = -y by rw [IntKind.wrap_i64]; omega)
  have I0 := Lib.hid (isB_new w #[.int .i64 y, .int .i64 m, .int .i64 d] 30)
  have BA := Lib.hid ((Below.refl w.heap.size w).alloc (Nat.le_refl _) (.cells #[.int .i64 y, .int .i64 m, .int .i64 d] 30))
  go_enter Tryd.func24, Tryd.ntmps24
  go_wp2_with fail
  refine (HG.out _).mono ?_
  rintro e w1 ⟨rfl, hb⟩
  have J0 := Lib.hid (I0.out.to hb (by simp))
  have B1 := Lib.hid (BA.out.trans (hb.mono BA.out.size))
  have z1 : w.heap.size < w1.heap.size := by have := hb.size; simp at this; omega
  clear hb I0 BA
  have hc0 : w1.cell? ⟨w.heap.size, 0, none⟩ = some (.int .i64 y) := J0.out.at 0
  go_wp2_with fail
  clear hc0
  refine region_quiet_lit (C := fun w' => Below w1.heap.size w1 w') (by kernel_rfl) (by kernel_rfl) (Below.refl _ _).drew ?_
  refine BigFrame.wpQuiet_want rfl (fun K hK => ?_)
  refine quiet_val (.pointer (some ⟨w.heap.size, 0, none⟩)) (fun w2 hw => by simp [go_sem]) (hK _ ?_)
  clear hK K
  simp only [Act.put, List.setIfInBounds_toArray, List.set_cons_zero, List.set_cons_succ]
  refine BigFrame.wpQuiet_want rfl (fun K hK => ?_)
  refine quiet_val (.int .i64 y) (fun w2 hw => by simp [go_sem, (J0.out.to hw z1).at]) (hK _ ?_)
  clear hK K
  simp only [Act.put, List.setIfInBounds_toArray, List.set_cons_zero, List.set_cons_succ]
  refine BigFrame.wpQuiet_want rfl (fun K hK => ?_)
  refine quiet_val (.int .i64 (-y)) (fun w2 hw => by simp [go_sem, hwr.out]) (hK _ ?_)
  clear hK K
  simp only [Act.put, List.setIfInBounds_toArray, List.set_cons_zero, List.set_cons_succ]
  refine BigFrame.wpQuiet_want rfl (fun K hK => ?_)
  refine quiet_call 33 #[.int .i64 (-y), .int .i64 4] (.string p1) (fun w2 => by simp [go_sem]) (fun w2 hw => (T1.out w2).mono fun e w3 hh => ⟨hh.1, hw.trans (hh.2.mono hw.size)⟩) (hK _ ?_)
  clear hK K
  simp only [Act.put, List.setIfInBounds_toArray, List.set_cons_zero, List.set_cons_succ]
  refine BigFrame.wpQuiet_want rfl (fun K hK => ?_)
  refine quiet_val (.string r0) (fun w2 hw => by simp [go_sem, Q0.out]) (hK _ ?_)
  clear hK K
  simp only [Act.put, List.setIfInBounds_toArray, List.set_cons_zero, List.set_cons_succ]
  refine BigFrame.wpQuiet_want rfl (fun K hK => ?_)
  refine quiet_val (.string r1) (fun w2 hw => by simp [go_sem, Q1.out]) (hK _ ?_)
  clear hK K
  simp only [Act.put, List.setIfInBounds_toArray, List.set_cons_zero, List.set_cons_succ]
  refine BigFrame.wpQuiet_want rfl (fun K hK => ?_)
  refine quiet_val (.pointer (some ⟨w.heap.size, 1, none⟩)) (fun w2 hw => by simp [go_sem]) (hK _ ?_)
  clear hK K
  simp only [Act.put, List.setIfInBounds_toArray, List.set_cons_zero, List.set_cons_succ]
  refine BigFrame.wpQuiet_want rfl (fun K hK => ?_)
  refine quiet_val (.int .i64 m) (fun w2 hw => by simp [go_sem, (J0.out.to hw z1).at]) (hK _ ?_)
  clear hK K
  simp only [Act.put, List.setIfInBounds_toArray, List.set_cons_zero, List.set_cons_succ]
  refine BigFrame.wpQuiet_want rfl (fun K hK => ?_)
  refine quiet_call 33 #[.int .i64 m, .int .i64 2] (.string p2) (fun w2 => by simp [go_sem]) (fun w2 hw => (T2.out w2).mono fun e w3 hh => ⟨hh.1, hw.trans (hh.2.mono hw.size)⟩) (hK _ ?_)
  clear hK K
  simp only [Act.put, List.setIfInBounds_toArray, List.set_cons_zero, List.set_cons_succ]
  refine BigFrame.wpQuiet_want rfl (fun K hK => ?_)
  refine quiet_val (.string r2) (fun w2 hw => by simp [go_sem, Q2.out]) (hK _ ?_)
  clear hK K
  simp only [Act.put, List.setIfInBounds_toArray, List.set_cons_zero, List.set_cons_succ]
  refine BigFrame.wpQuiet_want rfl (fun K hK => ?_)
  refine quiet_val (.string r3) (fun w2 hw => by simp [go_sem, Q3.out]) (hK _ ?_)
  clear hK K
  simp only [Act.put, List.setIfInBounds_toArray, List.set_cons_zero, List.set_cons_succ]
  refine BigFrame.wpQuiet_want rfl (fun K hK => ?_)
  refine quiet_val (.pointer (some ⟨w.heap.size, 2, none⟩)) (fun w2 hw => by simp [go_sem]) (hK _ ?_)
  clear hK K
  simp only [Act.put, List.setIfInBounds_toArray, List.set_cons_zero, List.set_cons_succ]
  refine BigFrame.wpQuiet_want rfl (fun K hK => ?_)
  refine quiet_val (.int .i64 d) (fun w2 hw => by simp [go_sem, (J0.out.to hw z1).at]) (hK _ ?_)
  clear hK K
  simp only [Act.put, List.setIfInBounds_toArray, List.set_cons_zero, List.set_cons_succ]
  refine BigFrame.wpQuiet_want rfl (fun K hK => ?_)
  refine quiet_call 33 #[.int .i64 d, .int .i64 2] (.string p3) (fun w2 => by simp [go_sem]) (fun w2 hw => (T3.out w2).mono fun e w3 hh => ⟨hh.1, hw.trans (hh.2.mono hw.size)⟩) (hK _ ?_)
  clear hK K
  simp only [Act.put, List.setIfInBounds_toArray, List.set_cons_zero, List.set_cons_succ]
  refine BigFrame.wpQuiet_want rfl (fun K hK => ?_)
  refine quiet_val (.string r4) (fun w2 hw => by simp [go_sem, Q4.out]) (hK _ ?_)
  clear hK K
  simp only [Act.put, List.setIfInBounds_toArray, List.set_cons_zero, List.set_cons_succ]
  refine BigFrame.wpQuiet_want rfl (fun K hK => ?_)
  refine quiet_val (.string r4) (fun w2 hw => rfl) (hK _ ?_)
  clear hK K
  simp only [Act.put, List.setIfInBounds_toArray, List.set_cons_zero, List.set_cons_succ]
  refine wpQuiet_nil ?_
  intro w9 hb9
  have B9 := Lib.hid (B1.out.trans (hb9.mono B1.out.size))
  clear hb9
  go_wp2_with fail
  go_ret
  exact ⟨rfl, B9.out⟩
set_option maxHeartbeats 1000000 in
theorem rtext_pos (y m d : Int) (hy : ¬ y < 0) (p1 p2 p3 : ByteArray) (s1 : p1.size ≤ 8) (s2 : p2.size ≤ 8) (s3 : p3.size ≤ 8) (w : World) (HG : Hid (∀ w, Calls Tryd.prog 29 #[.agg #[.int .i64 y, .int .i64 m, .int .i64 d]] w fun e w' => e = .returned (.bool true) ∧ Below w.heap.size w w'))
    (T1 : Hid (∀ w, Calls Tryd.prog 33 #[.int .i64 y, .int .i64 4] w fun e w' => e = .returned (.string p1) ∧ Below w.heap.size w w')) (T2 : Hid (∀ w, Calls Tryd.prog 33 #[.int .i64 m, .int .i64 2] w fun e w' => e = .returned (.string p2) ∧ Below w.heap.size w w'))
    (T3 : Hid (∀ w, Calls Tryd.prog 33 #[.int .i64 d, .int .i64 2] w fun e w' => e = .returned (.string p3) ∧ Below w.heap.size w w')) :
    Calls Tryd.prog 24 #[.agg #[.int .i64 y, .int .i64 m, .int .i64 d]] w fun e w' => e = .returned (.string (((p1 ++ ⟨#[45]⟩) ++ p2 ++ ⟨#[45]⟩) ++ p3)) ∧ Below w.heap.size w w' := by
  have d1 : (⟨#[45]⟩ : ByteArray).size = 1 := rfl
  have q1 : ∀ w : World, (Op.stringOp .add p1 (⟨#[45]⟩ : ByteArray)).run Tryd.prog w = .ok (.string (p1 ++ (⟨#[45]⟩ : ByteArray))) w := fun w => run_string_add_sum w _ _ (by omega)
  obtain ⟨r1, f1⟩ : ∃ s : ByteArray, p1 ++ (⟨#[45]⟩ : ByteArray) = s := ⟨_, rfl⟩
  have z1 : r1.size ≤ 9 := by rw [← f1, ByteArray.size_append]; omega
  rw [f1] at q1
  have q2 : ∀ w : World, (Op.stringOp .add r1 p2).run Tryd.prog w = .ok (.string (r1 ++ p2)) w := fun w => run_string_add_sum w _ _ (by omega)
  obtain ⟨r2, f2⟩ : ∃ s : ByteArray, r1 ++ p2 = s := ⟨_, rfl⟩
  have z2 : r2.size ≤ 17 := by rw [← f2, ByteArray.size_append]; omega
  rw [f2] at q2
  have q3 : ∀ w : World, (Op.stringOp .add r2 (⟨#[45]⟩ : ByteArray)).run Tryd.prog w = .ok (.string (r2 ++ (⟨#[45]⟩ : ByteArray))) w := fun w => run_string_add_sum w _ _ (by omega)
  obtain ⟨r3, f3⟩ : ∃ s : ByteArray, r2 ++ (⟨#[45]⟩ : ByteArray) = s := ⟨_, rfl⟩
  have z3 : r3.size ≤ 18 := by rw [← f3, ByteArray.size_append]; omega
  rw [f3] at q3
  have q4 : ∀ w : World, (Op.stringOp .add r3 p3).run Tryd.prog w = .ok (.string (r3 ++ p3)) w := fun w => run_string_add_sum w _ _ (by omega)
  obtain ⟨r4, f4⟩ : ∃ s : ByteArray, r3 ++ p3 = s := ⟨_, rfl⟩
  have z4 : r4.size ≤ 26 := by rw [← f4, ByteArray.size_append]; omega
  rw [f4] at q4
  rw [f1, f2, f3, f4]
  have Q1 := Lib.hid q1
  have Q2 := Lib.hid q2
  have Q3 := Lib.hid q3
  have Q4 := Lib.hid q4
  clear q1 f1 q2 f2 q3 f3 q4 f4 d1 z1 z2 z3 z4 s1 s2 s3
  have I0 := Lib.hid (isB_new w #[.int .i64 y, .int .i64 m, .int .i64 d] 30)
  have BA := Lib.hid ((Below.refl w.heap.size w).alloc (Nat.le_refl _) (.cells #[.int .i64 y, .int .i64 m, .int .i64 d] 30))
  go_enter Tryd.func24, Tryd.ntmps24
  go_wp2_with fail
  refine (HG.out _).mono ?_
  rintro e w1 ⟨rfl, hb⟩
  have J0 := Lib.hid (I0.out.to hb (by simp))
  have B1 := Lib.hid (BA.out.trans (hb.mono BA.out.size))
  have z1 : w.heap.size < w1.heap.size := by have := hb.size; simp at this; omega
  clear hb I0 BA
  have hc0 : w1.cell? ⟨w.heap.size, 0, none⟩ = some (.int .i64 y) := J0.out.at 0
  go_wp2_with fail
  clear hc0
  refine region_quiet_lit (C := fun w' => Below w1.heap.size w1 w') (by kernel_rfl) (by kernel_rfl) (Below.refl _ _).drew ?_
  refine BigFrame.wpQuiet_want rfl (fun K hK => ?_)
  refine quiet_val (.pointer (some ⟨w.heap.size, 0, none⟩)) (fun w2 hw => by simp [go_sem]) (hK _ ?_)
  clear hK K
  simp only [Act.put, List.setIfInBounds_toArray, List.set_cons_zero, List.set_cons_succ]
  refine BigFrame.wpQuiet_want rfl (fun K hK => ?_)
  refine quiet_val (.int .i64 y) (fun w2 hw => by simp [go_sem, (J0.out.to hw z1).at]) (hK _ ?_)
  clear hK K
  simp only [Act.put, List.setIfInBounds_toArray, List.set_cons_zero, List.set_cons_succ]
  refine BigFrame.wpQuiet_want rfl (fun K hK => ?_)
  refine quiet_call 33 #[.int .i64 y, .int .i64 4] (.string p1) (fun w2 => by simp [go_sem]) (fun w2 hw => (T1.out w2).mono fun e w3 hh => ⟨hh.1, hw.trans (hh.2.mono hw.size)⟩) (hK _ ?_)
  clear hK K
  simp only [Act.put, List.setIfInBounds_toArray, List.set_cons_zero, List.set_cons_succ]
  refine BigFrame.wpQuiet_want rfl (fun K hK => ?_)
  refine quiet_val (.string r1) (fun w2 hw => by simp [go_sem, Q1.out]) (hK _ ?_)
  clear hK K
  simp only [Act.put, List.setIfInBounds_toArray, List.set_cons_zero, List.set_cons_succ]
  refine BigFrame.wpQuiet_want rfl (fun K hK => ?_)
  refine quiet_val (.pointer (some ⟨w.heap.size, 1, none⟩)) (fun w2 hw => by simp [go_sem]) (hK _ ?_)
  clear hK K
  simp only [Act.put, List.setIfInBounds_toArray, List.set_cons_zero, List.set_cons_succ]
  refine BigFrame.wpQuiet_want rfl (fun K hK => ?_)
  refine quiet_val (.int .i64 m) (fun w2 hw => by simp [go_sem, (J0.out.to hw z1).at]) (hK _ ?_)
  clear hK K
  simp only [Act.put, List.setIfInBounds_toArray, List.set_cons_zero, List.set_cons_succ]
  refine BigFrame.wpQuiet_want rfl (fun K hK => ?_)
  refine quiet_call 33 #[.int .i64 m, .int .i64 2] (.string p2) (fun w2 => by simp [go_sem]) (fun w2 hw => (T2.out w2).mono fun e w3 hh => ⟨hh.1, hw.trans (hh.2.mono hw.size)⟩) (hK _ ?_)
  clear hK K
  simp only [Act.put, List.setIfInBounds_toArray, List.set_cons_zero, List.set_cons_succ]
  refine BigFrame.wpQuiet_want rfl (fun K hK => ?_)
  refine quiet_val (.string r2) (fun w2 hw => by simp [go_sem, Q2.out]) (hK _ ?_)
  clear hK K
  simp only [Act.put, List.setIfInBounds_toArray, List.set_cons_zero, List.set_cons_succ]
  refine BigFrame.wpQuiet_want rfl (fun K hK => ?_)
  refine quiet_val (.string r3) (fun w2 hw => by simp [go_sem, Q3.out]) (hK _ ?_)
  clear hK K
  simp only [Act.put, List.setIfInBounds_toArray, List.set_cons_zero, List.set_cons_succ]
  refine BigFrame.wpQuiet_want rfl (fun K hK => ?_)
  refine quiet_val (.pointer (some ⟨w.heap.size, 2, none⟩)) (fun w2 hw => by simp [go_sem]) (hK _ ?_)
  clear hK K
  simp only [Act.put, List.setIfInBounds_toArray, List.set_cons_zero, List.set_cons_succ]
  refine BigFrame.wpQuiet_want rfl (fun K hK => ?_)
  refine quiet_val (.int .i64 d) (fun w2 hw => by simp [go_sem, (J0.out.to hw z1).at]) (hK _ ?_)
  clear hK K
  simp only [Act.put, List.setIfInBounds_toArray, List.set_cons_zero, List.set_cons_succ]
  refine BigFrame.wpQuiet_want rfl (fun K hK => ?_)
  refine quiet_call 33 #[.int .i64 d, .int .i64 2] (.string p3) (fun w2 => by simp [go_sem]) (fun w2 hw => (T3.out w2).mono fun e w3 hh => ⟨hh.1, hw.trans (hh.2.mono hw.size)⟩) (hK _ ?_)
  clear hK K
  simp only [Act.put, List.setIfInBounds_toArray, List.set_cons_zero, List.set_cons_succ]
  refine BigFrame.wpQuiet_want rfl (fun K hK => ?_)
  refine quiet_val (.string r4) (fun w2 hw => by simp [go_sem, Q4.out]) (hK _ ?_)
  clear hK K
  simp only [Act.put, List.setIfInBounds_toArray, List.set_cons_zero, List.set_cons_succ]
  refine BigFrame.wpQuiet_want rfl (fun K hK => ?_)
  refine quiet_val (.string r4) (fun w2 hw => rfl) (hK _ ?_)
  clear hK K
  simp only [Act.put, List.setIfInBounds_toArray, List.set_cons_zero, List.set_cons_succ]
  refine wpQuiet_nil ?_
  intro w9 hb9
  have B9 := Lib.hid (B1.out.trans (hb9.mono B1.out.size))
  clear hb9
  go_wp2_with fail
  go_ret
  exact ⟨rfl, B9.out⟩
set_option maxHeartbeats 1000000 in
theorem rtext_no (y m d : Int) (w : World) (HG : Hid (∀ w, Calls Tryd.prog 29 #[.agg #[.int .i64 y, .int .i64 m, .int .i64 d]] w fun e w' => e = .returned (.bool false) ∧ Below w.heap.size w w')) :
    Calls Tryd.prog 24 #[.agg #[.int .i64 y, .int .i64 m, .int .i64 d]] w fun e w' => e = .returned (.string ⟨#[]⟩) ∧ Below w.heap.size w w' := by
  have BA := Lib.hid ((Below.refl w.heap.size w).alloc (Nat.le_refl _) (.cells #[.int .i64 y, .int .i64 m, .int .i64 d] 30))
  go_enter Tryd.func24, Tryd.ntmps24
  go_wp2_with fail
  refine (HG.out _).mono ?_
  rintro e w1 ⟨rfl, hb⟩
  have B1 := Lib.hid (BA.out.trans (hb.mono BA.out.size))
  clear hb BA
  go_wp2_with fail
  go_ret
  exact ⟨rfl, B1.out⟩
theorem hourglassref4_Text.calls (k : Nat) (a0_0 : Int) (a0_1 : Int) (a0_2 : Int) (r : ByteArray) (w : World) (h : hourglassref4_Text.f k a0_0 a0_1 a0_2 = some r) :
    Calls Tryd.prog 24 #[.agg #[.int .i64 a0_0, .int .i64 a0_1, .int .i64 a0_2]] w fun e w' => e = .returned (.string r) ∧ Below w.heap.size w w' := by
  unfold hourglassref4_Text.f at h
  obtain ⟨g, hg, h⟩ := Option.bind_eq_some_iff.mp h
  have HG := Lib.hid (fun w => hourglassref4_Good.calls k a0_0 a0_1 a0_2 g w hg)
  cases g with
  | false =>
    obtain rfl := Option.some.inj h
    exact rtext_no _ _ _ w HG
  | true =>
    rw [if_pos rfl] at h
    by_cases h9 : a0_0 < -9999
    · rw [if_pos h9] at h; cases h
    rw [if_neg h9] at h
    by_cases hy : a0_0 < 0
    · rw [if_pos hy] at h
      obtain ⟨p1, e1, h⟩ := Option.bind_eq_some_iff.mp h
      obtain ⟨p2, e2, h⟩ := Option.bind_eq_some_iff.mp h
      obtain ⟨p3, e3, h⟩ := Option.bind_eq_some_iff.mp h
      by_cases h7 : p1.size ≤ 7
      · rw [if_pos h7] at h
        unfold hourglassref4_Text.t at h
        by_cases hs : (⟨#[45]⟩ ++ p1 : ByteArray).size ≤ 8 ∧ p2.size ≤ 8 ∧ p3.size ≤ 8
        · rw [if_pos hs] at h
          obtain rfl := Option.some.inj h
          exact rtext_neg _ _ _ hy (by omega) p1 p2 p3 (by omega) hs.2.1 hs.2.2 w HG (Lib.hid fun w => hourglassref4_pad.calls k _ _ p1 w e1) (Lib.hid fun w => hourglassref4_pad.calls k _ _ p2 w e2) (Lib.hid fun w => hourglassref4_pad.calls k _ _ p3 w e3)
        · rw [if_neg hs] at h; cases h
      · rw [if_neg h7] at h; cases h
    · rw [if_neg hy] at h
      obtain ⟨p1, e1, h⟩ := Option.bind_eq_some_iff.mp h
      obtain ⟨p2, e2, h⟩ := Option.bind_eq_some_iff.mp h
      obtain ⟨p3, e3, h⟩ := Option.bind_eq_some_iff.mp h
      unfold hourglassref4_Text.t at h
      by_cases hs : p1.size ≤ 8 ∧ p2.size ≤ 8 ∧ p3.size ≤ 8
      · rw [if_pos hs] at h
        obtain rfl := Option.some.inj h
        exact rtext_pos _ _ _ hy p1 p2 p3 hs.1 hs.2.1 hs.2.2 w HG (Lib.hid fun w => hourglassref4_pad.calls k _ _ p1 w e1) (Lib.hid fun w => hourglassref4_pad.calls k _ _ p2 w e2) (Lib.hid fun w => hourglassref4_pad.calls k _ _ p3 w e3)
      · rw [if_neg hs] at h; cases h

-- NOT PRINTED: function 3 (hourglasslaw4_CivilSays)

/-! ### hourglasslaw4_CivilNext: function 4 -/
mutual
def hourglasslaw4_CivilNext.j0 : Nat → Int → Bool → Int → Int → Int → Option (Bool)
  | 0, _, _, _, _, _ => none
  | k + 1, x0, x20, x228000, x228001, x228002 => if x20 = true then (some true) else ((civil_Of.f k (wrap64 (x0 + 1))).bind fun bt228 => ((civil_Length.f k x228000 x228001).bind fun t234 => (if (wrap64 (x228002 + 1)) > t234 then (hourglasslaw4_CivilNext.j1 k x0 bt228.2.2.2 bt228.1 bt228.2.1 bt228.2.2.1 x228000 (wrap64 (x228001 + 1)) 1) else (hourglasslaw4_CivilNext.j1 k x0 bt228.2.2.2 bt228.1 bt228.2.1 bt228.2.2.1 x228000 x228001 (wrap64 (x228002 + 1))))))
def hourglasslaw4_CivilNext.j1 : Nat → Int → Int → Int → Int → Int → Int → Int → Int → Option (Bool)
  | 0, _, _, _, _, _, _, _, _ => none
  | k + 1, x0, x6, x233000, x233001, x233002, x234000, x234001, x234002 => if x234001 > 12 then (hourglasslaw4_CivilNext.j2 k x0 x6 x233000 x233001 x233002 (wrap64 (x234000 + 1)) 1 x234002) else (hourglasslaw4_CivilNext.j2 k x0 x6 x233000 x233001 x233002 x234000 x234001 x234002)
def hourglasslaw4_CivilNext.j2 : Nat → Int → Int → Int → Int → Int → Int → Int → Int → Option (Bool)
  | 0, _, _, _, _, _, _, _, _ => none
  | k + 1, x0, x6, x233000, x233001, x233002, x234000, x234001, x234002 => if x6 = 0 then (if (x233000 == x234000 && (x233001 == x234001 && (x233002 == x234002))) = true then ((civil_Weekday.f (wrap64 (x0 + 1))).bind fun t235 => ((civil_Weekday.f x0).bind fun t236 => (some (t235 == (Int.tmod (wrap64 (t236 + 1)) 7))))) else (some false)) else (some false)
end
def hourglasslaw4_CivilNext.f (k : Nat) (a0 : Int) : Option (Bool) := (hourglasslaw4_awake.f k).bind fun t222 => (if t222 = true then ((civil_Of.f k a0).bind fun bt223 => (if bt223.2.2.2 = 0 then (hourglasslaw4_CivilNext.j0 k a0 (decide (a0 > 2932895)) bt223.1 bt223.2.1 bt223.2.2.1) else (hourglasslaw4_CivilNext.j0 k a0 true bt223.1 bt223.2.1 bt223.2.2.1))) else (some false))
theorem hourglasslaw4_CivilNext.mono_l : ∀ k, (∀ y0 y1 y2 y3 y4, LeO (hourglasslaw4_CivilNext.j0 k y0 y1 y2 y3 y4) (hourglasslaw4_CivilNext.j0 (k + 1) y0 y1 y2 y3 y4)) ∧ (∀ y0 y1 y2 y3 y4 y5 y6 y7, LeO (hourglasslaw4_CivilNext.j1 k y0 y1 y2 y3 y4 y5 y6 y7) (hourglasslaw4_CivilNext.j1 (k + 1) y0 y1 y2 y3 y4 y5 y6 y7)) ∧ (∀ y0 y1 y2 y3 y4 y5 y6 y7, LeO (hourglasslaw4_CivilNext.j2 k y0 y1 y2 y3 y4 y5 y6 y7) (hourglasslaw4_CivilNext.j2 (k + 1) y0 y1 y2 y3 y4 y5 y6 y7))
  | 0 => ⟨fun _ _ _ _ _ r h => by simp [hourglasslaw4_CivilNext.j0] at h, fun _ _ _ _ _ _ _ _ r h => by simp [hourglasslaw4_CivilNext.j1] at h, fun _ _ _ _ _ _ _ _ r h => by simp [hourglasslaw4_CivilNext.j2] at h⟩
  | k + 1 => by
    obtain ⟨ih0, ih1, ih2⟩ := hourglasslaw4_CivilNext.mono_l k
    refine ⟨?_, ?_, ?_⟩
    · intro y0 y1 y2 y3 y4
      unfold hourglasslaw4_CivilNext.j0
      repeat' first
      | (with_reducible exact ih0 _ _ _ _ _)
      | (with_reducible exact ih1 _ _ _ _ _ _ _ _)
      | (with_reducible exact ih2 _ _ _ _ _ _ _ _)
      | (with_reducible exact civil_Length.mono _ _ _)
      | (with_reducible exact civil_Of.mono _ _)
      | (with_reducible exact hourglasslaw4_awake.mono _)
      | (with_reducible exact LeO.refl _)
      | (with_reducible exact LeO.none _)
      | (with_reducible refine LeO.ite ?_ ?_)
      | (with_reducible refine LeO.bind ?_ (fun _ => ?_))
      | exact ih0 _ _ _ _ _
      | exact ih1 _ _ _ _ _ _ _ _
      | exact ih2 _ _ _ _ _ _ _ _
      | exact civil_Length.mono _ _ _
      | exact civil_Of.mono _ _
      | exact hourglasslaw4_awake.mono _
      | exact LeO.none _
      | refine LeO.ite ?_ ?_
      | refine LeO.bind ?_ (fun _ => ?_)
    · intro y0 y1 y2 y3 y4 y5 y6 y7
      unfold hourglasslaw4_CivilNext.j1
      repeat' first
      | (with_reducible exact ih0 _ _ _ _ _)
      | (with_reducible exact ih1 _ _ _ _ _ _ _ _)
      | (with_reducible exact ih2 _ _ _ _ _ _ _ _)
      | (with_reducible exact civil_Length.mono _ _ _)
      | (with_reducible exact civil_Of.mono _ _)
      | (with_reducible exact hourglasslaw4_awake.mono _)
      | (with_reducible exact LeO.refl _)
      | (with_reducible exact LeO.none _)
      | (with_reducible refine LeO.ite ?_ ?_)
      | (with_reducible refine LeO.bind ?_ (fun _ => ?_))
      | exact ih0 _ _ _ _ _
      | exact ih1 _ _ _ _ _ _ _ _
      | exact ih2 _ _ _ _ _ _ _ _
      | exact civil_Length.mono _ _ _
      | exact civil_Of.mono _ _
      | exact hourglasslaw4_awake.mono _
      | exact LeO.none _
      | refine LeO.ite ?_ ?_
      | refine LeO.bind ?_ (fun _ => ?_)
    · intro y0 y1 y2 y3 y4 y5 y6 y7
      unfold hourglasslaw4_CivilNext.j2
      repeat' first
      | (with_reducible exact ih0 _ _ _ _ _)
      | (with_reducible exact ih1 _ _ _ _ _ _ _ _)
      | (with_reducible exact ih2 _ _ _ _ _ _ _ _)
      | (with_reducible exact civil_Length.mono _ _ _)
      | (with_reducible exact civil_Of.mono _ _)
      | (with_reducible exact hourglasslaw4_awake.mono _)
      | (with_reducible exact LeO.refl _)
      | (with_reducible exact LeO.none _)
      | (with_reducible refine LeO.ite ?_ ?_)
      | (with_reducible refine LeO.bind ?_ (fun _ => ?_))
      | exact ih0 _ _ _ _ _
      | exact ih1 _ _ _ _ _ _ _ _
      | exact ih2 _ _ _ _ _ _ _ _
      | exact civil_Length.mono _ _ _
      | exact civil_Of.mono _ _
      | exact hourglasslaw4_awake.mono _
      | exact LeO.none _
      | refine LeO.ite ?_ ?_
      | refine LeO.bind ?_ (fun _ => ?_)
theorem hourglasslaw4_CivilNext.mono : ∀ a0 k, LeO (hourglasslaw4_CivilNext.f k a0) (hourglasslaw4_CivilNext.f (k + 1) a0) := by
  intro a0 k
  obtain ⟨ih0, ih1, ih2⟩ := hourglasslaw4_CivilNext.mono_l k
  unfold hourglasslaw4_CivilNext.f
  repeat' first
      | (with_reducible exact ih0 _ _ _ _ _)
      | (with_reducible exact ih1 _ _ _ _ _ _ _ _)
      | (with_reducible exact ih2 _ _ _ _ _ _ _ _)
      | (with_reducible exact civil_Length.mono _ _ _)
      | (with_reducible exact civil_Of.mono _ _)
      | (with_reducible exact hourglasslaw4_awake.mono _)
      | (with_reducible exact LeO.refl _)
      | (with_reducible exact LeO.none _)
      | (with_reducible refine LeO.ite ?_ ?_)
      | (with_reducible refine LeO.bind ?_ (fun _ => ?_))
      | exact ih0 _ _ _ _ _
      | exact ih1 _ _ _ _ _ _ _ _
      | exact ih2 _ _ _ _ _ _ _ _
      | exact civil_Length.mono _ _ _
      | exact civil_Of.mono _ _
      | exact hourglasslaw4_awake.mono _
      | exact LeO.none _
      | refine LeO.ite ?_ ?_
      | refine LeO.bind ?_ (fun _ => ?_)
set_option maxHeartbeats 8000000 in
set_option maxRecDepth 100000 in
theorem hourglasslaw4_CivilNext.calls (k : Nat) (a0 : Int) (r : Bool) (w : World) (h : hourglasslaw4_CivilNext.f k a0 = some r) (hlaw_ : Aside0 (r = true)) :
    Calls Tryd.prog 4 #[.int .i64 a0] w fun e w' => e = .returned (.bool r) ∧ Below w.heap.size w w' := by
  have hu23 := Tryd.underlying23
  have HB := Aside0.mk (Below.refl w.heap.size w)
  have H : ((hourglasslaw4_awake.f k).bind fun t222 => (if t222 = true then ((civil_Of.f k a0).bind fun bt223 => (if bt223.2.2.2 = 0 then (hourglasslaw4_CivilNext.j0 k a0 (decide (a0 > 2932895)) bt223.1 bt223.2.1 bt223.2.2.1) else (hourglasslaw4_CivilNext.j0 k a0 true bt223.1 bt223.2.1 bt223.2.2.1))) else (some false))) = some r := h
  clear h
  replace H := Option.bind_eq_some_iff.mp H
  obtain ⟨t222, A20, H⟩ := H
  replace H : (if t222 = true then ((civil_Of.f k a0).bind fun bt223 => (if bt223.2.2.2 = 0 then (hourglasslaw4_CivilNext.j0 k a0 (decide (a0 > 2932895)) bt223.1 bt223.2.1 bt223.2.2.1) else (hourglasslaw4_CivilNext.j0 k a0 true bt223.1 bt223.2.1 bt223.2.2.1))) else (some false)) = some r := H
  have A2 := Aside0.mk A20
  clear A20
  by_cases c3 : t222 = true
  · subst c3
    have H1 : ((civil_Of.f k a0).bind fun bt223 => (if bt223.2.2.2 = 0 then (hourglasslaw4_CivilNext.j0 k a0 (decide (a0 > 2932895)) bt223.1 bt223.2.1 bt223.2.2.1) else (hourglasslaw4_CivilNext.j0 k a0 true bt223.1 bt223.2.1 bt223.2.2.1))) = some r := by rw [if_pos rfl] at H; exact H
    clear H
    have H := H1
    clear H1
    replace H := Option.bind_eq_some_iff.mp H
    obtain ⟨⟨t223, t224, t225, t226⟩, A40, H⟩ := H
    replace H : (if t226 = 0 then (hourglasslaw4_CivilNext.j0 k a0 (decide (a0 > 2932895)) t223 t224 t225) else (hourglasslaw4_CivilNext.j0 k a0 true t223 t224 t225)) = some r := H
    have A4 := Aside0.mk A40
    clear A40
    have HC5 := Aside0.mk H
    clear H
    go_enter Tryd.func4, Tryd.ntmps4
    go_upto_region 4 with (first | (go_at_call 11; (with_reducible refine (hourglasslaw4_awake.calls k  true _ A2.out).mono ?_); rintro e w6 ⟨rfl, hb⟩; have n0_ := Aside0.mk (below_step (by repeat (first | (with_reducible first | exact HB.out | apply below_alloc | apply pw_below_drewN | apply below_drew1) | exact HB.out)) hb); clear HB; have HB := n0_; clear n0_; (try clear hb); (try clear hb2); (try clear hk); (try clear hi)) | (go_at_call 15; (with_reducible refine (civil_Of.calls k a0 t223 t224 t225 t226 _ A4.out).mono ?_); rintro e w7 ⟨rfl, hb⟩; have n0_ := Aside0.mk (below_step (by repeat (first | (with_reducible first | exact HB.out | apply below_alloc | apply pw_below_drewN | apply below_drew1) | exact HB.out)) hb); clear HB; have HB := n0_; clear n0_; (try clear hb); (try clear hb2); (try clear hk); (try clear hi)) | ((with_reducible refine gate_dst (N := 3) rfl ?_); refine box_event ?hg (N := 3) ?hd (cs := #[.int .i64 0, .int .i64 0, .int .i64 0]) (t := 23) ?hr ?_; (case hd => rfl); (case hg => rfl); (case hr => first | (go_simp; done) | (go_simp; rfl)); intro gb227 hg w8 hbox hb; have n0_ := Aside0.mk (below_step (by repeat (first | (with_reducible first | exact HB.out | apply below_alloc | apply pw_below_drewN | apply below_drew1) | exact HB.out)) hb); have n1_ := Aside0.mk (hbox); have n2_ := Aside0.mk ((by rw [hg]; exact (below_size (by repeat (first | (with_reducible first | exact HB.out | apply below_alloc | apply pw_below_drewN | apply below_drew1) | exact HB.out))) : w.heap.size ≤ gb227)); have n3_ := Aside0.mk ((by rw [hg]; exact (below_size (by repeat (first | (with_reducible first | exact HB.out | apply below_alloc | apply pw_below_drewN | apply below_drew1) | exact HB.out))) : w.heap.size ≤ gb227)); clear HB; have HB := n0_; have BK227 := n1_; have GW227 := n2_; have GE227 := n3_; clear n0_ n1_ n2_ n3_; clear hb hbox hg; have hcz9_0 : w8.cell? ⟨gb227, 0, none⟩ = some (.int .i64 0) := (blk_cell BK227.out 0).trans rfl; have hcz9_1 : w8.cell? ⟨gb227, 1, none⟩ = some (.int .i64 0) := (blk_cell BK227.out 1).trans rfl; have hcz9_2 : w8.cell? ⟨gb227, 2, none⟩ = some (.int .i64 0) := (blk_cell BK227.out 2).trans rfl; have hfz9_0 := blk_frozen BK227.out 0; have hfz9_1 := blk_frozen BK227.out 1; have hfz9_2 := blk_frozen BK227.out 2))
    repeat (go_quiet (first | (go_at_call 11; (with_reducible refine (hourglasslaw4_awake.calls k  true _ A2.out).mono ?_); rintro e w6 ⟨rfl, hb⟩; have n0_ := Aside0.mk (below_step (by repeat (first | (with_reducible first | exact HB.out | apply below_alloc | apply pw_below_drewN | apply below_drew1) | exact HB.out)) hb); clear HB; have HB := n0_; clear n0_; (try clear hb); (try clear hb2); (try clear hk); (try clear hi)) | (go_at_call 15; (with_reducible refine (civil_Of.calls k a0 t223 t224 t225 t226 _ A4.out).mono ?_); rintro e w7 ⟨rfl, hb⟩; have n0_ := Aside0.mk (below_step (by repeat (first | (with_reducible first | exact HB.out | apply below_alloc | apply pw_below_drewN | apply below_drew1) | exact HB.out)) hb); clear HB; have HB := n0_; clear n0_; (try clear hb); (try clear hb2); (try clear hk); (try clear hi)) | ((with_reducible refine gate_dst (N := 3) rfl ?_); refine box_event ?hg (N := 3) ?hd (cs := #[.int .i64 0, .int .i64 0, .int .i64 0]) (t := 23) ?hr ?_; (case hd => rfl); (case hg => rfl); (case hr => first | (go_simp; done) | (go_simp; rfl)); intro gb227 hg w8 hbox hb; have n0_ := Aside0.mk (below_step (by repeat (first | (with_reducible first | exact HB.out | apply below_alloc | apply pw_below_drewN | apply below_drew1) | exact HB.out)) hb); have n1_ := Aside0.mk (hbox); have n2_ := Aside0.mk ((by rw [hg]; exact (below_size (by repeat (first | (with_reducible first | exact HB.out | apply below_alloc | apply pw_below_drewN | apply below_drew1) | exact HB.out))) : w.heap.size ≤ gb227)); have n3_ := Aside0.mk ((by rw [hg]; exact (below_size (by repeat (first | (with_reducible first | exact HB.out | apply below_alloc | apply pw_below_drewN | apply below_drew1) | exact HB.out))) : w.heap.size ≤ gb227)); clear HB; have HB := n0_; have BK227 := n1_; have GW227 := n2_; have GE227 := n3_; clear n0_ n1_ n2_ n3_; clear hb hbox hg; have hcz9_0 : w8.cell? ⟨gb227, 0, none⟩ = some (.int .i64 0) := (blk_cell BK227.out 0).trans rfl; have hcz9_1 : w8.cell? ⟨gb227, 1, none⟩ = some (.int .i64 0) := (blk_cell BK227.out 1).trans rfl; have hcz9_2 : w8.cell? ⟨gb227, 2, none⟩ = some (.int .i64 0) := (blk_cell BK227.out 2).trans rfl; have hfz9_0 := blk_frozen BK227.out 0; have hfz9_1 := blk_frozen BK227.out 1; have hfz9_2 := blk_frozen BK227.out 2)); go_upto_region 4 with (first | (go_at_call 11; (with_reducible refine (hourglasslaw4_awake.calls k  true _ A2.out).mono ?_); rintro e w6 ⟨rfl, hb⟩; have n0_ := Aside0.mk (below_step (by repeat (first | (with_reducible first | exact HB.out | apply below_alloc | apply pw_below_drewN | apply below_drew1) | exact HB.out)) hb); clear HB; have HB := n0_; clear n0_; (try clear hb); (try clear hb2); (try clear hk); (try clear hi)) | (go_at_call 15; (with_reducible refine (civil_Of.calls k a0 t223 t224 t225 t226 _ A4.out).mono ?_); rintro e w7 ⟨rfl, hb⟩; have n0_ := Aside0.mk (below_step (by repeat (first | (with_reducible first | exact HB.out | apply below_alloc | apply pw_below_drewN | apply below_drew1) | exact HB.out)) hb); clear HB; have HB := n0_; clear n0_; (try clear hb); (try clear hb2); (try clear hk); (try clear hi)) | ((with_reducible refine gate_dst (N := 3) rfl ?_); refine box_event ?hg (N := 3) ?hd (cs := #[.int .i64 0, .int .i64 0, .int .i64 0]) (t := 23) ?hr ?_; (case hd => rfl); (case hg => rfl); (case hr => first | (go_simp; done) | (go_simp; rfl)); intro gb227 hg w8 hbox hb; have n0_ := Aside0.mk (below_step (by repeat (first | (with_reducible first | exact HB.out | apply below_alloc | apply pw_below_drewN | apply below_drew1) | exact HB.out)) hb); have n1_ := Aside0.mk (hbox); have n2_ := Aside0.mk ((by rw [hg]; exact (below_size (by repeat (first | (with_reducible first | exact HB.out | apply below_alloc | apply pw_below_drewN | apply below_drew1) | exact HB.out))) : w.heap.size ≤ gb227)); have n3_ := Aside0.mk ((by rw [hg]; exact (below_size (by repeat (first | (with_reducible first | exact HB.out | apply below_alloc | apply pw_below_drewN | apply below_drew1) | exact HB.out))) : w.heap.size ≤ gb227)); clear HB; have HB := n0_; have BK227 := n1_; have GW227 := n2_; have GE227 := n3_; clear n0_ n1_ n2_ n3_; clear hb hbox hg; have hcz9_0 : w8.cell? ⟨gb227, 0, none⟩ = some (.int .i64 0) := (blk_cell BK227.out 0).trans rfl; have hcz9_1 : w8.cell? ⟨gb227, 1, none⟩ = some (.int .i64 0) := (blk_cell BK227.out 1).trans rfl; have hcz9_2 : w8.cell? ⟨gb227, 2, none⟩ = some (.int .i64 0) := (blk_cell BK227.out 2).trans rfl; have hfz9_0 := blk_frozen BK227.out 0; have hfz9_1 := blk_frozen BK227.out 1; have hfz9_2 := blk_frozen BK227.out 2)))
    (try simp only [Act.put, List.setIfInBounds_toArray, List.set_cons_zero, List.set_cons_succ])
    go_cut [20] (fun v20 wc => ∃ (kq : Nat) (x20_4 : Bool), v20 = .bool x20_4 ∧ Aside0 (hourglasslaw4_CivilNext.j0 kq a0 x20_4 t223 t224 t225 = some r) ∧ Aside0 (kq ≤ k) ∧ Aside0 (wc.heap[gb227]? = some (.cells #[.int .i64 t223, .int .i64 t224, .int .i64 t225] 23 (0, 0))) ∧ Aside0 (Below w.heap.size w wc))
    case first =>
      have H := HC5.out
      clear HC5
      by_cases c10 : t226 = 0
      · rw [if_pos c10] at H
        have c10b0 : (t226 == 0) = true := beq_iff_eq.mpr c10
        have c10b1 : (t226 != 0) = false := bne_eq_false_iff_eq.mpr c10
        clear c10
        (first | rw [c10b0] | (simp only [i64_w, i32_w]; rw [c10b0]) | skip)
        have H' := Aside0.mk H
        clear H
        go_wp2
        repeat (go_quiet (fail); try go_wp2)
        go_meet
        case rel => exact ⟨_, (decide (a0 > 2932895)), (by first | rfl | (simp; done) | (simp [*]; done)), H', ⟨by first | omega | exact Nat.le_refl _⟩, ⟨by (with_reducible repeat (first | refine blk_drewN ?_ _ | refine blk_drew ?_ | refine blk_alloc ?_ _)); refine blk_put (cs := #[.int .i64 t223, .int .i64 t224, .int .i64 0]) ?_ 2 _ rfl; (with_reducible repeat (first | refine blk_drewN ?_ _ | refine blk_drew ?_ | refine blk_alloc ?_ _)); refine blk_put (cs := #[.int .i64 t223, .int .i64 0, .int .i64 0]) ?_ 1 _ rfl; (with_reducible repeat (first | refine blk_drewN ?_ _ | refine blk_drew ?_ | refine blk_alloc ?_ _)); refine blk_put (cs := #[.int .i64 0, .int .i64 0, .int .i64 0]) ?_ 0 _ rfl; (with_reducible repeat (first | refine blk_drewN ?_ _ | refine blk_drew ?_ | refine blk_alloc ?_ _)); exact BK227.out⟩, ⟨by repeat (first | (with_reducible first | exact HB.out | apply below_alloc | apply pw_below_drewN | apply below_drew1 | refine below_set ?_ GE227.out) | exact HB.out)⟩⟩
      · rw [if_neg c10] at H
        have c10b0 : (t226 == 0) = false := beq_eq_false_iff_ne.mpr c10
        have c10b1 : (t226 != 0) = true := bne_iff_ne.mpr c10
        (first | rw [c10b0] | (simp only [i64_w, i32_w]; rw [c10b0]) | skip)
        have H' := Aside0.mk H
        clear H
        go_wp2
        repeat (go_quiet (fail); try go_wp2)
        go_meet
        case rel => exact ⟨_, (true), (by first | rfl | (simp; done) | (simp [*]; done)), H', ⟨by first | omega | exact Nat.le_refl _⟩, ⟨by (with_reducible repeat (first | refine blk_drewN ?_ _ | refine blk_drew ?_ | refine blk_alloc ?_ _)); refine blk_put (cs := #[.int .i64 t223, .int .i64 t224, .int .i64 0]) ?_ 2 _ rfl; (with_reducible repeat (first | refine blk_drewN ?_ _ | refine blk_drew ?_ | refine blk_alloc ?_ _)); refine blk_put (cs := #[.int .i64 t223, .int .i64 0, .int .i64 0]) ?_ 1 _ rfl; (with_reducible repeat (first | refine blk_drewN ?_ _ | refine blk_drew ?_ | refine blk_alloc ?_ _)); refine blk_put (cs := #[.int .i64 0, .int .i64 0, .int .i64 0]) ?_ 0 _ rfl; (with_reducible repeat (first | refine blk_drewN ?_ _ | refine blk_drew ?_ | refine blk_alloc ?_ _)); exact BK227.out⟩, ⟨by repeat (first | (with_reducible first | exact HB.out | apply below_alloc | apply pw_below_drewN | apply below_drew1 | refine below_set ?_ GE227.out) | exact HB.out)⟩⟩
    case rest =>
      clear HC5
      try clear c1
      try clear p2
      try clear c3
      try clear c4
      try clear c10
      try clear c10b0
      try clear c10b1
      try clear hcz9_0
      try clear hcz9_1
      try clear hcz9_2
      try clear hfz9_0
      try clear hfz9_1
      try clear hfz9_2
      obtain ⟨kq, x20_4, rfl, HA, HJ4, BK227, HB⟩ := hcut
      cases kq with
      | zero => exact absurd HA.out (by simp [hourglasslaw4_CivilNext.j0])
      | succ kj4 =>
        have H := HA.out
        clear HA
        simp only [hourglasslaw4_CivilNext.j0] at H
        by_cases c11 : x20_4 = true
        · subst c11
          have H1 : (some true) = some r := by rw [if_pos rfl] at H; exact H
          clear H
          have H := H1
          clear H1
          obtain rfl := Option.some.inj H
          go_wp2
          repeat (go_quiet (fail); try go_wp2)
          go_ret
          exact ⟨by first | rfl | (simp [errW_none, errW_some] <;> rfl) | (simp [*, errW_none, errW_some] <;> rfl), by repeat (first | (with_reducible first | exact HB.out | apply below_alloc | apply pw_below_drewN | apply below_drew1 | refine below_set ?_ GE227.out) | exact HB.out)⟩
        · replace c11 := Bool.eq_false_iff.mpr c11
          subst c11
          have H1 : ((civil_Of.f kj4 (wrap64 (a0 + 1))).bind fun bt228 => ((civil_Length.f kj4 t223 t224).bind fun t234 => (if (wrap64 (t225 + 1)) > t234 then (hourglasslaw4_CivilNext.j1 kj4 a0 bt228.2.2.2 bt228.1 bt228.2.1 bt228.2.2.1 t223 (wrap64 (t224 + 1)) 1) else (hourglasslaw4_CivilNext.j1 kj4 a0 bt228.2.2.2 bt228.1 bt228.2.1 bt228.2.2.1 t223 t224 (wrap64 (t225 + 1)))))) = some r := by rw [if_neg (show ¬ (false = true) by decide)] at H; exact H
          clear H
          have H := H1
          clear H1
          replace H := Option.bind_eq_some_iff.mp H
          obtain ⟨⟨t228, t229, t230, t231⟩, A120, H⟩ := H
          replace H : ((civil_Length.f kj4 t223 t224).bind fun t234 => (if (wrap64 (t225 + 1)) > t234 then (hourglasslaw4_CivilNext.j1 kj4 a0 t231 t228 t229 t230 t223 (wrap64 (t224 + 1)) 1) else (hourglasslaw4_CivilNext.j1 kj4 a0 t231 t228 t229 t230 t223 t224 (wrap64 (t225 + 1))))) = some r := H
          have A12 := Aside0.mk A120
          clear A120
          replace H := Option.bind_eq_some_iff.mp H
          obtain ⟨t234, A130, H⟩ := H
          replace H : (if (wrap64 (t225 + 1)) > t234 then (hourglasslaw4_CivilNext.j1 kj4 a0 t231 t228 t229 t230 t223 (wrap64 (t224 + 1)) 1) else (hourglasslaw4_CivilNext.j1 kj4 a0 t231 t228 t229 t230 t223 t224 (wrap64 (t225 + 1)))) = some r := H
          have A13 := Aside0.mk A130
          clear A130
          have HC14 := Aside0.mk H
          clear H
          go_upto_if 42 with (first | (go_at_call 15; (with_reducible refine (civil_Of.calls kj4 (wrap64 (a0 + 1)) t228 t229 t230 t231 _ A12.out).mono ?_); rintro e w15 ⟨rfl, hb⟩; have n0_ := Aside0.mk (blk_below (g := gb227) (o := .cells #[.int .i64 t223, .int .i64 t224, .int .i64 t225] 23 (0, 0)) (by (with_reducible repeat (first | refine blk_drewN ?_ _ | refine blk_drew ?_ | refine blk_alloc ?_ _)); exact BK227.out) hb); have n1_ := Aside0.mk (below_step (by repeat (first | (with_reducible first | exact HB.out | apply below_alloc | apply pw_below_drewN | apply below_drew1 | refine below_set ?_ GE227.out) | exact HB.out)) hb); clear BK227; clear HB; have BK227 := n0_; have HB := n1_; clear n0_ n1_; (try clear hb); (try clear hb2); (try clear hk); (try clear hi)) | ((with_reducible refine gate_dst (N := 5) rfl ?_); refine box_event ?hg (N := 5) ?hd (cs := #[.int .i64 0, .int .i64 0, .int .i64 0]) (t := 23) ?hr ?_; (case hd => rfl); (case hg => rfl); (case hr => first | (go_simp; done) | (go_simp; rfl)); intro gb232 hg w16 hbox hb; have n0_ := Aside0.mk (blk_below (g := gb227) (o := .cells #[.int .i64 t223, .int .i64 t224, .int .i64 t225] 23 (0, 0)) (by (with_reducible repeat (first | refine blk_drewN ?_ _ | refine blk_drew ?_ | refine blk_alloc ?_ _)); exact BK227.out) hb); have n1_ := Aside0.mk (below_step (by repeat (first | (with_reducible first | exact HB.out | apply below_alloc | apply pw_below_drewN | apply below_drew1 | refine below_set ?_ GE227.out) | exact HB.out)) hb); have n2_ := Aside0.mk (hbox); have n3_ := Aside0.mk ((by rw [hg]; exact (below_size (by repeat (first | (with_reducible first | exact HB.out | apply below_alloc | apply pw_below_drewN | apply below_drew1 | refine below_set ?_ GE227.out) | exact HB.out))) : w.heap.size ≤ gb232)); have n4_ := Aside0.mk ((by rw [hg]; exact (below_size (by repeat (first | (with_reducible first | exact HB.out | apply below_alloc | apply pw_below_drewN | apply below_drew1 | refine below_set ?_ GE227.out) | exact HB.out))) : w.heap.size ≤ gb232)); have n5_ := Aside0.mk ((by rw [hg]; exact Nat.ne_of_lt (blk_lt (g := gb227) (o := .cells #[.int .i64 t223, .int .i64 t224, .int .i64 t225] 23 (0, 0)) (by (with_reducible repeat (first | refine blk_drewN ?_ _ | refine blk_drew ?_ | refine blk_alloc ?_ _)); exact BK227.out)) : gb227 ≠ gb232)); have n6_ := Aside0.mk ((by rw [hg]; exact Nat.ne_of_gt (blk_lt (g := gb227) (o := .cells #[.int .i64 t223, .int .i64 t224, .int .i64 t225] 23 (0, 0)) (by (with_reducible repeat (first | refine blk_drewN ?_ _ | refine blk_drew ?_ | refine blk_alloc ?_ _)); exact BK227.out)) : gb232 ≠ gb227)); clear BK227; clear HB; have BK227 := n0_; have HB := n1_; have BK232 := n2_; have GW232 := n3_; have GE232 := n4_; have NB227_232 := n5_; have NB232_227 := n6_; clear n0_ n1_ n2_ n3_ n4_ n5_ n6_; clear hb hbox hg; have hnb17 := NB232_227.out; have hnc17 := NB227_232.out; have hcz18_0 : w16.cell? ⟨gb232, 0, none⟩ = some (.int .i64 0) := (blk_cell BK232.out 0).trans rfl; have hcz18_1 : w16.cell? ⟨gb232, 1, none⟩ = some (.int .i64 0) := (blk_cell BK232.out 1).trans rfl; have hcz18_2 : w16.cell? ⟨gb232, 2, none⟩ = some (.int .i64 0) := (blk_cell BK232.out 2).trans rfl; have hfz18_0 := blk_frozen BK232.out 0; have hfz18_1 := blk_frozen BK232.out 1; have hfz18_2 := blk_frozen BK232.out 2; have hcz19_0 : w16.cell? ⟨gb227, 0, none⟩ = some (.int .i64 t223) := (blk_cell BK227.out 0).trans rfl; have hcz19_1 : w16.cell? ⟨gb227, 1, none⟩ = some (.int .i64 t224) := (blk_cell BK227.out 1).trans rfl; have hcz19_2 : w16.cell? ⟨gb227, 2, none⟩ = some (.int .i64 t225) := (blk_cell BK227.out 2).trans rfl; have hfz19_0 := blk_frozen BK227.out 0; have hfz19_1 := blk_frozen BK227.out 1; have hfz19_2 := blk_frozen BK227.out 2) | ((with_reducible refine gate_dst (N := 7) rfl ?_); refine box_event ?hg (N := 7) ?hd (cs := #[.int .i64 0, .int .i64 0, .int .i64 0]) (t := 23) ?hr ?_; (case hd => rfl); (case hg => rfl); (case hr => first | (go_simp; done) | (go_simp; rfl)); intro gb233 hg w20 hbox hb; have n0_ := Aside0.mk (blk_below (g := gb227) (o := .cells #[.int .i64 t223, .int .i64 t224, .int .i64 t225] 23 (0, 0)) (by (with_reducible repeat (first | refine blk_drewN ?_ _ | refine blk_drew ?_ | refine blk_alloc ?_ _)); refine blk_far ?_ NB227_232.out _; (with_reducible repeat (first | refine blk_drewN ?_ _ | refine blk_drew ?_ | refine blk_alloc ?_ _)); refine blk_far ?_ NB227_232.out _; (with_reducible repeat (first | refine blk_drewN ?_ _ | refine blk_drew ?_ | refine blk_alloc ?_ _)); refine blk_far ?_ NB227_232.out _; (with_reducible repeat (first | refine blk_drewN ?_ _ | refine blk_drew ?_ | refine blk_alloc ?_ _)); exact BK227.out) hb); have n1_ := Aside0.mk (blk_below (g := gb232) (o := .cells #[.int .i64 t228, .int .i64 t229, .int .i64 t230] 23 (0, 0)) (by (with_reducible repeat (first | refine blk_drewN ?_ _ | refine blk_drew ?_ | refine blk_alloc ?_ _)); refine blk_put (cs := #[.int .i64 t228, .int .i64 t229, .int .i64 0]) ?_ 2 _ rfl; (with_reducible repeat (first | refine blk_drewN ?_ _ | refine blk_drew ?_ | refine blk_alloc ?_ _)); refine blk_put (cs := #[.int .i64 t228, .int .i64 0, .int .i64 0]) ?_ 1 _ rfl; (with_reducible repeat (first | refine blk_drewN ?_ _ | refine blk_drew ?_ | refine blk_alloc ?_ _)); refine blk_put (cs := #[.int .i64 0, .int .i64 0, .int .i64 0]) ?_ 0 _ rfl; (with_reducible repeat (first | refine blk_drewN ?_ _ | refine blk_drew ?_ | refine blk_alloc ?_ _)); exact BK232.out) hb); have n2_ := Aside0.mk (below_step (by repeat (first | (with_reducible first | exact HB.out | apply below_alloc | apply pw_below_drewN | apply below_drew1 | refine below_set ?_ GE227.out | refine below_set ?_ GE232.out) | exact HB.out)) hb); have n3_ := Aside0.mk (hbox); have n4_ := Aside0.mk ((by rw [hg]; exact (below_size (by repeat (first | (with_reducible first | exact HB.out | apply below_alloc | apply pw_below_drewN | apply below_drew1 | refine below_set ?_ GE227.out | refine below_set ?_ GE232.out) | exact HB.out))) : w.heap.size ≤ gb233)); have n5_ := Aside0.mk ((by rw [hg]; exact (below_size (by repeat (first | (with_reducible first | exact HB.out | apply below_alloc | apply pw_below_drewN | apply below_drew1 | refine below_set ?_ GE227.out | refine below_set ?_ GE232.out) | exact HB.out))) : w.heap.size ≤ gb233)); have n6_ := Aside0.mk ((by rw [hg]; exact Nat.ne_of_lt (blk_lt (g := gb227) (o := .cells #[.int .i64 t223, .int .i64 t224, .int .i64 t225] 23 (0, 0)) (by (with_reducible repeat (first | refine blk_drewN ?_ _ | refine blk_drew ?_ | refine blk_alloc ?_ _)); refine blk_far ?_ NB227_232.out _; (with_reducible repeat (first | refine blk_drewN ?_ _ | refine blk_drew ?_ | refine blk_alloc ?_ _)); refine blk_far ?_ NB227_232.out _; (with_reducible repeat (first | refine blk_drewN ?_ _ | refine blk_drew ?_ | refine blk_alloc ?_ _)); refine blk_far ?_ NB227_232.out _; (with_reducible repeat (first | refine blk_drewN ?_ _ | refine blk_drew ?_ | refine blk_alloc ?_ _)); exact BK227.out)) : gb227 ≠ gb233)); have n7_ := Aside0.mk ((by rw [hg]; exact Nat.ne_of_gt (blk_lt (g := gb227) (o := .cells #[.int .i64 t223, .int .i64 t224, .int .i64 t225] 23 (0, 0)) (by (with_reducible repeat (first | refine blk_drewN ?_ _ | refine blk_drew ?_ | refine blk_alloc ?_ _)); refine blk_far ?_ NB227_232.out _; (with_reducible repeat (first | refine blk_drewN ?_ _ | refine blk_drew ?_ | refine blk_alloc ?_ _)); refine blk_far ?_ NB227_232.out _; (with_reducible repeat (first | refine blk_drewN ?_ _ | refine blk_drew ?_ | refine blk_alloc ?_ _)); refine blk_far ?_ NB227_232.out _; (with_reducible repeat (first | refine blk_drewN ?_ _ | refine blk_drew ?_ | refine blk_alloc ?_ _)); exact BK227.out)) : gb233 ≠ gb227)); have n8_ := Aside0.mk ((by rw [hg]; exact Nat.ne_of_lt (blk_lt (g := gb232) (o := .cells #[.int .i64 t228, .int .i64 t229, .int .i64 t230] 23 (0, 0)) (by (with_reducible repeat (first | refine blk_drewN ?_ _ | refine blk_drew ?_ | refine blk_alloc ?_ _)); refine blk_put (cs := #[.int .i64 t228, .int .i64 t229, .int .i64 0]) ?_ 2 _ rfl; (with_reducible repeat (first | refine blk_drewN ?_ _ | refine blk_drew ?_ | refine blk_alloc ?_ _)); refine blk_put (cs := #[.int .i64 t228, .int .i64 0, .int .i64 0]) ?_ 1 _ rfl; (with_reducible repeat (first | refine blk_drewN ?_ _ | refine blk_drew ?_ | refine blk_alloc ?_ _)); refine blk_put (cs := #[.int .i64 0, .int .i64 0, .int .i64 0]) ?_ 0 _ rfl; (with_reducible repeat (first | refine blk_drewN ?_ _ | refine blk_drew ?_ | refine blk_alloc ?_ _)); exact BK232.out)) : gb232 ≠ gb233)); have n9_ := Aside0.mk ((by rw [hg]; exact Nat.ne_of_gt (blk_lt (g := gb232) (o := .cells #[.int .i64 t228, .int .i64 t229, .int .i64 t230] 23 (0, 0)) (by (with_reducible repeat (first | refine blk_drewN ?_ _ | refine blk_drew ?_ | refine blk_alloc ?_ _)); refine blk_put (cs := #[.int .i64 t228, .int .i64 t229, .int .i64 0]) ?_ 2 _ rfl; (with_reducible repeat (first | refine blk_drewN ?_ _ | refine blk_drew ?_ | refine blk_alloc ?_ _)); refine blk_put (cs := #[.int .i64 t228, .int .i64 0, .int .i64 0]) ?_ 1 _ rfl; (with_reducible repeat (first | refine blk_drewN ?_ _ | refine blk_drew ?_ | refine blk_alloc ?_ _)); refine blk_put (cs := #[.int .i64 0, .int .i64 0, .int .i64 0]) ?_ 0 _ rfl; (with_reducible repeat (first | refine blk_drewN ?_ _ | refine blk_drew ?_ | refine blk_alloc ?_ _)); exact BK232.out)) : gb233 ≠ gb232)); clear BK227; clear BK232; clear HB; have BK227 := n0_; have BK232 := n1_; have HB := n2_; have BK233 := n3_; have GW233 := n4_; have GE233 := n5_; have NB227_233 := n6_; have NB233_227 := n7_; have NB232_233 := n8_; have NB233_232 := n9_; clear n0_ n1_ n2_ n3_ n4_ n5_ n6_ n7_ n8_ n9_; clear hb hbox hg; have hnb21 := NB233_227.out; have hnc21 := NB227_233.out; have hnb22 := NB233_232.out; have hnc22 := NB232_233.out; have hcz23_0 : w20.cell? ⟨gb233, 0, none⟩ = some (.int .i64 0) := (blk_cell BK233.out 0).trans rfl; have hcz23_1 : w20.cell? ⟨gb233, 1, none⟩ = some (.int .i64 0) := (blk_cell BK233.out 1).trans rfl; have hcz23_2 : w20.cell? ⟨gb233, 2, none⟩ = some (.int .i64 0) := (blk_cell BK233.out 2).trans rfl; have hfz23_0 := blk_frozen BK233.out 0; have hfz23_1 := blk_frozen BK233.out 1; have hfz23_2 := blk_frozen BK233.out 2; have hcz24_0 : w20.cell? ⟨gb227, 0, none⟩ = some (.int .i64 t223) := (blk_cell BK227.out 0).trans rfl; have hcz24_1 : w20.cell? ⟨gb227, 1, none⟩ = some (.int .i64 t224) := (blk_cell BK227.out 1).trans rfl; have hcz24_2 : w20.cell? ⟨gb227, 2, none⟩ = some (.int .i64 t225) := (blk_cell BK227.out 2).trans rfl; have hfz24_0 := blk_frozen BK227.out 0; have hfz24_1 := blk_frozen BK227.out 1; have hfz24_2 := blk_frozen BK227.out 2) | (go_at_call 19; (with_reducible refine (civil_Length.calls kj4 t223 t224 t234 _ A13.out).mono ?_); rintro e w' ⟨rfl, ⟨nd, rfl⟩⟩; (try first | exact ⟨rfl, _, World.drewN_drewN _ _ _⟩ | exact ⟨rfl, _, Eq.trans (World.drewN_drewN _ _ _) (congrArg (World.drewN _) (Nat.add_assoc _ _ _))⟩)))
          repeat (go_quiet (first | (go_at_call 15; (with_reducible refine (civil_Of.calls kj4 (wrap64 (a0 + 1)) t228 t229 t230 t231 _ A12.out).mono ?_); rintro e w15 ⟨rfl, hb⟩; have n0_ := Aside0.mk (blk_below (g := gb227) (o := .cells #[.int .i64 t223, .int .i64 t224, .int .i64 t225] 23 (0, 0)) (by (with_reducible repeat (first | refine blk_drewN ?_ _ | refine blk_drew ?_ | refine blk_alloc ?_ _)); exact BK227.out) hb); have n1_ := Aside0.mk (below_step (by repeat (first | (with_reducible first | exact HB.out | apply below_alloc | apply pw_below_drewN | apply below_drew1 | refine below_set ?_ GE227.out) | exact HB.out)) hb); clear BK227; clear HB; have BK227 := n0_; have HB := n1_; clear n0_ n1_; (try clear hb); (try clear hb2); (try clear hk); (try clear hi)) | ((with_reducible refine gate_dst (N := 5) rfl ?_); refine box_event ?hg (N := 5) ?hd (cs := #[.int .i64 0, .int .i64 0, .int .i64 0]) (t := 23) ?hr ?_; (case hd => rfl); (case hg => rfl); (case hr => first | (go_simp; done) | (go_simp; rfl)); intro gb232 hg w16 hbox hb; have n0_ := Aside0.mk (blk_below (g := gb227) (o := .cells #[.int .i64 t223, .int .i64 t224, .int .i64 t225] 23 (0, 0)) (by (with_reducible repeat (first | refine blk_drewN ?_ _ | refine blk_drew ?_ | refine blk_alloc ?_ _)); exact BK227.out) hb); have n1_ := Aside0.mk (below_step (by repeat (first | (with_reducible first | exact HB.out | apply below_alloc | apply pw_below_drewN | apply below_drew1 | refine below_set ?_ GE227.out) | exact HB.out)) hb); have n2_ := Aside0.mk (hbox); have n3_ := Aside0.mk ((by rw [hg]; exact (below_size (by repeat (first | (with_reducible first | exact HB.out | apply below_alloc | apply pw_below_drewN | apply below_drew1 | refine below_set ?_ GE227.out) | exact HB.out))) : w.heap.size ≤ gb232)); have n4_ := Aside0.mk ((by rw [hg]; exact (below_size (by repeat (first | (with_reducible first | exact HB.out | apply below_alloc | apply pw_below_drewN | apply below_drew1 | refine below_set ?_ GE227.out) | exact HB.out))) : w.heap.size ≤ gb232)); have n5_ := Aside0.mk ((by rw [hg]; exact Nat.ne_of_lt (blk_lt (g := gb227) (o := .cells #[.int .i64 t223, .int .i64 t224, .int .i64 t225] 23 (0, 0)) (by (with_reducible repeat (first | refine blk_drewN ?_ _ | refine blk_drew ?_ | refine blk_alloc ?_ _)); exact BK227.out)) : gb227 ≠ gb232)); have n6_ := Aside0.mk ((by rw [hg]; exact Nat.ne_of_gt (blk_lt (g := gb227) (o := .cells #[.int .i64 t223, .int .i64 t224, .int .i64 t225] 23 (0, 0)) (by (with_reducible repeat (first | refine blk_drewN ?_ _ | refine blk_drew ?_ | refine blk_alloc ?_ _)); exact BK227.out)) : gb232 ≠ gb227)); clear BK227; clear HB; have BK227 := n0_; have HB := n1_; have BK232 := n2_; have GW232 := n3_; have GE232 := n4_; have NB227_232 := n5_; have NB232_227 := n6_; clear n0_ n1_ n2_ n3_ n4_ n5_ n6_; clear hb hbox hg; have hnb17 := NB232_227.out; have hnc17 := NB227_232.out; have hcz18_0 : w16.cell? ⟨gb232, 0, none⟩ = some (.int .i64 0) := (blk_cell BK232.out 0).trans rfl; have hcz18_1 : w16.cell? ⟨gb232, 1, none⟩ = some (.int .i64 0) := (blk_cell BK232.out 1).trans rfl; have hcz18_2 : w16.cell? ⟨gb232, 2, none⟩ = some (.int .i64 0) := (blk_cell BK232.out 2).trans rfl; have hfz18_0 := blk_frozen BK232.out 0; have hfz18_1 := blk_frozen BK232.out 1; have hfz18_2 := blk_frozen BK232.out 2; have hcz19_0 : w16.cell? ⟨gb227, 0, none⟩ = some (.int .i64 t223) := (blk_cell BK227.out 0).trans rfl; have hcz19_1 : w16.cell? ⟨gb227, 1, none⟩ = some (.int .i64 t224) := (blk_cell BK227.out 1).trans rfl; have hcz19_2 : w16.cell? ⟨gb227, 2, none⟩ = some (.int .i64 t225) := (blk_cell BK227.out 2).trans rfl; have hfz19_0 := blk_frozen BK227.out 0; have hfz19_1 := blk_frozen BK227.out 1; have hfz19_2 := blk_frozen BK227.out 2) | ((with_reducible refine gate_dst (N := 7) rfl ?_); refine box_event ?hg (N := 7) ?hd (cs := #[.int .i64 0, .int .i64 0, .int .i64 0]) (t := 23) ?hr ?_; (case hd => rfl); (case hg => rfl); (case hr => first | (go_simp; done) | (go_simp; rfl)); intro gb233 hg w20 hbox hb; have n0_ := Aside0.mk (blk_below (g := gb227) (o := .cells #[.int .i64 t223, .int .i64 t224, .int .i64 t225] 23 (0, 0)) (by (with_reducible repeat (first | refine blk_drewN ?_ _ | refine blk_drew ?_ | refine blk_alloc ?_ _)); refine blk_far ?_ NB227_232.out _; (with_reducible repeat (first | refine blk_drewN ?_ _ | refine blk_drew ?_ | refine blk_alloc ?_ _)); refine blk_far ?_ NB227_232.out _; (with_reducible repeat (first | refine blk_drewN ?_ _ | refine blk_drew ?_ | refine blk_alloc ?_ _)); refine blk_far ?_ NB227_232.out _; (with_reducible repeat (first | refine blk_drewN ?_ _ | refine blk_drew ?_ | refine blk_alloc ?_ _)); exact BK227.out) hb); have n1_ := Aside0.mk (blk_below (g := gb232) (o := .cells #[.int .i64 t228, .int .i64 t229, .int .i64 t230] 23 (0, 0)) (by (with_reducible repeat (first | refine blk_drewN ?_ _ | refine blk_drew ?_ | refine blk_alloc ?_ _)); refine blk_put (cs := #[.int .i64 t228, .int .i64 t229, .int .i64 0]) ?_ 2 _ rfl; (with_reducible repeat (first | refine blk_drewN ?_ _ | refine blk_drew ?_ | refine blk_alloc ?_ _)); refine blk_put (cs := #[.int .i64 t228, .int .i64 0, .int .i64 0]) ?_ 1 _ rfl; (with_reducible repeat (first | refine blk_drewN ?_ _ | refine blk_drew ?_ | refine blk_alloc ?_ _)); refine blk_put (cs := #[.int .i64 0, .int .i64 0, .int .i64 0]) ?_ 0 _ rfl; (with_reducible repeat (first | refine blk_drewN ?_ _ | refine blk_drew ?_ | refine blk_alloc ?_ _)); exact BK232.out) hb); have n2_ := Aside0.mk (below_step (by repeat (first | (with_reducible first | exact HB.out | apply below_alloc | apply pw_below_drewN | apply below_drew1 | refine below_set ?_ GE227.out | refine below_set ?_ GE232.out) | exact HB.out)) hb); have n3_ := Aside0.mk (hbox); have n4_ := Aside0.mk ((by rw [hg]; exact (below_size (by repeat (first | (with_reducible first | exact HB.out | apply below_alloc | apply pw_below_drewN | apply below_drew1 | refine below_set ?_ GE227.out | refine below_set ?_ GE232.out) | exact HB.out))) : w.heap.size ≤ gb233)); have n5_ := Aside0.mk ((by rw [hg]; exact (below_size (by repeat (first | (with_reducible first | exact HB.out | apply below_alloc | apply pw_below_drewN | apply below_drew1 | refine below_set ?_ GE227.out | refine below_set ?_ GE232.out) | exact HB.out))) : w.heap.size ≤ gb233)); have n6_ := Aside0.mk ((by rw [hg]; exact Nat.ne_of_lt (blk_lt (g := gb227) (o := .cells #[.int .i64 t223, .int .i64 t224, .int .i64 t225] 23 (0, 0)) (by (with_reducible repeat (first | refine blk_drewN ?_ _ | refine blk_drew ?_ | refine blk_alloc ?_ _)); refine blk_far ?_ NB227_232.out _; (with_reducible repeat (first | refine blk_drewN ?_ _ | refine blk_drew ?_ | refine blk_alloc ?_ _)); refine blk_far ?_ NB227_232.out _; (with_reducible repeat (first | refine blk_drewN ?_ _ | refine blk_drew ?_ | refine blk_alloc ?_ _)); refine blk_far ?_ NB227_232.out _; (with_reducible repeat (first | refine blk_drewN ?_ _ | refine blk_drew ?_ | refine blk_alloc ?_ _)); exact BK227.out)) : gb227 ≠ gb233)); have n7_ := Aside0.mk ((by rw [hg]; exact Nat.ne_of_gt (blk_lt (g := gb227) (o := .cells #[.int .i64 t223, .int .i64 t224, .int .i64 t225] 23 (0, 0)) (by (with_reducible repeat (first | refine blk_drewN ?_ _ | refine blk_drew ?_ | refine blk_alloc ?_ _)); refine blk_far ?_ NB227_232.out _; (with_reducible repeat (first | refine blk_drewN ?_ _ | refine blk_drew ?_ | refine blk_alloc ?_ _)); refine blk_far ?_ NB227_232.out _; (with_reducible repeat (first | refine blk_drewN ?_ _ | refine blk_drew ?_ | refine blk_alloc ?_ _)); refine blk_far ?_ NB227_232.out _; (with_reducible repeat (first | refine blk_drewN ?_ _ | refine blk_drew ?_ | refine blk_alloc ?_ _)); exact BK227.out)) : gb233 ≠ gb227)); have n8_ := Aside0.mk ((by rw [hg]; exact Nat.ne_of_lt (blk_lt (g := gb232) (o := .cells #[.int .i64 t228, .int .i64 t229, .int .i64 t230] 23 (0, 0)) (by (with_reducible repeat (first | refine blk_drewN ?_ _ | refine blk_drew ?_ | refine blk_alloc ?_ _)); refine blk_put (cs := #[.int .i64 t228, .int .i64 t229, .int .i64 0]) ?_ 2 _ rfl; (with_reducible repeat (first | refine blk_drewN ?_ _ | refine blk_drew ?_ | refine blk_alloc ?_ _)); refine blk_put (cs := #[.int .i64 t228, .int .i64 0, .int .i64 0]) ?_ 1 _ rfl; (with_reducible repeat (first | refine blk_drewN ?_ _ | refine blk_drew ?_ | refine blk_alloc ?_ _)); refine blk_put (cs := #[.int .i64 0, .int .i64 0, .int .i64 0]) ?_ 0 _ rfl; (with_reducible repeat (first | refine blk_drewN ?_ _ | refine blk_drew ?_ | refine blk_alloc ?_ _)); exact BK232.out)) : gb232 ≠ gb233)); have n9_ := Aside0.mk ((by rw [hg]; exact Nat.ne_of_gt (blk_lt (g := gb232) (o := .cells #[.int .i64 t228, .int .i64 t229, .int .i64 t230] 23 (0, 0)) (by (with_reducible repeat (first | refine blk_drewN ?_ _ | refine blk_drew ?_ | refine blk_alloc ?_ _)); refine blk_put (cs := #[.int .i64 t228, .int .i64 t229, .int .i64 0]) ?_ 2 _ rfl; (with_reducible repeat (first | refine blk_drewN ?_ _ | refine blk_drew ?_ | refine blk_alloc ?_ _)); refine blk_put (cs := #[.int .i64 t228, .int .i64 0, .int .i64 0]) ?_ 1 _ rfl; (with_reducible repeat (first | refine blk_drewN ?_ _ | refine blk_drew ?_ | refine blk_alloc ?_ _)); refine blk_put (cs := #[.int .i64 0, .int .i64 0, .int .i64 0]) ?_ 0 _ rfl; (with_reducible repeat (first | refine blk_drewN ?_ _ | refine blk_drew ?_ | refine blk_alloc ?_ _)); exact BK232.out)) : gb233 ≠ gb232)); clear BK227; clear BK232; clear HB; have BK227 := n0_; have BK232 := n1_; have HB := n2_; have BK233 := n3_; have GW233 := n4_; have GE233 := n5_; have NB227_233 := n6_; have NB233_227 := n7_; have NB232_233 := n8_; have NB233_232 := n9_; clear n0_ n1_ n2_ n3_ n4_ n5_ n6_ n7_ n8_ n9_; clear hb hbox hg; have hnb21 := NB233_227.out; have hnc21 := NB227_233.out; have hnb22 := NB233_232.out; have hnc22 := NB232_233.out; have hcz23_0 : w20.cell? ⟨gb233, 0, none⟩ = some (.int .i64 0) := (blk_cell BK233.out 0).trans rfl; have hcz23_1 : w20.cell? ⟨gb233, 1, none⟩ = some (.int .i64 0) := (blk_cell BK233.out 1).trans rfl; have hcz23_2 : w20.cell? ⟨gb233, 2, none⟩ = some (.int .i64 0) := (blk_cell BK233.out 2).trans rfl; have hfz23_0 := blk_frozen BK233.out 0; have hfz23_1 := blk_frozen BK233.out 1; have hfz23_2 := blk_frozen BK233.out 2; have hcz24_0 : w20.cell? ⟨gb227, 0, none⟩ = some (.int .i64 t223) := (blk_cell BK227.out 0).trans rfl; have hcz24_1 : w20.cell? ⟨gb227, 1, none⟩ = some (.int .i64 t224) := (blk_cell BK227.out 1).trans rfl; have hcz24_2 : w20.cell? ⟨gb227, 2, none⟩ = some (.int .i64 t225) := (blk_cell BK227.out 2).trans rfl; have hfz24_0 := blk_frozen BK227.out 0; have hfz24_1 := blk_frozen BK227.out 1; have hfz24_2 := blk_frozen BK227.out 2) | (go_at_call 19; (with_reducible refine (civil_Length.calls kj4 t223 t224 t234 _ A13.out).mono ?_); rintro e w' ⟨rfl, ⟨nd, rfl⟩⟩; (try first | exact ⟨rfl, _, World.drewN_drewN _ _ _⟩ | exact ⟨rfl, _, Eq.trans (World.drewN_drewN _ _ _) (congrArg (World.drewN _) (Nat.add_assoc _ _ _))⟩))); go_upto_if 42 with (first | (go_at_call 15; (with_reducible refine (civil_Of.calls kj4 (wrap64 (a0 + 1)) t228 t229 t230 t231 _ A12.out).mono ?_); rintro e w15 ⟨rfl, hb⟩; have n0_ := Aside0.mk (blk_below (g := gb227) (o := .cells #[.int .i64 t223, .int .i64 t224, .int .i64 t225] 23 (0, 0)) (by (with_reducible repeat (first | refine blk_drewN ?_ _ | refine blk_drew ?_ | refine blk_alloc ?_ _)); exact BK227.out) hb); have n1_ := Aside0.mk (below_step (by repeat (first | (with_reducible first | exact HB.out | apply below_alloc | apply pw_below_drewN | apply below_drew1 | refine below_set ?_ GE227.out) | exact HB.out)) hb); clear BK227; clear HB; have BK227 := n0_; have HB := n1_; clear n0_ n1_; (try clear hb); (try clear hb2); (try clear hk); (try clear hi)) | ((with_reducible refine gate_dst (N := 5) rfl ?_); refine box_event ?hg (N := 5) ?hd (cs := #[.int .i64 0, .int .i64 0, .int .i64 0]) (t := 23) ?hr ?_; (case hd => rfl); (case hg => rfl); (case hr => first | (go_simp; done) | (go_simp; rfl)); intro gb232 hg w16 hbox hb; have n0_ := Aside0.mk (blk_below (g := gb227) (o := .cells #[.int .i64 t223, .int .i64 t224, .int .i64 t225] 23 (0, 0)) (by (with_reducible repeat (first | refine blk_drewN ?_ _ | refine blk_drew ?_ | refine blk_alloc ?_ _)); exact BK227.out) hb); have n1_ := Aside0.mk (below_step (by repeat (first | (with_reducible first | exact HB.out | apply below_alloc | apply pw_below_drewN | apply below_drew1 | refine below_set ?_ GE227.out) | exact HB.out)) hb); have n2_ := Aside0.mk (hbox); have n3_ := Aside0.mk ((by rw [hg]; exact (below_size (by repeat (first | (with_reducible first | exact HB.out | apply below_alloc | apply pw_below_drewN | apply below_drew1 | refine below_set ?_ GE227.out) | exact HB.out))) : w.heap.size ≤ gb232)); have n4_ := Aside0.mk ((by rw [hg]; exact (below_size (by repeat (first | (with_reducible first | exact HB.out | apply below_alloc | apply pw_below_drewN | apply below_drew1 | refine below_set ?_ GE227.out) | exact HB.out))) : w.heap.size ≤ gb232)); have n5_ := Aside0.mk ((by rw [hg]; exact Nat.ne_of_lt (blk_lt (g := gb227) (o := .cells #[.int .i64 t223, .int .i64 t224, .int .i64 t225] 23 (0, 0)) (by (with_reducible repeat (first | refine blk_drewN ?_ _ | refine blk_drew ?_ | refine blk_alloc ?_ _)); exact BK227.out)) : gb227 ≠ gb232)); have n6_ := Aside0.mk ((by rw [hg]; exact Nat.ne_of_gt (blk_lt (g := gb227) (o := .cells #[.int .i64 t223, .int .i64 t224, .int .i64 t225] 23 (0, 0)) (by (with_reducible repeat (first | refine blk_drewN ?_ _ | refine blk_drew ?_ | refine blk_alloc ?_ _)); exact BK227.out)) : gb232 ≠ gb227)); clear BK227; clear HB; have BK227 := n0_; have HB := n1_; have BK232 := n2_; have GW232 := n3_; have GE232 := n4_; have NB227_232 := n5_; have NB232_227 := n6_; clear n0_ n1_ n2_ n3_ n4_ n5_ n6_; clear hb hbox hg; have hnb17 := NB232_227.out; have hnc17 := NB227_232.out; have hcz18_0 : w16.cell? ⟨gb232, 0, none⟩ = some (.int .i64 0) := (blk_cell BK232.out 0).trans rfl; have hcz18_1 : w16.cell? ⟨gb232, 1, none⟩ = some (.int .i64 0) := (blk_cell BK232.out 1).trans rfl; have hcz18_2 : w16.cell? ⟨gb232, 2, none⟩ = some (.int .i64 0) := (blk_cell BK232.out 2).trans rfl; have hfz18_0 := blk_frozen BK232.out 0; have hfz18_1 := blk_frozen BK232.out 1; have hfz18_2 := blk_frozen BK232.out 2; have hcz19_0 : w16.cell? ⟨gb227, 0, none⟩ = some (.int .i64 t223) := (blk_cell BK227.out 0).trans rfl; have hcz19_1 : w16.cell? ⟨gb227, 1, none⟩ = some (.int .i64 t224) := (blk_cell BK227.out 1).trans rfl; have hcz19_2 : w16.cell? ⟨gb227, 2, none⟩ = some (.int .i64 t225) := (blk_cell BK227.out 2).trans rfl; have hfz19_0 := blk_frozen BK227.out 0; have hfz19_1 := blk_frozen BK227.out 1; have hfz19_2 := blk_frozen BK227.out 2) | ((with_reducible refine gate_dst (N := 7) rfl ?_); refine box_event ?hg (N := 7) ?hd (cs := #[.int .i64 0, .int .i64 0, .int .i64 0]) (t := 23) ?hr ?_; (case hd => rfl); (case hg => rfl); (case hr => first | (go_simp; done) | (go_simp; rfl)); intro gb233 hg w20 hbox hb; have n0_ := Aside0.mk (blk_below (g := gb227) (o := .cells #[.int .i64 t223, .int .i64 t224, .int .i64 t225] 23 (0, 0)) (by (with_reducible repeat (first | refine blk_drewN ?_ _ | refine blk_drew ?_ | refine blk_alloc ?_ _)); refine blk_far ?_ NB227_232.out _; (with_reducible repeat (first | refine blk_drewN ?_ _ | refine blk_drew ?_ | refine blk_alloc ?_ _)); refine blk_far ?_ NB227_232.out _; (with_reducible repeat (first | refine blk_drewN ?_ _ | refine blk_drew ?_ | refine blk_alloc ?_ _)); refine blk_far ?_ NB227_232.out _; (with_reducible repeat (first | refine blk_drewN ?_ _ | refine blk_drew ?_ | refine blk_alloc ?_ _)); exact BK227.out) hb); have n1_ := Aside0.mk (blk_below (g := gb232) (o := .cells #[.int .i64 t228, .int .i64 t229, .int .i64 t230] 23 (0, 0)) (by (with_reducible repeat (first | refine blk_drewN ?_ _ | refine blk_drew ?_ | refine blk_alloc ?_ _)); refine blk_put (cs := #[.int .i64 t228, .int .i64 t229, .int .i64 0]) ?_ 2 _ rfl; (with_reducible repeat (first | refine blk_drewN ?_ _ | refine blk_drew ?_ | refine blk_alloc ?_ _)); refine blk_put (cs := #[.int .i64 t228, .int .i64 0, .int .i64 0]) ?_ 1 _ rfl; (with_reducible repeat (first | refine blk_drewN ?_ _ | refine blk_drew ?_ | refine blk_alloc ?_ _)); refine blk_put (cs := #[.int .i64 0, .int .i64 0, .int .i64 0]) ?_ 0 _ rfl; (with_reducible repeat (first | refine blk_drewN ?_ _ | refine blk_drew ?_ | refine blk_alloc ?_ _)); exact BK232.out) hb); have n2_ := Aside0.mk (below_step (by repeat (first | (with_reducible first | exact HB.out | apply below_alloc | apply pw_below_drewN | apply below_drew1 | refine below_set ?_ GE227.out | refine below_set ?_ GE232.out) | exact HB.out)) hb); have n3_ := Aside0.mk (hbox); have n4_ := Aside0.mk ((by rw [hg]; exact (below_size (by repeat (first | (with_reducible first | exact HB.out | apply below_alloc | apply pw_below_drewN | apply below_drew1 | refine below_set ?_ GE227.out | refine below_set ?_ GE232.out) | exact HB.out))) : w.heap.size ≤ gb233)); have n5_ := Aside0.mk ((by rw [hg]; exact (below_size (by repeat (first | (with_reducible first | exact HB.out | apply below_alloc | apply pw_below_drewN | apply below_drew1 | refine below_set ?_ GE227.out | refine below_set ?_ GE232.out) | exact HB.out))) : w.heap.size ≤ gb233)); have n6_ := Aside0.mk ((by rw [hg]; exact Nat.ne_of_lt (blk_lt (g := gb227) (o := .cells #[.int .i64 t223, .int .i64 t224, .int .i64 t225] 23 (0, 0)) (by (with_reducible repeat (first | refine blk_drewN ?_ _ | refine blk_drew ?_ | refine blk_alloc ?_ _)); refine blk_far ?_ NB227_232.out _; (with_reducible repeat (first | refine blk_drewN ?_ _ | refine blk_drew ?_ | refine blk_alloc ?_ _)); refine blk_far ?_ NB227_232.out _; (with_reducible repeat (first | refine blk_drewN ?_ _ | refine blk_drew ?_ | refine blk_alloc ?_ _)); refine blk_far ?_ NB227_232.out _; (with_reducible repeat (first | refine blk_drewN ?_ _ | refine blk_drew ?_ | refine blk_alloc ?_ _)); exact BK227.out)) : gb227 ≠ gb233)); have n7_ := Aside0.mk ((by rw [hg]; exact Nat.ne_of_gt (blk_lt (g := gb227) (o := .cells #[.int .i64 t223, .int .i64 t224, .int .i64 t225] 23 (0, 0)) (by (with_reducible repeat (first | refine blk_drewN ?_ _ | refine blk_drew ?_ | refine blk_alloc ?_ _)); refine blk_far ?_ NB227_232.out _; (with_reducible repeat (first | refine blk_drewN ?_ _ | refine blk_drew ?_ | refine blk_alloc ?_ _)); refine blk_far ?_ NB227_232.out _; (with_reducible repeat (first | refine blk_drewN ?_ _ | refine blk_drew ?_ | refine blk_alloc ?_ _)); refine blk_far ?_ NB227_232.out _; (with_reducible repeat (first | refine blk_drewN ?_ _ | refine blk_drew ?_ | refine blk_alloc ?_ _)); exact BK227.out)) : gb233 ≠ gb227)); have n8_ := Aside0.mk ((by rw [hg]; exact Nat.ne_of_lt (blk_lt (g := gb232) (o := .cells #[.int .i64 t228, .int .i64 t229, .int .i64 t230] 23 (0, 0)) (by (with_reducible repeat (first | refine blk_drewN ?_ _ | refine blk_drew ?_ | refine blk_alloc ?_ _)); refine blk_put (cs := #[.int .i64 t228, .int .i64 t229, .int .i64 0]) ?_ 2 _ rfl; (with_reducible repeat (first | refine blk_drewN ?_ _ | refine blk_drew ?_ | refine blk_alloc ?_ _)); refine blk_put (cs := #[.int .i64 t228, .int .i64 0, .int .i64 0]) ?_ 1 _ rfl; (with_reducible repeat (first | refine blk_drewN ?_ _ | refine blk_drew ?_ | refine blk_alloc ?_ _)); refine blk_put (cs := #[.int .i64 0, .int .i64 0, .int .i64 0]) ?_ 0 _ rfl; (with_reducible repeat (first | refine blk_drewN ?_ _ | refine blk_drew ?_ | refine blk_alloc ?_ _)); exact BK232.out)) : gb232 ≠ gb233)); have n9_ := Aside0.mk ((by rw [hg]; exact Nat.ne_of_gt (blk_lt (g := gb232) (o := .cells #[.int .i64 t228, .int .i64 t229, .int .i64 t230] 23 (0, 0)) (by (with_reducible repeat (first | refine blk_drewN ?_ _ | refine blk_drew ?_ | refine blk_alloc ?_ _)); refine blk_put (cs := #[.int .i64 t228, .int .i64 t229, .int .i64 0]) ?_ 2 _ rfl; (with_reducible repeat (first | refine blk_drewN ?_ _ | refine blk_drew ?_ | refine blk_alloc ?_ _)); refine blk_put (cs := #[.int .i64 t228, .int .i64 0, .int .i64 0]) ?_ 1 _ rfl; (with_reducible repeat (first | refine blk_drewN ?_ _ | refine blk_drew ?_ | refine blk_alloc ?_ _)); refine blk_put (cs := #[.int .i64 0, .int .i64 0, .int .i64 0]) ?_ 0 _ rfl; (with_reducible repeat (first | refine blk_drewN ?_ _ | refine blk_drew ?_ | refine blk_alloc ?_ _)); exact BK232.out)) : gb233 ≠ gb232)); clear BK227; clear BK232; clear HB; have BK227 := n0_; have BK232 := n1_; have HB := n2_; have BK233 := n3_; have GW233 := n4_; have GE233 := n5_; have NB227_233 := n6_; have NB233_227 := n7_; have NB232_233 := n8_; have NB233_232 := n9_; clear n0_ n1_ n2_ n3_ n4_ n5_ n6_ n7_ n8_ n9_; clear hb hbox hg; have hnb21 := NB233_227.out; have hnc21 := NB227_233.out; have hnb22 := NB233_232.out; have hnc22 := NB232_233.out; have hcz23_0 : w20.cell? ⟨gb233, 0, none⟩ = some (.int .i64 0) := (blk_cell BK233.out 0).trans rfl; have hcz23_1 : w20.cell? ⟨gb233, 1, none⟩ = some (.int .i64 0) := (blk_cell BK233.out 1).trans rfl; have hcz23_2 : w20.cell? ⟨gb233, 2, none⟩ = some (.int .i64 0) := (blk_cell BK233.out 2).trans rfl; have hfz23_0 := blk_frozen BK233.out 0; have hfz23_1 := blk_frozen BK233.out 1; have hfz23_2 := blk_frozen BK233.out 2; have hcz24_0 : w20.cell? ⟨gb227, 0, none⟩ = some (.int .i64 t223) := (blk_cell BK227.out 0).trans rfl; have hcz24_1 : w20.cell? ⟨gb227, 1, none⟩ = some (.int .i64 t224) := (blk_cell BK227.out 1).trans rfl; have hcz24_2 : w20.cell? ⟨gb227, 2, none⟩ = some (.int .i64 t225) := (blk_cell BK227.out 2).trans rfl; have hfz24_0 := blk_frozen BK227.out 0; have hfz24_1 := blk_frozen BK227.out 1; have hfz24_2 := blk_frozen BK227.out 2) | (go_at_call 19; (with_reducible refine (civil_Length.calls kj4 t223 t224 t234 _ A13.out).mono ?_); rintro e w' ⟨rfl, ⟨nd, rfl⟩⟩; (try first | exact ⟨rfl, _, World.drewN_drewN _ _ _⟩ | exact ⟨rfl, _, Eq.trans (World.drewN_drewN _ _ _) (congrArg (World.drewN _) (Nat.add_assoc _ _ _))⟩))))
          (try simp only [Act.put, List.setIfInBounds_toArray, List.set_cons_zero, List.set_cons_succ])
          go_cut [] (fun wc => ∃ (kq : Nat) (x234001_13 : Int) (x234002_13 : Int), Aside0 (hourglasslaw4_CivilNext.j1 kq a0 t231 t228 t229 t230 t223 x234001_13 x234002_13 = some r) ∧ Aside0 (kq ≤ kj4) ∧ Aside0 (wc.heap[gb227]? = some (.cells #[.int .i64 t223, .int .i64 t224, .int .i64 t225] 23 (0, 0))) ∧ Aside0 (wc.heap[gb232]? = some (.cells #[.int .i64 t228, .int .i64 t229, .int .i64 t230] 23 (0, 0))) ∧ Aside0 (wc.heap[gb233]? = some (.cells #[.int .i64 t223, .int .i64 x234001_13, .int .i64 x234002_13] 23 (0, 0))) ∧ Aside0 (Below w.heap.size w wc))
          case first =>
            have H := HC14.out
            clear HC14
            by_cases c25 : (wrap64 (t225 + 1)) > t234
            · rw [if_pos c25] at H
              have c25b0 : decide (t234 < (wrap64 (t225 + 1))) = true := decide_eq_true c25
              clear c25
              (first | rw [c25b0] | (simp only [i64_w, i32_w]; rw [c25b0]) | skip)
              have H' := Aside0.mk H
              clear H
              have hnb26 := NB233_227.out
              have hnc26 := NB227_233.out
              have hnb27 := NB233_232.out
              have hnc27 := NB232_233.out
              have hcz28_0 : w20.cell? ⟨gb233, 0, none⟩ = some (.int .i64 0) := (blk_cell BK233.out 0).trans rfl
              have hcz28_1 : w20.cell? ⟨gb233, 1, none⟩ = some (.int .i64 0) := (blk_cell BK233.out 1).trans rfl
              have hcz28_2 : w20.cell? ⟨gb233, 2, none⟩ = some (.int .i64 0) := (blk_cell BK233.out 2).trans rfl
              have hfz28_0 := blk_frozen BK233.out 0
              have hfz28_1 := blk_frozen BK233.out 1
              have hfz28_2 := blk_frozen BK233.out 2
              go_wp2
              repeat (go_quiet (fail); try go_wp2)
              go_meet
              case rel => exact ⟨_, (wrap64 (t224 + 1)), (1), H', ⟨by have := HJ4.out; first | omega | exact Nat.le_refl _⟩, ⟨by (with_reducible repeat (first | refine blk_drewN ?_ _ | refine blk_drew ?_ | refine blk_alloc ?_ _)); refine blk_far ?_ NB227_233.out _; (with_reducible repeat (first | refine blk_drewN ?_ _ | refine blk_drew ?_ | refine blk_alloc ?_ _)); refine blk_far ?_ NB227_233.out _; (with_reducible repeat (first | refine blk_drewN ?_ _ | refine blk_drew ?_ | refine blk_alloc ?_ _)); refine blk_far ?_ NB227_233.out _; (with_reducible repeat (first | refine blk_drewN ?_ _ | refine blk_drew ?_ | refine blk_alloc ?_ _)); refine blk_far ?_ NB227_233.out _; (with_reducible repeat (first | refine blk_drewN ?_ _ | refine blk_drew ?_ | refine blk_alloc ?_ _)); refine blk_far ?_ NB227_233.out _; (with_reducible repeat (first | refine blk_drewN ?_ _ | refine blk_drew ?_ | refine blk_alloc ?_ _)); exact BK227.out⟩, ⟨by (with_reducible repeat (first | refine blk_drewN ?_ _ | refine blk_drew ?_ | refine blk_alloc ?_ _)); refine blk_far ?_ NB232_233.out _; (with_reducible repeat (first | refine blk_drewN ?_ _ | refine blk_drew ?_ | refine blk_alloc ?_ _)); refine blk_far ?_ NB232_233.out _; (with_reducible repeat (first | refine blk_drewN ?_ _ | refine blk_drew ?_ | refine blk_alloc ?_ _)); refine blk_far ?_ NB232_233.out _; (with_reducible repeat (first | refine blk_drewN ?_ _ | refine blk_drew ?_ | refine blk_alloc ?_ _)); refine blk_far ?_ NB232_233.out _; (with_reducible repeat (first | refine blk_drewN ?_ _ | refine blk_drew ?_ | refine blk_alloc ?_ _)); refine blk_far ?_ NB232_233.out _; (with_reducible repeat (first | refine blk_drewN ?_ _ | refine blk_drew ?_ | refine blk_alloc ?_ _)); exact BK232.out⟩, ⟨by (with_reducible repeat (first | refine blk_drewN ?_ _ | refine blk_drew ?_ | refine blk_alloc ?_ _)); refine blk_put (cs := #[.int .i64 t223, .int .i64 t224, .int .i64 1]) ?_ 1 _ rfl; (with_reducible repeat (first | refine blk_drewN ?_ _ | refine blk_drew ?_ | refine blk_alloc ?_ _)); refine blk_put (cs := #[.int .i64 t223, .int .i64 t224, .int .i64 (wrap64 (t225 + 1))]) ?_ 2 _ rfl; (with_reducible repeat (first | refine blk_drewN ?_ _ | refine blk_drew ?_ | refine blk_alloc ?_ _)); refine blk_put (cs := #[.int .i64 t223, .int .i64 t224, .int .i64 0]) ?_ 2 _ rfl; (with_reducible repeat (first | refine blk_drewN ?_ _ | refine blk_drew ?_ | refine blk_alloc ?_ _)); refine blk_put (cs := #[.int .i64 t223, .int .i64 0, .int .i64 0]) ?_ 1 _ rfl; (with_reducible repeat (first | refine blk_drewN ?_ _ | refine blk_drew ?_ | refine blk_alloc ?_ _)); refine blk_put (cs := #[.int .i64 0, .int .i64 0, .int .i64 0]) ?_ 0 _ rfl; (with_reducible repeat (first | refine blk_drewN ?_ _ | refine blk_drew ?_ | refine blk_alloc ?_ _)); exact BK233.out⟩, ⟨by repeat (first | (with_reducible first | exact HB.out | apply below_alloc | apply pw_below_drewN | apply below_drew1 | refine below_set ?_ GE227.out | refine below_set ?_ GE232.out | refine below_set ?_ GE233.out) | exact HB.out)⟩⟩
            · rw [if_neg c25] at H
              have c25b0 : decide (t234 < (wrap64 (t225 + 1))) = false := decide_eq_false c25
              clear c25
              (first | rw [c25b0] | (simp only [i64_w, i32_w]; rw [c25b0]) | skip)
              have H' := Aside0.mk H
              clear H
              go_wp2
              repeat (go_quiet (fail); try go_wp2)
              go_meet
              case rel => exact ⟨_, (t224), (wrap64 (t225 + 1)), H', ⟨by have := HJ4.out; first | omega | exact Nat.le_refl _⟩, ⟨by (with_reducible repeat (first | refine blk_drewN ?_ _ | refine blk_drew ?_ | refine blk_alloc ?_ _)); refine blk_far ?_ NB227_233.out _; (with_reducible repeat (first | refine blk_drewN ?_ _ | refine blk_drew ?_ | refine blk_alloc ?_ _)); refine blk_far ?_ NB227_233.out _; (with_reducible repeat (first | refine blk_drewN ?_ _ | refine blk_drew ?_ | refine blk_alloc ?_ _)); refine blk_far ?_ NB227_233.out _; (with_reducible repeat (first | refine blk_drewN ?_ _ | refine blk_drew ?_ | refine blk_alloc ?_ _)); exact BK227.out⟩, ⟨by (with_reducible repeat (first | refine blk_drewN ?_ _ | refine blk_drew ?_ | refine blk_alloc ?_ _)); refine blk_far ?_ NB232_233.out _; (with_reducible repeat (first | refine blk_drewN ?_ _ | refine blk_drew ?_ | refine blk_alloc ?_ _)); refine blk_far ?_ NB232_233.out _; (with_reducible repeat (first | refine blk_drewN ?_ _ | refine blk_drew ?_ | refine blk_alloc ?_ _)); refine blk_far ?_ NB232_233.out _; (with_reducible repeat (first | refine blk_drewN ?_ _ | refine blk_drew ?_ | refine blk_alloc ?_ _)); exact BK232.out⟩, ⟨by (with_reducible repeat (first | refine blk_drewN ?_ _ | refine blk_drew ?_ | refine blk_alloc ?_ _)); refine blk_put (cs := #[.int .i64 t223, .int .i64 t224, .int .i64 0]) ?_ 2 _ rfl; (with_reducible repeat (first | refine blk_drewN ?_ _ | refine blk_drew ?_ | refine blk_alloc ?_ _)); refine blk_put (cs := #[.int .i64 t223, .int .i64 0, .int .i64 0]) ?_ 1 _ rfl; (with_reducible repeat (first | refine blk_drewN ?_ _ | refine blk_drew ?_ | refine blk_alloc ?_ _)); refine blk_put (cs := #[.int .i64 0, .int .i64 0, .int .i64 0]) ?_ 0 _ rfl; (with_reducible repeat (first | refine blk_drewN ?_ _ | refine blk_drew ?_ | refine blk_alloc ?_ _)); exact BK233.out⟩, ⟨by repeat (first | (with_reducible first | exact HB.out | apply below_alloc | apply pw_below_drewN | apply below_drew1 | refine below_set ?_ GE227.out | refine below_set ?_ GE232.out | refine below_set ?_ GE233.out) | exact HB.out)⟩⟩
          case rest =>
            clear HC14
            try clear c1
            try clear c2
            try clear p2
            try clear c3
            try clear c4
            try clear p6
            try clear c10
            try clear c10b0
            try clear c10b1
            try clear c11
            try clear c17
            try clear c21
            try clear c22
            try clear c25
            try clear c25b0
            try clear c26
            try clear c27
            try clear hcz18_0
            try clear hcz18_1
            try clear hcz18_2
            try clear hcz19_0
            try clear hcz19_1
            try clear hcz19_2
            try clear hcz23_0
            try clear hcz23_1
            try clear hcz23_2
            try clear hcz24_0
            try clear hcz24_1
            try clear hcz24_2
            try clear hcz28_0
            try clear hcz28_1
            try clear hcz28_2
            try clear hcz9_0
            try clear hcz9_1
            try clear hcz9_2
            try clear hfz18_0
            try clear hfz18_1
            try clear hfz18_2
            try clear hfz19_0
            try clear hfz19_1
            try clear hfz19_2
            try clear hfz23_0
            try clear hfz23_1
            try clear hfz23_2
            try clear hfz24_0
            try clear hfz24_1
            try clear hfz24_2
            try clear hfz28_0
            try clear hfz28_1
            try clear hfz28_2
            try clear hfz9_0
            try clear hfz9_1
            try clear hfz9_2
            try clear p2
            obtain ⟨kq, x234001_13, x234002_13, HA, HJ13, BK227, BK232, BK233, HB⟩ := hcut
            cases kq with
            | zero => exact absurd HA.out (by simp [hourglasslaw4_CivilNext.j1])
            | succ kj13 =>
              have H := HA.out
              clear HA
              simp only [hourglasslaw4_CivilNext.j1] at H
              have HC29 := Aside0.mk H
              clear H
              have hnb30 := NB233_227.out
              have hnc30 := NB227_233.out
              have hnb31 := NB233_232.out
              have hnc31 := NB232_233.out
              have hcz32_0 : wc.cell? ⟨gb233, 0, none⟩ = some (.int .i64 t223) := (blk_cell BK233.out 0).trans rfl
              have hcz32_1 : wc.cell? ⟨gb233, 1, none⟩ = some (.int .i64 x234001_13) := (blk_cell BK233.out 1).trans rfl
              have hcz32_2 : wc.cell? ⟨gb233, 2, none⟩ = some (.int .i64 x234002_13) := (blk_cell BK233.out 2).trans rfl
              have hfz32_0 := blk_frozen BK233.out 0
              have hfz32_1 := blk_frozen BK233.out 1
              have hfz32_2 := blk_frozen BK233.out 2
              go_upto_if 50 with (fail)
              repeat (go_quiet (fail); go_upto_if 50 with (fail))
              go_cut [] (fun wc => ∃ (kq : Nat) (x234000_28 : Int) (x234001_28 : Int), Aside0 (hourglasslaw4_CivilNext.j2 kq a0 t231 t228 t229 t230 x234000_28 x234001_28 x234002_13 = some r) ∧ Aside0 (kq ≤ kj13) ∧ Aside0 (wc.heap[gb227]? = some (.cells #[.int .i64 t223, .int .i64 t224, .int .i64 t225] 23 (0, 0))) ∧ Aside0 (wc.heap[gb232]? = some (.cells #[.int .i64 t228, .int .i64 t229, .int .i64 t230] 23 (0, 0))) ∧ Aside0 (wc.heap[gb233]? = some (.cells #[.int .i64 x234000_28, .int .i64 x234001_28, .int .i64 x234002_13] 23 (0, 0))) ∧ Aside0 (Below w.heap.size w wc))
              case first =>
                have H := HC29.out
                clear HC29
                by_cases c33 : x234001_13 > 12
                · rw [if_pos c33] at H
                  have c33b0 : decide (12 < x234001_13) = true := decide_eq_true c33
                  clear c33
                  (first | rw [c33b0] | (simp only [i64_w, i32_w]; rw [c33b0]) | skip)
                  have H' := Aside0.mk H
                  clear H
                  have hnb34 := NB233_227.out
                  have hnc34 := NB227_233.out
                  have hnb35 := NB233_232.out
                  have hnc35 := NB232_233.out
                  have hcz36_0 : wc.cell? ⟨gb233, 0, none⟩ = some (.int .i64 t223) := (blk_cell BK233.out 0).trans rfl
                  have hcz36_1 : wc.cell? ⟨gb233, 1, none⟩ = some (.int .i64 x234001_13) := (blk_cell BK233.out 1).trans rfl
                  have hcz36_2 : wc.cell? ⟨gb233, 2, none⟩ = some (.int .i64 x234002_13) := (blk_cell BK233.out 2).trans rfl
                  have hfz36_0 := blk_frozen BK233.out 0
                  have hfz36_1 := blk_frozen BK233.out 1
                  have hfz36_2 := blk_frozen BK233.out 2
                  go_wp2
                  repeat (go_quiet (fail); try go_wp2)
                  go_meet
                  case rel => exact ⟨_, (wrap64 (t223 + 1)), (1), H', ⟨by have := HJ4.out; have := HJ13.out; first | omega | exact Nat.le_refl _⟩, ⟨by (with_reducible repeat (first | refine blk_drewN ?_ _ | refine blk_drew ?_ | refine blk_alloc ?_ _)); refine blk_far ?_ NB227_233.out _; (with_reducible repeat (first | refine blk_drewN ?_ _ | refine blk_drew ?_ | refine blk_alloc ?_ _)); refine blk_far ?_ NB227_233.out _; (with_reducible repeat (first | refine blk_drewN ?_ _ | refine blk_drew ?_ | refine blk_alloc ?_ _)); exact BK227.out⟩, ⟨by (with_reducible repeat (first | refine blk_drewN ?_ _ | refine blk_drew ?_ | refine blk_alloc ?_ _)); refine blk_far ?_ NB232_233.out _; (with_reducible repeat (first | refine blk_drewN ?_ _ | refine blk_drew ?_ | refine blk_alloc ?_ _)); refine blk_far ?_ NB232_233.out _; (with_reducible repeat (first | refine blk_drewN ?_ _ | refine blk_drew ?_ | refine blk_alloc ?_ _)); exact BK232.out⟩, ⟨by (with_reducible repeat (first | refine blk_drewN ?_ _ | refine blk_drew ?_ | refine blk_alloc ?_ _)); refine blk_put (cs := #[.int .i64 t223, .int .i64 1, .int .i64 x234002_13]) ?_ 0 _ rfl; (with_reducible repeat (first | refine blk_drewN ?_ _ | refine blk_drew ?_ | refine blk_alloc ?_ _)); refine blk_put (cs := #[.int .i64 t223, .int .i64 x234001_13, .int .i64 x234002_13]) ?_ 1 _ rfl; (with_reducible repeat (first | refine blk_drewN ?_ _ | refine blk_drew ?_ | refine blk_alloc ?_ _)); exact BK233.out⟩, ⟨by repeat (first | (with_reducible first | exact HB.out | apply below_alloc | apply pw_below_drewN | apply below_drew1 | refine below_set ?_ GE227.out | refine below_set ?_ GE232.out | refine below_set ?_ GE233.out) | exact HB.out)⟩⟩
                · rw [if_neg c33] at H
                  have c33b0 : decide (12 < x234001_13) = false := decide_eq_false c33
                  clear c33
                  (first | rw [c33b0] | (simp only [i64_w, i32_w]; rw [c33b0]) | skip)
                  have H' := Aside0.mk H
                  clear H
                  go_wp2
                  repeat (go_quiet (fail); try go_wp2)
                  go_meet
                  case rel => exact ⟨_, (t223), (x234001_13), H', ⟨by have := HJ4.out; have := HJ13.out; first | omega | exact Nat.le_refl _⟩, ⟨by (with_reducible repeat (first | refine blk_drewN ?_ _ | refine blk_drew ?_ | refine blk_alloc ?_ _)); exact BK227.out⟩, ⟨by (with_reducible repeat (first | refine blk_drewN ?_ _ | refine blk_drew ?_ | refine blk_alloc ?_ _)); exact BK232.out⟩, ⟨by (with_reducible repeat (first | refine blk_drewN ?_ _ | refine blk_drew ?_ | refine blk_alloc ?_ _)); exact BK233.out⟩, ⟨by repeat (first | (with_reducible first | exact HB.out | apply below_alloc | apply pw_below_drewN | apply below_drew1 | refine below_set ?_ GE227.out | refine below_set ?_ GE232.out | refine below_set ?_ GE233.out) | exact HB.out)⟩⟩
              case rest =>
                clear HC29
                try clear c1
                try clear c2
                try clear p2
                try clear c3
                try clear c4
                try clear p6
                try clear c10
                try clear c10b0
                try clear c10b1
                try clear c11
                try clear c17
                try clear c21
                try clear c22
                try clear c25
                try clear c25b0
                try clear c26
                try clear c27
                try clear c30
                try clear c31
                try clear c33
                try clear c33b0
                try clear c34
                try clear c35
                try clear hcz18_0
                try clear hcz18_1
                try clear hcz18_2
                try clear hcz19_0
                try clear hcz19_1
                try clear hcz19_2
                try clear hcz23_0
                try clear hcz23_1
                try clear hcz23_2
                try clear hcz24_0
                try clear hcz24_1
                try clear hcz24_2
                try clear hcz28_0
                try clear hcz28_1
                try clear hcz28_2
                try clear hcz32_0
                try clear hcz32_1
                try clear hcz32_2
                try clear hcz36_0
                try clear hcz36_1
                try clear hcz36_2
                try clear hcz9_0
                try clear hcz9_1
                try clear hcz9_2
                try clear hfz18_0
                try clear hfz18_1
                try clear hfz18_2
                try clear hfz19_0
                try clear hfz19_1
                try clear hfz19_2
                try clear hfz23_0
                try clear hfz23_1
                try clear hfz23_2
                try clear hfz24_0
                try clear hfz24_1
                try clear hfz24_2
                try clear hfz28_0
                try clear hfz28_1
                try clear hfz28_2
                try clear hfz32_0
                try clear hfz32_1
                try clear hfz32_2
                try clear hfz36_0
                try clear hfz36_1
                try clear hfz36_2
                try clear hfz9_0
                try clear hfz9_1
                try clear hfz9_2
                try clear p2
                try clear p6
                obtain ⟨kq, x234000_28, x234001_28, HA, HJ28, BK227, BK232, BK233, HB⟩ := hcut
                cases kq with
                | zero => exact absurd HA.out (by simp [hourglasslaw4_CivilNext.j2])
                | succ kj28 =>
                  have H := HA.out
                  clear HA
                  simp only [hourglasslaw4_CivilNext.j2] at H
                  by_cases c37 : t231 = 0
                  · rw [if_pos c37] at H
                    have c37b0 : (t231 == 0) = true := beq_iff_eq.mpr c37
                    have c37b1 : (t231 != 0) = false := bne_eq_false_iff_eq.mpr c37
                    clear c37
                    by_cases c38 : (t228 == x234000_28 && (t229 == x234001_28 && (t230 == x234002_13))) = true
                    · rw [if_pos c38] at H
                      have c38b0 : (t228 == x234000_28 && (t229 == x234001_28 && (t230 == x234002_13))) = true := c38
                      (try (have c38b1 : decide (t228 = x234000_28 && (t229 == x234001_28 && (t230 == x234002_13))) = true := by simpa using c38))
                      (try (have c38b2 : (t228 == x234000_28 && (t229 == x234001_28 && (t230 == x234002_13))) = true := by simpa using c38))
                      clear c38
                      replace H := Option.bind_eq_some_iff.mp H
                      obtain ⟨t235, A390, H⟩ := H
                      replace H : ((civil_Weekday.f a0).bind fun t236 => (some (t235 == (Int.tmod (wrap64 (t236 + 1)) 7)))) = some r := H
                      have A39 := Aside0.mk A390
                      clear A390
                      replace H := Option.bind_eq_some_iff.mp H
                      obtain ⟨t236, A400, H⟩ := H
                      replace H : (some (t235 == (Int.tmod (wrap64 (t236 + 1)) 7))) = some r := H
                      have A40 := Aside0.mk A400
                      clear A400
                      obtain rfl := Option.some.inj H
                      have hnb41 := NB232_227.out
                      have hnc41 := NB227_232.out
                      have hnb42 := NB232_233.out
                      have hnc42 := NB233_232.out
                      have hcz43_0 : wc.cell? ⟨gb232, 0, none⟩ = some (.int .i64 t228) := (blk_cell BK232.out 0).trans rfl
                      have hcz43_1 : wc.cell? ⟨gb232, 1, none⟩ = some (.int .i64 t229) := (blk_cell BK232.out 1).trans rfl
                      have hcz43_2 : wc.cell? ⟨gb232, 2, none⟩ = some (.int .i64 t230) := (blk_cell BK232.out 2).trans rfl
                      have hfz43_0 := blk_frozen BK232.out 0
                      have hfz43_1 := blk_frozen BK232.out 1
                      have hfz43_2 := blk_frozen BK232.out 2
                      have hnb44 := NB233_227.out
                      have hnc44 := NB227_233.out
                      have hcz45_0 : wc.cell? ⟨gb233, 0, none⟩ = some (.int .i64 x234000_28) := (blk_cell BK233.out 0).trans rfl
                      have hcz45_1 : wc.cell? ⟨gb233, 1, none⟩ = some (.int .i64 x234001_28) := (blk_cell BK233.out 1).trans rfl
                      have hcz45_2 : wc.cell? ⟨gb233, 2, none⟩ = some (.int .i64 x234002_13) := (blk_cell BK233.out 2).trans rfl
                      have hfz45_0 := blk_frozen BK233.out 0
                      have hfz45_1 := blk_frozen BK233.out 1
                      have hfz45_2 := blk_frozen BK233.out 2
                      go_wp2_with (first | (go_at_call 21; (with_reducible refine (civil_Weekday.calls (wrap64 (a0 + 1)) t235 _ A39.out).mono ?_); rintro e w' ⟨rfl, ⟨nd, rfl⟩⟩; (try first | exact ⟨rfl, _, World.drewN_drewN _ _ _⟩ | exact ⟨rfl, _, Eq.trans (World.drewN_drewN _ _ _) (congrArg (World.drewN _) (Nat.add_assoc _ _ _))⟩)) | (go_at_call 21; (with_reducible refine (civil_Weekday.calls a0 t236 _ A40.out).mono ?_); rintro e w' ⟨rfl, ⟨nd, rfl⟩⟩; (try first | exact ⟨rfl, _, World.drewN_drewN _ _ _⟩ | exact ⟨rfl, _, Eq.trans (World.drewN_drewN _ _ _) (congrArg (World.drewN _) (Nat.add_assoc _ _ _))⟩)))
                      repeat (go_quiet (first | (go_at_call 21; (with_reducible refine (civil_Weekday.calls (wrap64 (a0 + 1)) t235 _ A39.out).mono ?_); rintro e w' ⟨rfl, ⟨nd, rfl⟩⟩; (try first | exact ⟨rfl, _, World.drewN_drewN _ _ _⟩ | exact ⟨rfl, _, Eq.trans (World.drewN_drewN _ _ _) (congrArg (World.drewN _) (Nat.add_assoc _ _ _))⟩)) | (go_at_call 21; (with_reducible refine (civil_Weekday.calls a0 t236 _ A40.out).mono ?_); rintro e w' ⟨rfl, ⟨nd, rfl⟩⟩; (try first | exact ⟨rfl, _, World.drewN_drewN _ _ _⟩ | exact ⟨rfl, _, Eq.trans (World.drewN_drewN _ _ _) (congrArg (World.drewN _) (Nat.add_assoc _ _ _))⟩))); try go_wp2_with (first | (go_at_call 21; (with_reducible refine (civil_Weekday.calls (wrap64 (a0 + 1)) t235 _ A39.out).mono ?_); rintro e w' ⟨rfl, ⟨nd, rfl⟩⟩; (try first | exact ⟨rfl, _, World.drewN_drewN _ _ _⟩ | exact ⟨rfl, _, Eq.trans (World.drewN_drewN _ _ _) (congrArg (World.drewN _) (Nat.add_assoc _ _ _))⟩)) | (go_at_call 21; (with_reducible refine (civil_Weekday.calls a0 t236 _ A40.out).mono ?_); rintro e w' ⟨rfl, ⟨nd, rfl⟩⟩; (try first | exact ⟨rfl, _, World.drewN_drewN _ _ _⟩ | exact ⟨rfl, _, Eq.trans (World.drewN_drewN _ _ _) (congrArg (World.drewN _) (Nat.add_assoc _ _ _))⟩))))
                      go_ret
                      exact ⟨by first | rfl | (simp [errW_none, errW_some] <;> rfl) | (simp [*, errW_none, errW_some] <;> rfl), by repeat (first | (with_reducible first | exact HB.out | apply below_alloc | apply pw_below_drewN | apply below_drew1 | refine below_set ?_ GE227.out | refine below_set ?_ GE232.out | refine below_set ?_ GE233.out) | exact HB.out)⟩
                    · rw [if_neg c38] at H
                      have c38b0 : (t228 == x234000_28 && (t229 == x234001_28 && (t230 == x234002_13))) = false := by simpa using c38
                      (try (have c38b1 : decide (t228 = x234000_28 && (t229 == x234001_28 && (t230 == x234002_13))) = false := by simpa using c38))
                      (try (have c38b2 : (t228 == x234000_28 && (t229 == x234001_28 && (t230 == x234002_13))) = false := by simpa using c38))
                      (try (have c38b3 : ¬ (t228 = x234000_28 && (t229 == x234001_28 && (t230 == x234002_13))) := by simpa using c38))
                      clear c38
                      cases (Option.some.inj H).trans hlaw_.out
                  · rw [if_neg c37] at H
                    have c37b0 : (t231 == 0) = false := beq_eq_false_iff_ne.mpr c37
                    have c37b1 : (t231 != 0) = true := bne_iff_ne.mpr c37
                    cases (Option.some.inj H).trans hlaw_.out
  · replace c3 := Bool.eq_false_iff.mpr c3
    subst c3
    have H1 : (some false) = some r := by rw [if_neg (show ¬ (false = true) by decide)] at H; exact H
    clear H
    have H := H1
    clear H1
    cases (Option.some.inj H).trans hlaw_.out

/-- THE ONE PURE STATEMENT of hourglasslaw4_CivilNext: yours. -/
def hourglasslaw4_CivilNext.Pure : Prop := ∀ (a0 : Int), (Lit.int .i64 a0).wf = true → ∃ k, hourglasslaw4_CivilNext.f k a0 = some true
theorem hourglasslaw4_CivilNext.walk (P : hourglasslaw4_CivilNext.Pure) (a0 : Int) (w : World) (w0 : (Lit.int .i64 a0).wf = true) :
    Calls Tryd.prog 4 #[.int .i64 a0] w fun e w' => e = .returned (.bool true) ∧ Below w.heap.size w w' := by
  obtain ⟨k, h⟩ := P a0 w0
  refine (hourglasslaw4_CivilNext.calls k a0 true w h (Aside0.mk rfl)).mono ?_
  rintro e w' ⟨rfl, hd⟩
  exact ⟨rfl, hd⟩

end Go.Proofs.YtbgdpkpljkcnfaaDoor.QCivil
