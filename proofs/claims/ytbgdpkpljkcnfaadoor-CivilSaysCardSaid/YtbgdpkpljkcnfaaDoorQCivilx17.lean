/- What the Go functions compute: each as a Lean function, with the proof that its call answers so; written by a program of this session over the kit's print. Conditions: each theorem's own. -/
import Derived.Test.YtbgdpkpljkcnfaaDoorQCivilx0
import Derived.Test.YtbgdpkpljkcnfaaDoorQCivilx12
import Derived.Test.YtbgdpkpljkcnfaaDoorQCivilx16
namespace Go.Proofs.YtbgdpkpljkcnfaaDoor.QCivil
open Go.RowKit Go.Proofs.YtbgdpkpljkcnfaaDoorW.PrintWords Go.Proofs.YtbgdpkpljkcnfaaDoorW.PrintLast Go.Proofs.YtbgdpkpljkcnfaaDoorW.PrintMore
attribute [local go_sem] max2_int min2_int max_two min_two max_three min_three max_four min_four   -- for this text's walks alone
set_option linter.unusedVariables false
set_option linter.unusedSimpArgs false

/-! ### ref.Text: function 24, by hand -/
def hourglassref4_Text.t (p1 p2 p3 : ByteArray) : Option ByteArray := if p1.size ≤ 8 ∧ p2.size ≤ 8 ∧ p3.size ≤ 8 then some (((p1 ++ ⟨#[45]⟩) ++ p2 ++ ⟨#[45]⟩) ++ p3) else none
def hourglassref4_Text.f (k : Nat) (a0_0 : Int) (a0_1 : Int) (a0_2 : Int) : Option ByteArray := (hourglassref4_Good.f k a0_0 a0_1 a0_2).bind fun t => if t = true then (if a0_0 < -9999 then none else (if a0_0 < 0 then ((hourglassref4_pad.f k (-a0_0) 4).bind fun p1 => (hourglassref4_pad.f k a0_1 2).bind fun p2 => (hourglassref4_pad.f k a0_2 2).bind fun p3 => if p1.size ≤ 7 then hourglassref4_Text.t (⟨#[45]⟩ ++ p1) p2 p3 else none) else ((hourglassref4_pad.f k a0_0 4).bind fun p1 => (hourglassref4_pad.f k a0_1 2).bind fun p2 => (hourglassref4_pad.f k a0_2 2).bind fun p3 => hourglassref4_Text.t p1 p2 p3))) else some (⟨#[]⟩ : ByteArray)
theorem hourglassref4_Text.mono : ∀ a0 a1 a2 k, LeO (hourglassref4_Text.f k a0 a1 a2) (hourglassref4_Text.f (k + 1) a0 a1 a2) := by
  intro a0 a1 a2 k
  unfold hourglassref4_Text.f
  refine LeO.bind (hourglassref4_Good.mono a0 a1 a2 k) (fun t => LeO.ite (LeO.ite (LeO.refl _) (LeO.ite ?_ ?_)) (LeO.refl _))
  · exact LeO.bind (hourglassref4_pad.mono _ _ k) (fun p1 => LeO.bind (hourglassref4_pad.mono _ _ k) (fun p2 => LeO.bind (hourglassref4_pad.mono _ _ k) (fun p3 => LeO.refl _)))
  · exact LeO.bind (hourglassref4_pad.mono _ _ k) (fun p1 => LeO.bind (hourglassref4_pad.mono _ _ k) (fun p2 => LeO.bind (hourglassref4_pad.mono _ _ k) (fun p3 => LeO.refl _)))
set_option maxHeartbeats 1000000 in
theorem rtext_neg (y m d : Int) (hy : y < 0) (hy2 : -9999 ≤ y) (p1 p2 p3 : ByteArray) (s1 : p1.size ≤ 8) (s2 : p2.size ≤ 8) (s3 : p3.size ≤ 8) (w : World) (HG : Hid (∀ w, Calls Tryd.prog 29 #[.agg #[.int .i64 y, .int .i64 m, .int .i64 d]] w fun e w' => e = .returned (.bool true) ∧ Below w.heap.size w w'))
    (T1 : Hid (∀ w, Calls Tryd.prog 33 #[.int .i64 (-y), .int .i64 4] w fun e w' => e = .returned (.string p1) ∧ Below w.heap.size w w')) (T2 : Hid (∀ w, Calls Tryd.prog 33 #[.int .i64 m, .int .i64 2] w fun e w' => e = .returned (.string p2) ∧ Below w.heap.size w w'))
    (T3 : Hid (∀ w, Calls Tryd.prog 33 #[.int .i64 d, .int .i64 2] w fun e w' => e = .returned (.string p3) ∧ Below w.heap.size w w')) :
    Calls Tryd.prog 24 #[.agg #[.int .i64 y, .int .i64 m, .int .i64 d]] w fun e w' => e = .returned (.string ((((⟨#[45]⟩ ++ p1) ++ ⟨#[45]⟩) ++ p2 ++ ⟨#[45]⟩) ++ p3)) ∧ Below w.heap.size w w' := by
  have d1 : (⟨#[45]⟩ : ByteArray).size = 1 := rfl
  have q0 : ∀ w : World, (Op.stringOp .add (⟨#[45]⟩ : ByteArray) p1).run Tryd.prog w = .ok (.string ((⟨#[45]⟩ : ByteArray) ++ p1)) w := fun w => run_string_add_sum w _ _ (by omega)
  obtain ⟨r0, f0⟩ : ∃ s : ByteArray, (⟨#[45]⟩ : ByteArray) ++ p1 = s := ⟨_, rfl⟩
  have s1' : r0.size ≤ 9 := by rw [← f0, ByteArray.size_append]; omega
  rw [f0] at q0 ⊢
  have q1 : ∀ w : World, (Op.stringOp .add r0 (⟨#[45]⟩ : ByteArray)).run Tryd.prog w = .ok (.string (r0 ++ (⟨#[45]⟩ : ByteArray))) w := fun w => run_string_add_sum w _ _ (by omega)
  obtain ⟨r1, f1⟩ : ∃ s : ByteArray, r0 ++ (⟨#[45]⟩ : ByteArray) = s := ⟨_, rfl⟩
  have z1 : r1.size ≤ 10 := by rw [← f1, ByteArray.size_append]; omega
  rw [f1] at q1
  have q2 : ∀ w : World, (Op.stringOp .add r1 p2).run Tryd.prog w = .ok (.string (r1 ++ p2)) w := fun w => run_string_add_sum w _ _ (by omega)
  obtain ⟨r2, f2⟩ : ∃ s : ByteArray, r1 ++ p2 = s := ⟨_, rfl⟩
  have z2 : r2.size ≤ 18 := by rw [← f2, ByteArray.size_append]; omega
  rw [f2] at q2
  have q3 : ∀ w : World, (Op.stringOp .add r2 (⟨#[45]⟩ : ByteArray)).run Tryd.prog w = .ok (.string (r2 ++ (⟨#[45]⟩ : ByteArray))) w := fun w => run_string_add_sum w _ _ (by omega)
  obtain ⟨r3, f3⟩ : ∃ s : ByteArray, r2 ++ (⟨#[45]⟩ : ByteArray) = s := ⟨_, rfl⟩
  have z3 : r3.size ≤ 19 := by rw [← f3, ByteArray.size_append]; omega
  rw [f3] at q3
  have q4 : ∀ w : World, (Op.stringOp .add r3 p3).run Tryd.prog w = .ok (.string (r3 ++ p3)) w := fun w => run_string_add_sum w _ _ (by omega)
  obtain ⟨r4, f4⟩ : ∃ s : ByteArray, r3 ++ p3 = s := ⟨_, rfl⟩
  have z4 : r4.size ≤ 27 := by rw [← f4, ByteArray.size_append]; omega
  rw [f4] at q4
  rw [f1, f2, f3, f4]
  have Q0 := Lib.hid q0
  have Q1 := Lib.hid q1
  have Q2 := Lib.hid q2
  have Q3 := Lib.hid q3
  have Q4 := Lib.hid q4
  clear q0 f0 q1 f1 q2 f2 q3 f3 q4 f4 d1 z1 z2 z3 z4 s1 s2 s3 s1'
  have hwr := Lib.hid (show IntKind.i64.wrap (-y) = -y by rw [IntKind.wrap_i64]; omega)
  have I0 := Lib.hid (isB_new w #[.int .i64 y, .int .i64 m, .int .i64 d] 30)
  have BA := Lib.hid ((Below.refl w.heap.size w).alloc (Nat.le_refl _) (.cells #[.int .i64 y, .int .i64 m, .int .i64 d] 30))
  go_enter Tryd.func24, Tryd.ntmps24
  go_wp2_with fail
  refine (HG.out _).mono ?_
  rintro e w1 ⟨rfl, hb⟩
  have J0 := Lib.hid (I0.out.to hb (by simp))
  have B1 := Lib.hid (BA.out.trans (hb.mono BA.out.size))
  have z1 : w.heap.size < w1.heap.size := by have := hb.size; simp at this; omega
  clear hb I0 BA
  have hc0 : w1.cell? ⟨w.heap.size, 0, none⟩ = some (.int .i64 y) := J0.out.at 0
  go_wp2_with fail
  clear hc0
  refine region_quiet_lit (C := fun w' => Below w1.heap.size w1 w') (by kernel_rfl) (by kernel_rfl) (Below.refl _ _).drew ?_
  refine BigFrame.wpQuiet_want rfl (fun K hK => ?_)
  refine quiet_val (.pointer (some ⟨w.heap.size, 0, none⟩)) (fun w2 hw => by simp [go_sem]) (hK _ ?_)
  clear hK K
  simp only [Act.put, List.setIfInBounds_toArray, List.set_cons_zero, List.set_cons_succ]
  refine BigFrame.wpQuiet_want rfl (fun K hK => ?_)
  refine quiet_val (.int .i64 y) (fun w2 hw => by simp [go_sem, (J0.out.to hw z1).at]) (hK _ ?_)
  clear hK K
  simp only [Act.put, List.setIfInBounds_toArray, List.set_cons_zero, List.set_cons_succ]
  refine BigFrame.wpQuiet_want rfl (fun K hK => ?_)
  refine quiet_val (.int .i64 (-y)) (fun w2 hw => by simp [go_sem, hwr.out]) (hK _ ?_)
  clear hK K
  simp only [Act.put, List.setIfInBounds_toArray, List.set_cons_zero, List.set_cons_succ]
  refine BigFrame.wpQuiet_want rfl (fun K hK => ?_)
  refine quiet_call 33 #[.int .i64 (-y), .int .i64 4] (.string p1) (fun w2 => by simp [go_sem]) (fun w2 hw => (T1.out w2).mono fun e w3 hh => ⟨hh.1, hw.trans (hh.2.mono hw.size)⟩) (hK _ ?_)
  clear hK K
  simp only [Act.put, List.setIfInBounds_toArray, List.set_cons_zero, List.set_cons_succ]
  refine BigFrame.wpQuiet_want rfl (fun K hK => ?_)
  refine quiet_val (.string r0) (fun w2 hw => by simp [go_sem, Q0.out]) (hK _ ?_)
  clear hK K
  simp only [Act.put, List.setIfInBounds_toArray, List.set_cons_zero, List.set_cons_succ]
  refine BigFrame.wpQuiet_want rfl (fun K hK => ?_)
  refine quiet_val (.string r1) (fun w2 hw => by simp [go_sem, Q1.out]) (hK _ ?_)
  clear hK K
  simp only [Act.put, List.setIfInBounds_toArray, List.set_cons_zero, List.set_cons_succ]
  refine BigFrame.wpQuiet_want rfl (fun K hK => ?_)
  refine quiet_val (.pointer (some ⟨w.heap.size, 1, none⟩)) (fun w2 hw => by simp [go_sem]) (hK _ ?_)
  clear hK K
  simp only [Act.put, List.setIfInBounds_toArray, List.set_cons_zero, List.set_cons_succ]
  refine BigFrame.wpQuiet_want rfl (fun K hK => ?_)
  refine quiet_val (.int .i64 m) (fun w2 hw => by simp [go_sem, (J0.out.to hw z1).at]) (hK _ ?_)
  clear hK K
  simp only [Act.put, List.setIfInBounds_toArray, List.set_cons_zero, List.set_cons_succ]
  refine BigFrame.wpQuiet_want rfl (fun K hK => ?_)
  refine quiet_call 33 #[.int .i64 m, .int .i64 2] (.string p2) (fun w2 => by simp [go_sem]) (fun w2 hw => (T2.out w2).mono fun e w3 hh => ⟨hh.1, hw.trans (hh.2.mono hw.size)⟩) (hK _ ?_)
  clear hK K
  simp only [Act.put, List.setIfInBounds_toArray, List.set_cons_zero, List.set_cons_succ]
  refine BigFrame.wpQuiet_want rfl (fun K hK => ?_)
  refine quiet_val (.string r2) (fun w2 hw => by simp [go_sem, Q2.out]) (hK _ ?_)
  clear hK K
  simp only [Act.put, List.setIfInBounds_toArray, List.set_cons_zero, List.set_cons_succ]
  refine BigFrame.wpQuiet_want rfl (fun K hK => ?_)
  refine quiet_val (.string r3) (fun w2 hw => by simp [go_sem, Q3.out]) (hK _ ?_)
  clear hK K
  simp only [Act.put, List.setIfInBounds_toArray, List.set_cons_zero, List.set_cons_succ]
  refine BigFrame.wpQuiet_want rfl (fun K hK => ?_)
  refine quiet_val (.pointer (some ⟨w.heap.size, 2, none⟩)) (fun w2 hw => by simp [go_sem]) (hK _ ?_)
  clear hK K
  simp only [Act.put, List.setIfInBounds_toArray, List.set_cons_zero, List.set_cons_succ]
  refine BigFrame.wpQuiet_want rfl (fun K hK => ?_)
  refine quiet_val (.int .i64 d) (fun w2 hw => by simp [go_sem, (J0.out.to hw z1).at]) (hK _ ?_)
  clear hK K
  simp only [Act.put, List.setIfInBounds_toArray, List.set_cons_zero, List.set_cons_succ]
  refine BigFrame.wpQuiet_want rfl (fun K hK => ?_)
  refine quiet_call 33 #[.int .i64 d, .int .i64 2] (.string p3) (fun w2 => by simp [go_sem]) (fun w2 hw => (T3.out w2).mono fun e w3 hh => ⟨hh.1, hw.trans (hh.2.mono hw.size)⟩) (hK _ ?_)
  clear hK K
  simp only [Act.put, List.setIfInBounds_toArray, List.set_cons_zero, List.set_cons_succ]
  refine BigFrame.wpQuiet_want rfl (fun K hK => ?_)
  refine quiet_val (.string r4) (fun w2 hw => by simp [go_sem, Q4.out]) (hK _ ?_)
  clear hK K
  simp only [Act.put, List.setIfInBounds_toArray, List.set_cons_zero, List.set_cons_succ]
  refine BigFrame.wpQuiet_want rfl (fun K hK => ?_)
  refine quiet_val (.string r4) (fun w2 hw => rfl) (hK _ ?_)
  clear hK K
  simp only [Act.put, List.setIfInBounds_toArray, List.set_cons_zero, List.set_cons_succ]
  refine wpQuiet_nil ?_
  intro w9 hb9
  have B9 := Lib.hid (B1.out.trans (hb9.mono B1.out.size))
  clear hb9
  go_wp2_with fail
  go_ret
  exact ⟨rfl, B9.out⟩
set_option maxHeartbeats 1000000 in
theorem rtext_pos (y m d : Int) (hy : ¬ y < 0) (p1 p2 p3 : ByteArray) (s1 : p1.size ≤ 8) (s2 : p2.size ≤ 8) (s3 : p3.size ≤ 8) (w : World) (HG : Hid (∀ w, Calls Tryd.prog 29 #[.agg #[.int .i64 y, .int .i64 m, .int .i64 d]] w fun e w' => e = .returned (.bool true) ∧ Below w.heap.size w w'))
    (T1 : Hid (∀ w, Calls Tryd.prog 33 #[.int .i64 y, .int .i64 4] w fun e w' => e = .returned (.string p1) ∧ Below w.heap.size w w')) (T2 : Hid (∀ w, Calls Tryd.prog 33 #[.int .i64 m, .int .i64 2] w fun e w' => e = .returned (.string p2) ∧ Below w.heap.size w w'))
    (T3 : Hid (∀ w, Calls Tryd.prog 33 #[.int .i64 d, .int .i64 2] w fun e w' => e = .returned (.string p3) ∧ Below w.heap.size w w')) :
    Calls Tryd.prog 24 #[.agg #[.int .i64 y, .int .i64 m, .int .i64 d]] w fun e w' => e = .returned (.string (((p1 ++ ⟨#[45]⟩) ++ p2 ++ ⟨#[45]⟩) ++ p3)) ∧ Below w.heap.size w w' := by
  have d1 : (⟨#[45]⟩ : ByteArray).size = 1 := rfl
  have q1 : ∀ w : World, (Op.stringOp .add p1 (⟨#[45]⟩ : ByteArray)).run Tryd.prog w = .ok (.string (p1 ++ (⟨#[45]⟩ : ByteArray))) w := fun w => run_string_add_sum w _ _ (by omega)
  obtain ⟨r1, f1⟩ : ∃ s : ByteArray, p1 ++ (⟨#[45]⟩ : ByteArray) = s := ⟨_, rfl⟩
  have z1 : r1.size ≤ 9 := by rw [← f1, ByteArray.size_append]; omega
  rw [f1] at q1
  have q2 : ∀ w : World, (Op.stringOp .add r1 p2).run Tryd.prog w = .ok (.string (r1 ++ p2)) w := fun w => run_string_add_sum w _ _ (by omega)
  obtain ⟨r2, f2⟩ : ∃ s : ByteArray, r1 ++ p2 = s := ⟨_, rfl⟩
  have z2 : r2.size ≤ 17 := by rw [← f2, ByteArray.size_append]; omega
  rw [f2] at q2
  have q3 : ∀ w : World, (Op.stringOp .add r2 (⟨#[45]⟩ : ByteArray)).run Tryd.prog w = .ok (.string (r2 ++ (⟨#[45]⟩ : ByteArray))) w := fun w => run_string_add_sum w _ _ (by omega)
  obtain ⟨r3, f3⟩ : ∃ s : ByteArray, r2 ++ (⟨#[45]⟩ : ByteArray) = s := ⟨_, rfl⟩
  have z3 : r3.size ≤ 18 := by rw [← f3, ByteArray.size_append]; omega
  rw [f3] at q3
  have q4 : ∀ w : World, (Op.stringOp .add r3 p3).run Tryd.prog w = .ok (.string (r3 ++ p3)) w := fun w => run_string_add_sum w _ _ (by omega)
  obtain ⟨r4, f4⟩ : ∃ s : ByteArray, r3 ++ p3 = s := ⟨_, rfl⟩
  have z4 : r4.size ≤ 26 := by rw [← f4, ByteArray.size_append]; omega
  rw [f4] at q4
  rw [f1, f2, f3, f4]
  have Q1 := Lib.hid q1
  have Q2 := Lib.hid q2
  have Q3 := Lib.hid q3
  have Q4 := Lib.hid q4
  clear q1 f1 q2 f2 q3 f3 q4 f4 d1 z1 z2 z3 z4 s1 s2 s3
  have I0 := Lib.hid (isB_new w #[.int .i64 y, .int .i64 m, .int .i64 d] 30)
  have BA := Lib.hid ((Below.refl w.heap.size w).alloc (Nat.le_refl _) (.cells #[.int .i64 y, .int .i64 m, .int .i64 d] 30))
  go_enter Tryd.func24, Tryd.ntmps24
  go_wp2_with fail
  refine (HG.out _).mono ?_
  rintro e w1 ⟨rfl, hb⟩
  have J0 := Lib.hid (I0.out.to hb (by simp))
  have B1 := Lib.hid (BA.out.trans (hb.mono BA.out.size))
  have z1 : w.heap.size < w1.heap.size := by have := hb.size; simp at this; omega
  clear hb I0 BA
  have hc0 : w1.cell? ⟨w.heap.size, 0, none⟩ = some (.int .i64 y) := J0.out.at 0
  go_wp2_with fail
  clear hc0
  refine region_quiet_lit (C := fun w' => Below w1.heap.size w1 w') (by kernel_rfl) (by kernel_rfl) (Below.refl _ _).drew ?_
  refine BigFrame.wpQuiet_want rfl (fun K hK => ?_)
  refine quiet_val (.pointer (some ⟨w.heap.size, 0, none⟩)) (fun w2 hw => by simp [go_sem]) (hK _ ?_)
  clear hK K
  simp only [Act.put, List.setIfInBounds_toArray, List.set_cons_zero, List.set_cons_succ]
  refine BigFrame.wpQuiet_want rfl (fun K hK => ?_)
  refine quiet_val (.int .i64 y) (fun w2 hw => by simp [go_sem, (J0.out.to hw z1).at]) (hK _ ?_)
  clear hK K
  simp only [Act.put, List.setIfInBounds_toArray, List.set_cons_zero, List.set_cons_succ]
  refine BigFrame.wpQuiet_want rfl (fun K hK => ?_)
  refine quiet_call 33 #[.int .i64 y, .int .i64 4] (.string p1) (fun w2 => by simp [go_sem]) (fun w2 hw => (T1.out w2).mono fun e w3 hh => ⟨hh.1, hw.trans (hh.2.mono hw.size)⟩) (hK _ ?_)
  clear hK K
  simp only [Act.put, List.setIfInBounds_toArray, List.set_cons_zero, List.set_cons_succ]
  refine BigFrame.wpQuiet_want rfl (fun K hK => ?_)
  refine quiet_val (.string r1) (fun w2 hw => by simp [go_sem, Q1.out]) (hK _ ?_)
  clear hK K
  simp only [Act.put, List.setIfInBounds_toArray, List.set_cons_zero, List.set_cons_succ]
  refine BigFrame.wpQuiet_want rfl (fun K hK => ?_)
  refine quiet_val (.pointer (some ⟨w.heap.size, 1, none⟩)) (fun w2 hw => by simp [go_sem]) (hK _ ?_)
  clear hK K
  simp only [Act.put, List.setIfInBounds_toArray, List.set_cons_zero, List.set_cons_succ]
  refine BigFrame.wpQuiet_want rfl (fun K hK => ?_)
  refine quiet_val (.int .i64 m) (fun w2 hw => by simp [go_sem, (J0.out.to hw z1).at]) (hK _ ?_)
  clear hK K
  simp only [Act.put, List.setIfInBounds_toArray, List.set_cons_zero, List.set_cons_succ]
  refine BigFrame.wpQuiet_want rfl (fun K hK => ?_)
  refine quiet_call 33 #[.int .i64 m, .int .i64 2] (.string p2) (fun w2 => by simp [go_sem]) (fun w2 hw => (T2.out w2).mono fun e w3 hh => ⟨hh.1, hw.trans (hh.2.mono hw.size)⟩) (hK _ ?_)
  clear hK K
  simp only [Act.put, List.setIfInBounds_toArray, List.set_cons_zero, List.set_cons_succ]
  refine BigFrame.wpQuiet_want rfl (fun K hK => ?_)
  refine quiet_val (.string r2) (fun w2 hw => by simp [go_sem, Q2.out]) (hK _ ?_)
  clear hK K
  simp only [Act.put, List.setIfInBounds_toArray, List.set_cons_zero, List.set_cons_succ]
  refine BigFrame.wpQuiet_want rfl (fun K hK => ?_)
  refine quiet_val (.string r3) (fun w2 hw => by simp [go_sem, Q3.out]) (hK _ ?_)
  clear hK K
  simp only [Act.put, List.setIfInBounds_toArray, List.set_cons_zero, List.set_cons_succ]
  refine BigFrame.wpQuiet_want rfl (fun K hK => ?_)
  refine quiet_val (.pointer (some ⟨w.heap.size, 2, none⟩)) (fun w2 hw => by simp [go_sem]) (hK _ ?_)
  clear hK K
  simp only [Act.put, List.setIfInBounds_toArray, List.set_cons_zero, List.set_cons_succ]
  refine BigFrame.wpQuiet_want rfl (fun K hK => ?_)
  refine quiet_val (.int .i64 d) (fun w2 hw => by simp [go_sem, (J0.out.to hw z1).at]) (hK _ ?_)
  clear hK K
  simp only [Act.put, List.setIfInBounds_toArray, List.set_cons_zero, List.set_cons_succ]
  refine BigFrame.wpQuiet_want rfl (fun K hK => ?_)
  refine quiet_call 33 #[.int .i64 d, .int .i64 2] (.string p3) (fun w2 => by simp [go_sem]) (fun w2 hw => (T3.out w2).mono fun e w3 hh => ⟨hh.1, hw.trans (hh.2.mono hw.size)⟩) (hK _ ?_)
  clear hK K
  simp only [Act.put, List.setIfInBounds_toArray, List.set_cons_zero, List.set_cons_succ]
  refine BigFrame.wpQuiet_want rfl (fun K hK => ?_)
  refine quiet_val (.string r4) (fun w2 hw => by simp [go_sem, Q4.out]) (hK _ ?_)
  clear hK K
  simp only [Act.put, List.setIfInBounds_toArray, List.set_cons_zero, List.set_cons_succ]
  refine BigFrame.wpQuiet_want rfl (fun K hK => ?_)
  refine quiet_val (.string r4) (fun w2 hw => rfl) (hK _ ?_)
  clear hK K
  simp only [Act.put, List.setIfInBounds_toArray, List.set_cons_zero, List.set_cons_succ]
  refine wpQuiet_nil ?_
  intro w9 hb9
  have B9 := Lib.hid (B1.out.trans (hb9.mono B1.out.size))
  clear hb9
  go_wp2_with fail
  go_ret
  exact ⟨rfl, B9.out⟩
set_option maxHeartbeats 1000000 in
theorem rtext_no (y m d : Int) (w : World) (HG : Hid (∀ w, Calls Tryd.prog 29 #[.agg #[.int .i64 y, .int .i64 m, .int .i64 d]] w fun e w' => e = .returned (.bool false) ∧ Below w.heap.size w w')) :
    Calls Tryd.prog 24 #[.agg #[.int .i64 y, .int .i64 m, .int .i64 d]] w fun e w' => e = .returned (.string ⟨#[]⟩) ∧ Below w.heap.size w w' := by
  have BA := Lib.hid ((Below.refl w.heap.size w).alloc (Nat.le_refl _) (.cells #[.int .i64 y, .int .i64 m, .int .i64 d] 30))
  go_enter Tryd.func24, Tryd.ntmps24
  go_wp2_with fail
  refine (HG.out _).mono ?_
  rintro e w1 ⟨rfl, hb⟩
  have B1 := Lib.hid (BA.out.trans (hb.mono BA.out.size))
  clear hb BA
  go_wp2_with fail
  go_ret
  exact ⟨rfl, B1.out⟩
theorem hourglassref4_Text.calls (k : Nat) (a0_0 : Int) (a0_1 : Int) (a0_2 : Int) (r : ByteArray) (w : World) (h : hourglassref4_Text.f k a0_0 a0_1 a0_2 = some r) :
    Calls Tryd.prog 24 #[.agg #[.int .i64 a0_0, .int .i64 a0_1, .int .i64 a0_2]] w fun e w' => e = .returned (.string r) ∧ Below w.heap.size w w' := by
  unfold hourglassref4_Text.f at h
  obtain ⟨g, hg, h⟩ := Option.bind_eq_some_iff.mp h
  have HG := Lib.hid (fun w => hourglassref4_Good.calls k a0_0 a0_1 a0_2 g w hg)
  cases g with
  | false =>
    obtain rfl := Option.some.inj h
    exact rtext_no _ _ _ w HG
  | true =>
    rw [if_pos rfl] at h
    by_cases h9 : a0_0 < -9999
    · rw [if_pos h9] at h; cases h
    rw [if_neg h9] at h
    by_cases hy : a0_0 < 0
    · rw [if_pos hy] at h
      obtain ⟨p1, e1, h⟩ := Option.bind_eq_some_iff.mp h
      obtain ⟨p2, e2, h⟩ := Option.bind_eq_some_iff.mp h
      obtain ⟨p3, e3, h⟩ := Option.bind_eq_some_iff.mp h
      by_cases h7 : p1.size ≤ 7
      · rw [if_pos h7] at h
        unfold hourglassref4_Text.t at h
        by_cases hs : (⟨#[45]⟩ ++ p1 : ByteArray).size ≤ 8 ∧ p2.size ≤ 8 ∧ p3.size ≤ 8
        · rw [if_pos hs] at h
          obtain rfl := Option.some.inj h
          exact rtext_neg _ _ _ hy (by omega) p1 p2 p3 (by omega) hs.2.1 hs.2.2 w HG (Lib.hid fun w => hourglassref4_pad.calls k _ _ p1 w e1) (Lib.hid fun w => hourglassref4_pad.calls k _ _ p2 w e2) (Lib.hid fun w => hourglassref4_pad.calls k _ _ p3 w e3)
        · rw [if_neg hs] at h; cases h
      · rw [if_neg h7] at h; cases h
    · rw [if_neg hy] at h
      obtain ⟨p1, e1, h⟩ := Option.bind_eq_some_iff.mp h
      obtain ⟨p2, e2, h⟩ := Option.bind_eq_some_iff.mp h
      obtain ⟨p3, e3, h⟩ := Option.bind_eq_some_iff.mp h
      unfold hourglassref4_Text.t at h
      by_cases hs : p1.size ≤ 8 ∧ p2.size ≤ 8 ∧ p3.size ≤ 8
      · rw [if_pos hs] at h
        obtain rfl := Option.some.inj h
        exact rtext_pos _ _ _ hy p1 p2 p3 hs.1 hs.2.1 hs.2.2 w HG (Lib.hid fun w => hourglassref4_pad.calls k _ _ p1 w e1) (Lib.hid fun w => hourglassref4_pad.calls k _ _ p2 w e2) (Lib.hid fun w => hourglassref4_pad.calls k _ _ p3 w e3)
      · rw [if_neg hs] at h; cases h

end Go.Proofs.YtbgdpkpljkcnfaaDoor.QCivil
