/- What stamp's Text writes of 1 of node 2; what awake answers. No condition. -/
import Derived.Test.YtdmicehmmmpjcaaDoorCmp
namespace Go.Proofs.YtdmicehmmmpjcaaDoor
open Go.RowKit
set_option linter.unusedVariables false
set_option linter.unusedSimpArgs false

theorem dec1 : Lib.decDigits 1 = [49] := by rw [Lib.decDigits]; rfl
theorem dec2 : Lib.decDigits 2 = [50] := by rw [Lib.decDigits]; rfl
theorem text_small (w : World) : Calls Tryd.prog 15 #[.agg #[.int .i64 1, .int .u8 2]] w fun e w' => e = .returned (.string ⟨#[49, 46, 50]⟩) ∧ Below w.heap.size w w' := by
  have HI := Lib.hid (fun w => show Calls Tryd.prog 25 #[.int .i64 1, .int .i64 10] w fun e w' => e = .returned (.string ⟨#[49]⟩) ∧ w' = w from by
    have h := Tryd.strconv_FormatInt_10_small 1 (by decide) w
    rw [dec1] at h
    exact h)
  have HS := Lib.hid (fun w => show Calls Tryd.prog 26 #[.int .i64 2] w fun e w' => e = .returned (.string ⟨#[50]⟩) ∧ w' = w from by
    have h := Tryd.strconv_Itoa_small 2 (by decide) w
    rw [dec2] at h
    exact h)
  have s1 : ∀ w : World, (Op.stringOp .add ⟨#[49]⟩ ⟨#[46]⟩).run Tryd.prog w = .ok (.string ⟨#[49, 46]⟩) w := fun w => run_string_add_lists w [49] [46] (by decide) (by decide)
  have s2 : ∀ w : World, (Op.stringOp .add ⟨#[49, 46]⟩ ⟨#[50]⟩).run Tryd.prog w = .ok (.string ⟨#[49, 46, 50]⟩) w := fun w => run_string_add_lists w [49, 46] [50] (by decide) (by decide)
  go_enter Tryd.func15, Tryd.ntmps15
  go_wp2_with fail
  refine still_tail 9 (by kernel_rfl) (by kernel_rfl) ?_
  simp only [List.take_succ_cons, List.take_zero, List.drop_succ_cons, List.drop_zero]
  repeat (first | still_step | still_call (HI.out _) | still_call (HS.out _))
  refine wpStill_nil ?_
  go_wp2_with fail
  go_ret
  exact ⟨rfl, ((Below.refl _ _).alloc (Nat.le_refl _) _).drew⟩

theorem awake_calls (w : World) : Calls Tryd.prog 8 #[] w fun e w' => e = .returned (.bool true) ∧ Below w.heap.size w w' := by
  have HT := Lib.hid text_small
  have HP := Lib.hid (pack_yes 1 2 rfl (by decide) (by decide))
  have HC := Lib.hid (cmp_calls 1 2 1 3)
  go_enter Tryd.func8, Tryd.ntmps8
  go_wp2_with fail
  refine (HP.out _).mono ?_
  rintro e w1 ⟨rfl, hb1⟩
  have B1 := Lib.hid hb1
  clear hb1
  go_wp2_with fail
  refine (HT.out _).mono ?_
  rintro e w2 ⟨rfl, hb2⟩
  have B2 := Lib.hid (B1.out.trans (hb2.mono B1.out.size))
  clear hb2
  go_wp2_with fail
  refine (HC.out _).mono ?_
  rintro e w3 ⟨rfl, hb3⟩
  have B3 := Lib.hid (B2.out.trans (hb3.mono B2.out.size))
  clear hb3
  go_wp2_with fail
  go_ret
  exact ⟨rfl, B3.out⟩
end Go.Proofs.YtdmicehmmmpjcaaDoor
