/- sess's own first example answers true. No condition. -/
import Derived.Test.YtmnlncigaamdeaaCli
namespace Go.Proofs.Ytmnlncigaamdeaa
open Go.RowKit Go.Proofs.Ytmnlncigaamdeaa.Sp
set_option linter.unusedVariables false
set_option linter.unusedSimpArgs false
theorem wf1 : (Lit.int .i64 1).wf = true := by decide
set_option maxHeartbeats 1000000 in
theorem awake_calls (w : World) : Calls Try.prog 7 #[] w fun e w' => e = .returned (.bool true) ∧ Below w.heap.size w w' := by
  go_enter Try.func7, Try.ntmps7
  go_wp2_with fail
  refine (new_calls 3 (by omega) w w [] (Holds.nil w)).mono ?_
  rintro e w1 ⟨g, rfl, h, hI, hH⟩
  have HI := Lib.hid hI; have HH := Lib.hid hH
  clear hI hH
  go_wp2_with fail
  refine (open_calls g _ h [] w w1 (by decide) (by decide) HI.out HH.out).mono ?_
  rintro e w2 ⟨he, h2, hI, hH⟩
  have HI2 := Lib.hid hI; have HH2 := Lib.hid hH
  clear hI hH HI HH
  have q : opened ⟨3, 0, []⟩ = ((1, 0), ⟨3, 1, [(1, z0)]⟩) := rfl
  rw [q] at he HI2
  subst he
  clear q
  go_wp2_with fail
  refine (ask_calls g _ h2 [] 1 1 ⟨#[120]⟩ w w2 wf1 HI2.out HH2.out).mono ?_
  rintro e w3 ⟨he, h3, hI, hH⟩
  have HI3 := Lib.hid hI; have HH3 := Lib.hid hH
  clear hI hH HI2 HH2
  have q : ask ⟨3, 1, [(1, z0)]⟩ 1 1 ⟨#[120]⟩ = ((0, es, 0), ⟨3, 1, [(1, ⟨1, ⟨#[120]⟩, es, true⟩)]⟩) := rfl
  rw [q] at he HI3
  simp only [ans] at he
  subst he
  clear q
  go_wp2_with fail
  refine (ask_calls g _ h3 [] 1 1 ⟨#[120]⟩ w w3 wf1 HI3.out HH3.out).mono ?_
  rintro e w4 ⟨he, h4, hI, hH⟩
  have HI4 := Lib.hid hI; have HH4 := Lib.hid hH
  clear hI hH HI3 HH3
  have q : ask ⟨3, 1, [(1, ⟨1, ⟨#[120]⟩, es, true⟩)]⟩ 1 1 ⟨#[120]⟩ = ((1, es, 0), ⟨3, 1, [(1, ⟨1, ⟨#[120]⟩, es, true⟩)]⟩) := rfl
  rw [q] at he HI4
  simp only [ans] at he
  subst he
  clear q
  go_wp2_with fail
  refine (answer_calls g _ h4 [] 1 1 ⟨#[121]⟩ w w4 wf1 HI4.out HH4.out).mono ?_
  rintro e w5 ⟨he, h5, hI, hH⟩
  have HI5 := Lib.hid hI; have HH5 := Lib.hid hH
  clear hI hH HI4 HH4
  have q : answer ⟨3, 1, [(1, ⟨1, ⟨#[120]⟩, es, true⟩)]⟩ 1 1 ⟨#[121]⟩ = (0, ⟨3, 1, [(1, ⟨1, ⟨#[120]⟩, ⟨#[121]⟩, false⟩)]⟩) := rfl
  rw [q] at he HI5
  subst he
  clear q
  go_wp2_with fail
  refine (ask_calls g _ h5 [] 1 1 ⟨#[120]⟩ w w5 wf1 HI5.out HH5.out).mono ?_
  rintro e w6 ⟨he, h6, hI, hH⟩
  have HH6 := Lib.hid hH
  clear hI hH HI5 HH5
  have q : ask ⟨3, 1, [(1, ⟨1, ⟨#[120]⟩, ⟨#[121]⟩, false⟩)]⟩ 1 1 ⟨#[120]⟩ = ((2, ⟨#[121]⟩, 0), ⟨3, 1, [(1, ⟨1, ⟨#[120]⟩, ⟨#[121]⟩, false⟩)]⟩) := rfl
  rw [q] at he
  simp only [ans] at he
  subst he
  clear q
  go_wp2_with fail
  go_ret
  exact ⟨rfl, HH6.out.below⟩
end Go.Proofs.Ytmnlncigaamdeaa
