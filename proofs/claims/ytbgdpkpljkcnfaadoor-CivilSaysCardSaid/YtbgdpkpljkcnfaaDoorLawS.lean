/- The plain law of what the document says: any date's day, any day's date, lengths, weekdays, texts. Conditions: each theorem's own. -/
import Derived.Test.YtbgdpkpljkcnfaaDoorRefT
import Derived.Test.YtbgdpkpljkcnfaaDoorAw
import Derived.Test.YtbgdpkpljkcnfaaDoorSaysA
import Derived.Test.YtbgdpkpljkcnfaaDoorSaysB
namespace Go.Proofs.YtbgdpkpljkcnfaaDoor.Cal
open Go.RowKit Go.Proofs.YtbgdpkpljkcnfaaDoor.QCivil Go.Proofs.YtbgdpkpljkcnfaaDoorW.PrintWords
set_option linter.unusedVariables false
set_option linter.unusedSimpArgs false
theorem both_of (k : Nat) (hk : 21000 ≤ k) (n : Int) : ∃ a b c : Int, (civil_Of.f k n = some (a, b, c, 0) ∧ hourglassref4_Of.f k n = some (a, b, c, true)) ∨ (civil_Of.f k n = some (a, b, c, 1) ∧ hourglassref4_Of.f k n = some (a, b, c, false)) := by
  by_cases h : n < -4371587 ∨ 2932897 ≤ n
  · exact ⟨0, 0, 0, .inr ⟨of_no k (by omega) n h, rof_no k (by omega) n h⟩⟩
  · obtain ⟨y, m, d, e, g, dd⟩ := of_yes k (by omega) n (by omega) (by omega)
    obtain ⟨y', m', d', e', g', dd'⟩ := rof_yes k hk n (by omega) (by omega)
    obtain ⟨rfl, rfl, rfl⟩ := days_one g g' (by omega)
    exact ⟨y, m, d, .inl ⟨e, e'⟩⟩
theorem says (y m d n : Int) : hourglasslaw4_CivilSaysA.f 30001 y m d n = some true ∨ hourglasslaw4_CivilSaysB.f 30001 y m d n = some true := by
  obtain ⟨a, b, c, hO⟩ := both_of 30001 (by omega) n
  have L1 := len_f 30000 (by omega) y m
  have L2 := rlen_f 30000 (by omega) y m
  have T1 := text_f 30000 (by omega) y m d
  have T2 := rtext_f 30000 (by omega) y m d
  by_cases g : good y m d
  · left
    unfold hourglasslaw4_CivilSaysA.f hourglasslaw4_own.f
    rw [awake_k _ (by omega), days_f _ (by omega), if_pos g]
    simp only [Option.bind_some]
    rw [rdays_f _ (by omega), if_pos g]
    obtain ⟨g1, g2, _, _⟩ := id g
    rcases hO with ⟨o1, o2⟩ | ⟨o1, o2⟩
    · rw [o1, o2]
      simp only [Option.bind_some]
      rw [if_pos trivial, if_neg (by omega), decide_eq_false (by omega)]
      simp only [hourglasslaw4_CivilSaysA.j0]
      simp [hourglasslaw4_own.f, leap_f, rleap_f, L1, L2, T1, T2, wd_f, rwd_f, g]
    · rw [o1, o2]
      simp only [Option.bind_some]
      rw [if_pos trivial, if_neg (by omega), decide_eq_false (by omega)]
      simp only [hourglasslaw4_CivilSaysA.j0]
      simp [hourglasslaw4_own.f, leap_f, rleap_f, L1, L2, T1, T2, wd_f, rwd_f, g]
  · by_cases hy : y < -100000 ∨ y > 100000
    · left
      unfold hourglasslaw4_CivilSaysA.f hourglasslaw4_own.f
      rw [awake_k _ (by omega), days_f _ (by omega), if_neg g]
      simp only [Option.bind_some]
      rw [rdays_f _ (by omega), if_neg g]
      rcases hO with ⟨o1, o2⟩ | ⟨o1, o2⟩
      · rw [o1, o2]
        simp only [Option.bind_some]
        rw [if_pos trivial]
        by_cases h1 : y < -100000
        · rw [if_pos h1]; simp only [hourglasslaw4_CivilSaysA.j0]; rfl
        · rw [if_neg h1, decide_eq_true (by omega)]; simp only [hourglasslaw4_CivilSaysA.j0]; rfl
      · rw [o1, o2]
        simp only [Option.bind_some]
        rw [if_pos trivial]
        by_cases h1 : y < -100000
        · rw [if_pos h1]; simp only [hourglasslaw4_CivilSaysA.j0]; rfl
        · rw [if_neg h1, decide_eq_true (by omega)]; simp only [hourglasslaw4_CivilSaysA.j0]; rfl
    · right
      unfold hourglasslaw4_CivilSaysB.f hourglasslaw4_own.f
      rw [awake_k _ (by omega), days_f _ (by omega), if_neg g]
      simp only [Option.bind_some]
      rw [rdays_f _ (by omega), if_neg g]
      rcases hO with ⟨o1, o2⟩ | ⟨o1, o2⟩
      · rw [o1, o2]
        simp only [Option.bind_some]
        rw [if_pos trivial, if_neg (by omega), decide_eq_false (by omega)]
        simp only [hourglasslaw4_CivilSaysB.j0]
        simp [hourglasslaw4_own.f, leap_f, rleap_f, L1, L2, T1, T2, wd_f, rwd_f, g]
      · rw [o1, o2]
        simp only [Option.bind_some]
        rw [if_pos trivial, if_neg (by omega), decide_eq_false (by omega)]
        simp only [hourglasslaw4_CivilSaysB.j0]
        simp [hourglasslaw4_own.f, leap_f, rleap_f, L1, L2, T1, T2, wd_f, rwd_f, g]
end Go.Proofs.YtbgdpkpljkcnfaaDoor.Cal
