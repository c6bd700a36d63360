/- The plain laws of dates in order, and of days and dates and back. Conditions: each theorem's own. -/
import Derived.Test.YtbgdpkpljkcnfaaDoorPar
import Derived.Test.YtbgdpkpljkcnfaaDoorQCivilx9
import Derived.Test.YtbgdpkpljkcnfaaDoorQCivilx15
namespace Go.Proofs.YtbgdpkpljkcnfaaDoor.Cal
open Go.RowKit Go.Proofs.YtbgdpkpljkcnfaaDoor.QCivil Go.Proofs.YtbgdpkpljkcnfaaDoorW.PrintWords
set_option linter.unusedVariables false
set_option linter.unusedSimpArgs false

theorem of_any (k : Nat) (hk : 20100 ≤ k) (n : Int) : (∃ y m d, civil_Of.f k n = some (y, m, d, 0) ∧ good y m d ∧ days y m d = n) ∨ civil_Of.f k n = some (0, 0, 0, 1) := by
  by_cases h : n < -4371587 ∨ 2932897 ≤ n
  · exact .inr (of_no k (by omega) n h)
  · exact .inl (of_yes k hk n (by omega) (by omega))
theorem days_less {y m d y' m' d' : Int} (g : good y m d) (g' : good y' m' d') : (days y m d < days y' m' d') ↔ (y < y' ∨ y = y' ∧ (m < m' ∨ m = m' ∧ d < d')) := by
  have hm := good_m g
  have hm' := good_m g'
  have sp := days_span g
  have sp' := days_span g'
  obtain ⟨a1, a2, a3, a4⟩ := g
  obtain ⟨b1, b2, b3, b4⟩ := g'
  by_cases hy : y < y'
  · have := st_mono (y + 1) y' (by omega); omega
  · by_cases hy2 : y' < y
    · have := st_mono (y' + 1) y (by omega); omega
    · obtain rfl : y = y' := by omega
      have c1 := cum_succ y m hm.1
      have c2 := cum_succ y m' hm'.1
      unfold days
      by_cases h1 : m < m'
      · have := cum_mono y (m + 1) m' (by omega) (by omega); omega
      · by_cases h2 : m' < m
        · have := cum_mono y (m' + 1) m (by omega) (by omega); omega
        · obtain rfl : m = m' := by omega
          omega
theorem order : hourglasslaw4_CivilOrder.Pure := by
  intro a b ha hb
  refine ⟨30003, ?_⟩
  unfold hourglasslaw4_CivilOrder.f
  rw [awake_k _ (by omega)]
  simp only [Option.bind_some]
  rw [if_pos trivial]
  have out : ∀ x1 x2 x3 y1 y2 y3, hourglasslaw4_CivilOrder.j0 30003 a b true x1 x2 x3 y1 y2 y3 = some true := fun _ _ _ _ _ _ => rfl
  rcases of_any 30003 (by omega) a with ⟨y, m, d, e, g, dd⟩ | e
  · rcases of_any 30003 (by omega) b with ⟨y', m', d', e', g', dd'⟩ | e'
    · rw [e, e']
      simp only [Option.bind_some]
      rw [if_pos trivial, show ((0 : Int) != 0) = false from rfl]
      have fin : ∀ less : Bool, less = decide (a < b) → hourglasslaw4_CivilOrder.j1 30002 a b less y m d y' m' d' = some true := by
        intro less hl
        simp only [hourglasslaw4_CivilOrder.j1]
        rw [hl, if_pos (by simp)]
        by_cases h1 : y < 0
        · rw [if_pos h1]
        · rw [if_neg h1]
          by_cases h2 : y' < 0
          · rw [if_pos h2]
          · rw [if_neg h2, text_f _ (by omega), text_f _ (by omega), if_pos g, if_pos g']
            simp only [Option.bind_some]
            rw [show (ByteArray.toList ⟨(txl y m d).toArray⟩) = txl y m d by simp, show (ByteArray.toList ⟨(txl y' m' d').toArray⟩) = txl y' m' d' by simp,
              less_txl y m d y' m' d' g g' (by omega) (by omega), dd, dd']
            simp
      have L := days_less g g'
      rw [dd, dd'] at L
      simp only [hourglasslaw4_CivilOrder.j0]
      rw [if_neg (by decide)]
      by_cases c1 : y < y'
      · rw [if_pos c1]; exact fin _ (decide_eq_true (L.mpr (by omega))).symm
      · rw [if_neg c1]
        by_cases c2 : y = y'
        · rw [if_pos c2]
          by_cases c3 : m < m'
          · rw [if_pos c3]; exact fin _ (decide_eq_true (L.mpr (by omega))).symm
          · rw [if_neg c3]
            by_cases c4 : m = m'
            · rw [if_pos c4]; exact fin _ (decide_eq_decide.mpr (by omega))
            · rw [if_neg c4]; exact fin _ (decide_eq_false (by omega)).symm
        · rw [if_neg c2]; exact fin _ (decide_eq_false (by omega)).symm
    · rw [e, e']
      simp only [Option.bind_some]
      rw [if_pos trivial, show ((1 : Int) != 0) = true from rfl]
      exact out _ _ _ _ _ _
  · rw [e]
    simp only [Option.bind_some]
    rcases of_any 30003 (by omega) b with ⟨y', m', d', e', g', dd'⟩ | e'
    · rw [e']
      simp only [Option.bind_some]
      rw [if_neg (by decide)]
      exact out _ _ _ _ _ _
    · rw [e']
      simp only [Option.bind_some]
      rw [if_neg (by decide)]
      exact out _ _ _ _ _ _
theorem back_j1 (n : Int) : hourglasslaw4_CivilBack.j1 30001 n = some true := by
  simp only [hourglasslaw4_CivilBack.j1]
  rcases of_any 30000 (by omega) n with ⟨y, m, d, e, g, dd⟩ | e
  · rw [e]
    simp only [Option.bind_some]
    rw [if_pos trivial, days_f _ (by omega), if_pos g]
    simp only [Option.bind_some]
    rw [if_pos trivial, dd]
    simp
  · rw [e]
    rfl
theorem back (y m d n : Int) : hourglasslaw4_CivilBack.f 30002 y m d n = some true := by
  unfold hourglasslaw4_CivilBack.f
  rw [awake_k _ (by omega)]
  simp only [Option.bind_some]
  rw [if_pos trivial, days_f _ (by omega)]
  simp only [Option.bind_some]
  have J1 : hourglasslaw4_CivilBack.j1 30002 n = some true := hourglasslaw4_CivilBack.mono_l 30001 |>.1 n true (back_j1 n)
  by_cases g : good y m d
  · rw [if_pos g, of_is _ (by omega) g, text_f _ (by omega), if_pos g]
    simp only [Option.bind_some]
    rw [if_pos trivial, parse_is _ (by omega) y m d g]
    simp only [Option.bind_some]
    rw [if_pos trivial, if_pos trivial, if_neg (by simp)]
    simp only [beq_self_eq_true, Bool.not_true, Bool.false_or, hourglasslaw4_CivilBack.j0]
    rw [if_neg (by decide)]
    exact back_j1 n
  · rw [if_neg g]
    simp only []
    rw [if_neg (by decide)]
    exact J1
end Go.Proofs.YtbgdpkpljkcnfaaDoor.Cal
