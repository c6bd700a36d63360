/- The plain laws of years, of the next day, of months. Conditions: each theorem's own. -/
import Derived.Test.YtbgdpkpljkcnfaaDoorCal
import Derived.Test.YtbgdpkpljkcnfaaDoorQCivilx7
import Derived.Test.YtbgdpkpljkcnfaaDoorQCivilx8
import Derived.Test.YtbgdpkpljkcnfaaDoorQCivilx10
import Derived.OpenShut
namespace Go.Proofs.YtbgdpkpljkcnfaaDoor.Cal
open Go.RowKit Go.Proofs.YtbgdpkpljkcnfaaDoor.QCivil Go.Proofs.YtbgdpkpljkcnfaaDoorW.PrintWords
set_option linter.unusedVariables false
set_option linter.unusedSimpArgs false

theorem awake_40 : hourglasslaw4_awake.f 40 = some true := by kernel_rfl
theorem awake_k (k : Nat) (hk : 40 ≤ k) : hourglasslaw4_awake.f k = some true := at_rounds hourglasslaw4_awake.mono hk awake_40

theorem wd_f (n : Int) : civil_Weekday.f n = some ((n + 3) % 7) := by
  have a := tm n 7
  unfold civil_Weekday.f
  congr 1
  by_cases h : 0 ≤ n
  · rw [a.1 h, w64 (n % 7 + 3) (by omega) (by omega), w64 _ (by omega) (by omega), (tm _ 7).1 (by omega)]; omega
  · rw [a.2 (by omega), w64 (-(-n % 7) + 3) (by omega) (by omega), w64 _ (by omega) (by omega), (tm _ 7).1 (by omega)]; omega

theorem good_first (y : Int) (h0 : -9999 ≤ y) (h1 : y ≤ 9999) : good y 1 1 := ⟨h0, h1, by omega, by have := (len_bd y 1).1 (by omega); omega⟩
theorem lp_400 (y : Int) : st (y + 400) = st y + 146097 := by unfold st; omega
theorem years_l (y a b c d e g n : Int) : ∀ (j k : Nat) (m : Int), j + 3 ≤ k → 1 ≤ m → m ≤ 13 → 13 - m = j → n = cum y 13 →
    (b = 0 ∧ d = 0 ∧ g = 0 ∧ wrap64 (c - a) = n ∧ wrap64 (e - a) = 146097 ∧ (a + 3) % 7 = (e + 3) % 7) →
    hourglasslaw4_CivilYears.l0 k y a b c d e g n (cum y m) m = some true
  | j, k, m, hk, h1, h2, h3, hn, hh => by
    obtain ⟨k, rfl⟩ : ∃ n, k = n + 1 := ⟨k - 1, by omega⟩
    have cb := cum_bd y m h1 h2
    simp only [hourglasslaw4_CivilYears.l0]
    by_cases h : m ≤ 12
    · obtain ⟨j, rfl⟩ : ∃ i, j = i + 1 := ⟨j - 1, by omega⟩
      have s := cum_succ y m h1
      have l := (len_bd y m).1 ⟨h1, h⟩
      have ih := years_l y a b c d e g n j k (m + 1) (by omega) (by omega) (by omega) (by omega) hn hh
      rw [if_pos h, len_f k (by omega)]
      simp only [Option.bind_some]
      rw [w64 (cum y m + len y m) (by omega) (by omega), w64 _ (by omega) (by omega), ← s]
      exact ih
    · obtain rfl : m = 13 := by omega
      obtain ⟨e1, e2, e3, e4, e5, e6⟩ := hh
      rw [if_neg h, if_pos e1, if_pos e2, if_pos e3, if_pos e4, if_pos hn.symm, if_pos e5, wd_f, wd_f]
      simp only [Option.bind_some]
      rw [e6]
      simp
theorem years : hourglasslaw4_CivilYears.Pure := by
  intro y hy
  refine ⟨102, ?_⟩
  unfold hourglasslaw4_CivilYears.f
  rw [awake_k _ (by omega)]
  simp only [Option.bind_some]
  rw [if_pos trivial]
  by_cases h1 : y < -9999
  · rw [if_pos h1]; simp only [hourglasslaw4_CivilYears.j0]; rfl
  · rw [if_neg h1]
    by_cases h2 : y > 9598
    · rw [decide_eq_true h2]; simp only [hourglasslaw4_CivilYears.j0]; rfl
    · rw [decide_eq_false h2]
      simp only [hourglasslaw4_CivilYears.j0]
      rw [if_neg (by decide), w64 (y + 1) (by omega) (by omega), w64 (y + 400) (by omega) (by omega), days_f _ (by omega), days_f _ (by omega), days_f _ (by omega),
        if_pos (good_first y (by omega) (by omega)), if_pos (good_first _ (by omega) (by omega)), if_pos (good_first _ (by omega) (by omega)), leap_f]
      simp only [Option.bind_some]
      have s1 := st_succ y
      have s4 := lp_400 y
      have sb : -4000000 ≤ st y ∧ st y ≤ 4000000 := by unfold st; omega
      have c13 := cum_13 y
      have key : ∀ n, n = 365 + lp y → hourglasslaw4_CivilYears.j1 101 y (days y 1 1) 0 (days (y + 1) 1 1) 0 (days (y + 400) 1 1) 0 n = some true := by
        intro n hn
        have lpp := lp_01 y
        simp only [hourglasslaw4_CivilYears.j1]
        have := years_l y (days y 1 1) 0 (days (y + 1) 1 1) 0 (days (y + 400) 1 1) 0 n 12 100 1 (by omega) (by omega) (by omega) (by omega) (by omega)
        rw [cum_one] at this
        refine this ⟨rfl, rfl, rfl, ?_, ?_, ?_⟩
        · unfold days; rw [cum_one, cum_one]; refine (w64 _ (by omega) (by omega)).trans ?_; omega
        · unfold days; rw [cum_one, cum_one]; refine (w64 _ (by omega) (by omega)).trans ?_; omega
        · unfold days; rw [cum_one, cum_one]; omega
      rcases lp_01 y with h | h
      · rw [decide_eq_false (by omega), if_neg (by decide)]
        exact key 365 (by omega)
      · rw [decide_eq_true h, if_pos rfl]
        exact key 366 (by omega)

theorem next : hourglasslaw4_CivilNext.Pure := by
  intro n hn
  obtain ⟨b0, b1⟩ := bounds_i64 hn
  refine ⟨30004, ?_⟩
  unfold hourglasslaw4_CivilNext.f
  rw [awake_k _ (by omega)]
  simp only [Option.bind_some]
  rw [if_pos trivial]
  by_cases h0 : n < -4371587 ∨ 2932897 ≤ n
  · rw [of_no _ (by omega) n h0]
    simp only [Option.bind_some]
    rw [if_neg (by decide)]
    simp only [hourglasslaw4_CivilNext.j0]; rfl
  · obtain ⟨y, m, d, e, g, dd⟩ := of_yes 30004 (by omega) n (by omega) (by omega)
    rw [e]
    simp only [Option.bind_some]
    rw [if_pos trivial]
    by_cases h1 : n > 2932895
    · rw [decide_eq_true h1]; simp only [hourglasslaw4_CivilNext.j0]; rfl
    · rw [decide_eq_false h1]
      simp only [hourglasslaw4_CivilNext.j0]
      obtain ⟨y', m', d', e', g', dd'⟩ := of_yes 30003 (by omega) (n + 1) (by omega) (by omega)
      have hm := good_m g
      obtain ⟨g1, g2, g3, g4⟩ := id g
      have lb := (len_bd y m).1 hm
      rw [if_neg (by decide), w64 (n + 1) (by omega) (by omega), e', len_f _ (by omega)]
      simp only [Option.bind_some]
      rw [w64 (d + 1) (by omega) (by omega)]
      have fin : ∀ (a b c : Int), good a b c → days a b c = n + 1 → hourglasslaw4_CivilNext.j2 30001 n 0 y' m' d' a b c = some true := by
        intro a b c hg hd
        obtain ⟨rfl, rfl, rfl⟩ := days_one g' hg (by omega)
        simp only [hourglasslaw4_CivilNext.j2]
        rw [if_pos trivial, if_pos (by simp), w64 (n + 1) (by omega) (by omega), wd_f, wd_f]
        simp only [Option.bind_some]
        rw [w64 _ (by omega) (by omega), (tm _ 7).1 (by omega)]
        congr 1
        apply beq_iff_eq.mpr
        omega
      have s := cum_succ y m hm.1
      by_cases h2 : d + 1 > len y m
      · rw [if_pos h2]
        simp only [hourglasslaw4_CivilNext.j1]
        rw [w64 (m + 1) (by omega) (by omega)]
        by_cases h3 : m + 1 > 12
        · obtain rfl : m = 12 := by omega
          have c13 := cum_13 y
          have s1 := st_succ y
          have sp := days_span g
          have hy : y ≤ 9998 := by
            by_cases hh : y ≤ 9998
            · exact hh
            · obtain rfl : y = 9999 := by omega
              unfold days at dd
              rw [show (9999 : Int) + 1 = 10000 by rfl, st_hi] at s1
              rw [show (12 : Int) + 1 = 13 by rfl] at s
              omega
          rw [if_pos h3, w64 (y + 1) (by omega) (by omega)]
          refine fin _ _ _ (good_first _ (by omega) (by omega)) ?_
          unfold days at dd ⊢
          rw [cum_one]
          rw [show (12 : Int) + 1 = 13 by rfl] at s
          omega
        · rw [if_neg h3]
          refine fin _ _ _ ⟨g1, g2, by omega, by have := (len_bd y (m + 1)).1 (by omega); omega⟩ ?_
          unfold days at dd ⊢
          omega
      · rw [if_neg h2]
        simp only [hourglasslaw4_CivilNext.j1]
        rw [if_neg (by omega)]
        refine fin _ _ _ ⟨g1, g2, by omega, by omega⟩ ?_
        unfold days at dd ⊢
        omega

theorem months : hourglasslaw4_CivilMonths.Pure := by
  intro y m hy hm
  refine ⟨102, ?_⟩
  unfold hourglasslaw4_CivilMonths.f
  rw [awake_k _ (by omega)]
  simp only [Option.bind_some]
  rw [if_pos trivial]
  have out : hourglasslaw4_CivilMonths.j0 102 y m true = some true := rfl
  by_cases h1 : y < -9999
  · rw [if_pos h1]; exact out
  · rw [if_neg h1]
    by_cases h2 : y > 9998
    · rw [if_pos h2]; exact out
    · rw [if_neg h2]
      by_cases h3 : m < 1
      · rw [if_pos h3]; exact out
      · rw [if_neg h3]
        by_cases h4 : m > 12
        · rw [decide_eq_true h4]; exact out
        · rw [decide_eq_false h4]
          simp only [hourglasslaw4_CivilMonths.j0]
          have lb := (len_bd y m).1 (by omega)
          have ga : good y m 1 := ⟨by omega, by omega, by omega, by omega⟩
          have gb : good y m (len y m) := ⟨by omega, by omega, by omega, by omega⟩
          have sb : -4000000 ≤ st y ∧ st y ≤ 4000000 := by unfold st; omega
          have cb := cum_bd y m (by omega) (by omega)
          rw [if_neg (by decide), len_f _ (by omega)]
          simp only [Option.bind_some]
          rw [w64 (len y m + 1) (by omega) (by omega), days_f _ (by omega), days_f _ (by omega), days_f _ (by omega), days_f _ (by omega), if_pos ga, if_pos gb,
            if_neg (fun h => by have := h.2.2.2; omega), if_neg (fun h => by have := h.2.2.1; omega)]
          simp only [Option.bind_some]
          rw [if_pos (by omega), if_pos (by omega), if_pos trivial, if_pos trivial, w64 (len y m - 1) (by omega) (by omega), if_pos (by unfold days; rw [w64 _ (by omega) (by omega)]; omega), if_pos trivial]
          rfl
end Go.Proofs.YtbgdpkpljkcnfaaDoor.Cal
