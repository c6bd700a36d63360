/- Dates in plain numbers, their texts, how they are read again. Conditions: each theorem's own. -/
import Derived.Test.YthelnkmjhchmnaaDoorQLeapx3
import Derived.Test.YthelnkmjhchmnaaDoorQLeapx4
import Derived.Test.YthelnkmjhchmnaaDoorQLeapx5
import Derived.Test.YthelnkmjhchmnaaDoorQLeapx9
import Derived.Test.YthelnkmjhchmnaaDoorQLeapx12
import Derived.Test.YthelnkmjhchmnaaDoorQLeapx6
import Derived.Test.YthelnkmjhchmnaaDoorQLeapx7
import Derived.Test.YthelnkmjhchmnaaDoorQLeapx8
namespace Go.Proofs.YthelnkmjhchmnaaDoor.Cal
open Go.RowKit Go.Proofs.YthelnkmjhchmnaaDoor.QLeap
set_option linter.unusedVariables false
set_option linter.unusedSimpArgs false

theorem tm (a c : Int) : (0 ≤ a → Int.tmod a c = a % c) ∧ (a < 0 → Int.tmod a c = -((-a) % c)) := by
  refine ⟨fun h => Int.tmod_eq_emod_of_nonneg h, fun h => ?_⟩
  have h1 : Int.tmod (-(-a)) c = -(Int.tmod (-a) c) := Int.neg_tmod _ _
  rw [Int.neg_neg] at h1
  rw [h1, Int.tmod_eq_emod_of_nonneg (by omega)]
theorem td (a c : Int) : (0 ≤ a → Int.tdiv a c = a / c) ∧ (a < 0 → Int.tdiv a c = -((-a) / c)) := by
  refine ⟨fun h => Int.tdiv_eq_ediv_of_nonneg h, fun h => ?_⟩
  have h1 : Int.tdiv (-(-a)) c = -(Int.tdiv (-a) c) := Int.neg_tdiv _ _
  rw [Int.neg_neg] at h1
  rw [h1, Int.tdiv_eq_ediv_of_nonneg (by omega)]

def lp (y : Int) : Int := if y % 4 = 0 ∧ (¬ y % 100 = 0 ∨ y % 400 = 0) then 1 else 0
theorem lp_01 (y : Int) : lp y = 0 ∨ lp y = 1 := by unfold lp; split <;> simp
theorem tz (y : Int) : (Int.tmod y 4 = 0 ↔ y % 4 = 0) ∧ (Int.tmod y 100 = 0 ↔ y % 100 = 0) ∧ (Int.tmod y 400 = 0 ↔ y % 400 = 0) := by
  have a := tm y 4
  have b := tm y 100
  have c := tm y 400
  by_cases h : 0 ≤ y
  · rw [a.1 h, b.1 h, c.1 h]; exact ⟨Iff.rfl, Iff.rfl, Iff.rfl⟩
  · rw [a.2 (by omega), b.2 (by omega), c.2 (by omega)]; omega
theorem leap_f (y : Int) : civil_Leap.f y = some (decide (lp y = 1)) := by
  obtain ⟨a, b, c⟩ := tz y
  unfold civil_Leap.f lp
  by_cases h1 : Int.tmod y 4 = 0
  · rw [if_pos h1]
    by_cases h2 : Int.tmod y 100 = 0
    · rw [if_pos h2]
      by_cases h3 : Int.tmod y 400 = 0
      · rw [if_pos ⟨a.mp h1, .inr (c.mp h3)⟩, beq_iff_eq.mpr h3]; rfl
      · rw [if_neg (fun h => h.2.elim (fun z => z (b.mp h2)) (fun z => h3 (c.mpr z))), beq_eq_false_iff_ne.mpr h3]; rfl
    · rw [if_neg h2, if_pos ⟨a.mp h1, .inl (fun z => h2 (b.mpr z))⟩]; rfl
  · rw [if_neg h1, if_neg (fun h => h1 (a.mpr h.1))]; rfl


def len (y m : Int) : Int := if m = 2 then 28 + lp y else if m = 4 ∨ m = 6 ∨ m = 9 ∨ m = 11 then 30 else if m = 1 ∨ m = 3 ∨ m = 5 ∨ m = 7 ∨ m = 8 ∨ m = 10 ∨ m = 12 then 31 else 0
theorem len_f (k : Nat) (hk : 2 ≤ k) (y m : Int) : civil_Length.f k y m = some (len y m) := by
  obtain ⟨k, rfl⟩ : ∃ n, k = n + 2 := ⟨k - 2, by omega⟩
  unfold civil_Length.f len
  by_cases h2 : m = 2
  · rw [if_pos h2, if_pos h2, leap_f]
    rcases lp_01 y with h | h <;> simp [h]
  rw [if_neg h2, if_neg h2]
  simp only [civil_Length.j0, civil_Length.j1]
  by_cases h : m = 4
  · subst h; rfl
  by_cases h : m = 6
  · subst h; rfl
  by_cases h : m = 9
  · subst h; rfl
  by_cases h : m = 11
  · subst h; rfl
  by_cases h : m = 1
  · subst h; rfl
  by_cases h : m = 3
  · subst h; rfl
  by_cases h : m = 5
  · subst h; rfl
  by_cases h : m = 7
  · subst h; rfl
  by_cases h : m = 8
  · subst h; rfl
  by_cases h : m = 10
  · subst h; rfl
  by_cases h : m = 12
  · subst h; rfl
  simp [*]
theorem len_bd (y m : Int) : (1 ≤ m ∧ m ≤ 12 → 28 ≤ len y m ∧ len y m ≤ 31) ∧ (¬ (1 ≤ m ∧ m ≤ 12) → len y m = 0) := by
  have := lp_01 y
  unfold len
  refine ⟨fun h => ?_, fun h => ?_⟩
  · by_cases h2 : m = 2
    · rw [if_pos h2]; omega
    · rw [if_neg h2]
      by_cases h3 : m = 4 ∨ m = 6 ∨ m = 9 ∨ m = 11
      · rw [if_pos h3]; omega
      · rw [if_neg h3, if_pos (by omega)]; omega
  · rw [if_neg (by omega), if_neg (by omega), if_neg (by omega)]

def st (y : Int) : Int := 365 * y + (y - 1) / 4 - (y - 1) / 100 + (y - 1) / 400 + 1
theorem st_succ (y : Int) : st (y + 1) = st y + 365 + lp y := by
  unfold st lp
  rw [show y + 1 - 1 = y by omega]
  split <;> omega
theorem w64 (x : Int) (h0 : -9223372036854775808 ≤ x) (h1 : x ≤ 9223372036854775807) : wrap64 x = x := by unfold wrap64; omega
theorem dn (a c : Int) (h0 : -9223372036854775807 ≤ a) (h1 : a ≤ 9223372036854775806) (hc : c = 4 ∨ c = 100 ∨ c = 400 ∨ c = 365 ∨ c = 366) : civil_down.f a c = some (a / c) := by
  unfold civil_down.f
  rw [if_neg (by omega)]
  have d := td a c
  have m := tm a c
  by_cases h : 0 ≤ a
  · rw [d.1 h, m.1 h, if_neg (by rcases hc with rfl | rfl | rfl | rfl | rfl <;> omega), w64 _ (by rcases hc with rfl | rfl | rfl | rfl | rfl <;> omega) (by rcases hc with rfl | rfl | rfl | rfl | rfl <;> omega)]
  · rw [d.2 (by omega), m.2 (by omega), w64 (-(-a / c)) (by rcases hc with rfl | rfl | rfl | rfl | rfl <;> omega) (by rcases hc with rfl | rfl | rfl | rfl | rfl <;> omega)]
    by_cases hz : -(-a % c) < 0
    · rw [if_pos hz, w64 _ (by rcases hc with rfl | rfl | rfl | rfl | rfl <;> omega) (by rcases hc with rfl | rfl | rfl | rfl | rfl <;> omega)]
      congr 1
      rcases hc with rfl | rfl | rfl | rfl | rfl <;> omega
    · rw [if_neg hz]
      congr 1
      rcases hc with rfl | rfl | rfl | rfl | rfl <;> omega
theorem start_f (y : Int) (h0 : -1000000000000 ≤ y) (h1 : y ≤ 1000000000000) : civil_start.f y = some (st y) := by
  unfold civil_start.f st
  rw [w64 (y - 1) (by omega) (by omega), dn _ 4 (by omega) (by omega) (by omega), dn _ 100 (by omega) (by omega) (by omega), dn _ 400 (by omega) (by omega) (by omega)]
  simp only [Option.bind_some]
  rw [w64 (365 * y) (by omega) (by omega), w64 (365 * y + _) (by omega) (by omega), w64 (365 * y + _ - _) (by omega) (by omega), w64 (365 * y + _ - _ + _) (by omega) (by omega), w64 (365 * y + _ - _ + _ + _) (by omega) (by omega)]
theorem st_mono (y z : Int) (h : y ≤ z) : st y + 365 * (z - y) ≤ st z := by unfold st; omega

/-! A month's first day in its year. -/
def cumN (y : Int) : Nat → Int
  | 0 => 0
  | k + 1 => cumN y k + len y (k + 1)
def cum (y m : Int) : Int := cumN y (m - 1).toNat
theorem cum_one (y : Int) : cum y 1 = 0 := rfl
theorem cum_succ (y m : Int) (h : 1 ≤ m) : cum y (m + 1) = cum y m + len y m := by
  unfold cum
  obtain ⟨j, rfl⟩ : ∃ j : Nat, m = (j : Int) + 1 := ⟨(m - 1).toNat, by omega⟩
  rw [show ((j : Int) + 1 + 1 - 1).toNat = j + 1 by omega, show ((j : Int) + 1 - 1).toNat = j by omega]
  rfl
theorem len_nn (y m : Int) : 0 ≤ len y m := by
  have := len_bd y m
  by_cases h : 1 ≤ m ∧ m ≤ 12
  · have := this.1 h; omega
  · have := this.2 h; omega
theorem cum_mono (y m n : Int) (h : 1 ≤ m) (hn : m ≤ n) : cum y m ≤ cum y n := by
  obtain ⟨j, rfl⟩ : ∃ j : Nat, n = m + j := ⟨(n - m).toNat, by omega⟩
  clear hn
  induction j with
  | zero => simp
  | succ j ih =>
    have := cum_succ y (m + j) (by omega)
    have := len_nn y (m + j)
    rw [show m + ((j + 1 : Nat) : Int) = m + j + 1 by omega]
    omega
theorem cum_13 (y : Int) : cum y 13 = 365 + lp y := by
  have h : cum y 13 = 31 + (28 + lp y) + 31 + 30 + 31 + 30 + 31 + 31 + 30 + 31 + 30 + 31 := by
    show cumN y 12 = _
    simp [cumN, len]
  rw [h]; omega
theorem cum_bd (y m : Int) (h : 1 ≤ m) (h' : m ≤ 13) : 0 ≤ cum y m ∧ cum y m ≤ 366 := by
  have a := cum_mono y 1 m (by omega) h
  have b := cum_mono y m 13 h h'
  rw [cum_one] at a
  rw [cum_13] at b
  have := lp_01 y
  omega

def good (y m d : Int) : Prop := -9999 ≤ y ∧ y ≤ 9999 ∧ 1 ≤ d ∧ d ≤ len y m
instance (y m d : Int) : Decidable (good y m d) := by unfold good; infer_instance
theorem good_m {y m d : Int} (h : good y m d) : 1 ≤ m ∧ m ≤ 12 := by
  obtain ⟨_, _, h1, h2⟩ := h
  by_cases hm : 1 ≤ m ∧ m ≤ 12
  · exact hm
  · have := (len_bd y m).2 hm; omega
theorem good_f (k : Nat) (hk : 2 ≤ k) (y m d : Int) : civil_good.f k y m d = some (decide (good y m d)) := by
  unfold civil_good.f
  by_cases h1 : y ≥ -9999
  · rw [if_pos h1]
    by_cases h2 : y ≤ 9999
    · rw [if_pos h2]
      by_cases h3 : d ≥ 1
      · rw [if_pos h3, len_f k hk]
        simp only [Option.bind_some]
        congr 1
        exact decide_eq_decide.mpr ⟨fun h => ⟨h1, h2, h3, h⟩, fun h => h.2.2.2⟩
      · rw [if_neg h3, decide_eq_false (fun h => h3 h.2.2.1)]
    · rw [if_neg h2, decide_eq_false (fun h => h2 h.2.1)]
  · rw [if_neg h1, decide_eq_false (fun h => h1 h.1)]
def days (y m d : Int) : Int := st y + cum y m + d - 1 - 719528
theorem st_bd (y : Int) (h0 : -10000 ≤ y) (h1 : y ≤ 10001) : -3652500 - 366 ≤ st y ∧ st y ≤ 3652500 + 732 := by unfold st; omega
theorem days_l (y m d : Int) (hm1 : 1 ≤ m) (hm2 : m ≤ 12) (hs : -10000000 ≤ st y) (hs' : st y ≤ 10000000) (hd : 1 ≤ d ∧ d ≤ 31) : ∀ (j : Nat) (k : Nat) (i : Int), j + 3 ≤ k → 1 ≤ i → i ≤ m → m - i = j → civil_Days.l0 k (st y + cum y i + d - 1) i y m d = some (days y m d, 0)
  | 0, k, i, hk, h1, h2, h3 => by
    obtain ⟨k, rfl⟩ : ∃ n, k = n + 1 := ⟨k - 1, by omega⟩
    obtain rfl : i = m := by omega
    have := cum_bd y i h1 (by omega)
    simp only [civil_Days.l0]
    rw [if_neg (by omega), w64 _ (by omega) (by omega)]
    rfl
  | j + 1, k, i, hk, h1, h2, h3 => by
    obtain ⟨k, rfl⟩ : ∃ n, k = n + 1 := ⟨k - 1, by omega⟩
    have c := cum_bd y i h1 (by omega)
    have l := (len_bd y i).1 (by omega)
    have s := cum_succ y i h1
    have ih := days_l y m d hm1 hm2 hs hs' hd j k (i + 1) (by omega) (by omega) (by omega) (by omega)
    simp only [civil_Days.l0]
    rw [if_pos (by omega), len_f k (by omega)]
    simp only [Option.bind_some]
    rw [w64 (i + 1) (by omega) (by omega), w64 _ (by omega) (by omega), show st y + cum y i + d - 1 + len y i = st y + cum y (i + 1) + d - 1 by rw [s]; omega]
    exact ih
theorem days_f (k : Nat) (hk : 20 ≤ k) (y m d : Int) : civil_Days.f k y m d = some (if good y m d then (days y m d, 0) else (0, 1)) := by
  unfold civil_Days.f
  rw [good_f k (by omega)]
  simp only [Option.bind_some]
  by_cases h : good y m d
  · have hm := good_m h
    obtain ⟨h1, h2, h3, h4⟩ := id h
    have l := (len_bd y m).1 hm
    have s := st_bd y (by omega) (by omega)
    rw [decide_eq_true h, if_pos rfl, if_pos h, start_f y (by omega) (by omega)]
    simp only [Option.bind_some]
    rw [w64 (st y + d) (by omega) (by omega), w64 (st y + d - 1) (by omega) (by omega)]
    have := days_l y m d hm.1 hm.2 (by omega) (by omega) (by omega) (m - 1).toNat k 1 (by omega) (by omega) (by omega) (by omega)
    rw [cum_one] at this
    rw [show st y + d - 1 = st y + 0 + d - 1 by omega]
    exact this
  · rw [decide_eq_false h, if_neg h]; rfl

/-! A day is one date's. -/
theorem days_span {y m d : Int} (h : good y m d) : st y ≤ days y m d + 719528 ∧ days y m d + 719528 < st (y + 1) := by
  have hm := good_m h
  obtain ⟨h1, h2, h3, h4⟩ := h
  have a := cum_bd y m hm.1 (by omega)
  have b := cum_succ y m hm.1
  have c := cum_mono y (m + 1) 13 (by omega) (by omega)
  rw [cum_13] at c
  have := st_succ y
  unfold days
  omega
theorem days_one {y m d y' m' d' : Int} (h : good y m d) (h' : good y' m' d') (e : days y m d = days y' m' d') : y = y' ∧ m = m' ∧ d = d' := by
  have a := days_span h
  have b := days_span h'
  have hy : y = y' := by
    by_cases h1 : y < y'
    · have := st_mono (y + 1) y' (by omega); omega
    · by_cases h2 : y' < y
      · have := st_mono (y' + 1) y (by omega); omega
      · omega
  subst hy
  have hm := good_m h
  have hm' := good_m h'
  obtain ⟨_, _, h3, h4⟩ := h
  obtain ⟨_, _, h3', h4'⟩ := h'
  unfold days at e
  have c1 := cum_succ y m hm.1
  have c2 := cum_succ y m' hm'.1
  by_cases h1 : m < m'
  · have := cum_mono y (m + 1) m' (by omega) (by omega); omega
  · by_cases h2 : m' < m
    · have := cum_mono y (m' + 1) m (by omega) (by omega); omega
    · obtain rfl : m = m' := by omega
      exact ⟨rfl, rfl, by omega⟩
def lo : Int := -4371587
theorem st_lo : st (-9999) = -3652059 := rfl
theorem st_hi : st 10000 = 3652425 := rfl
theorem of_l1 (y : Int) (n : Int) : ∀ (j : Nat) (k : Nat) (m x : Int), j + 3 ≤ k → 1 ≤ m → m ≤ 12 → 12 - m = j → cum y m ≤ n → n < cum y 13 →
    ∃ m' d', civil_Of.l1 k (n - cum y m) y m x = some (y, m', d', 0) ∧ 1 ≤ m' ∧ m' ≤ 12 ∧ 1 ≤ d' ∧ d' ≤ len y m' ∧ cum y m' + d' - 1 = n
  | j, k, m, x, hk, h1, h2, h3, h4, h5 => by
    obtain ⟨k, rfl⟩ : ∃ n, k = n + 1 := ⟨k - 1, by omega⟩
    have c := cum_bd y m h1 (by omega)
    have l := (len_bd y m).1 (by omega)
    have s := cum_succ y m h1
    have t := cum_13 y
    have lpp := lp_01 y
    simp only [civil_Of.l1]
    rw [len_f k (by omega)]
    simp only [Option.bind_some]
    by_cases h : n - cum y m ≥ len y m
    · have hm : m < 12 := by
        by_cases e : m = 12
        · subst e
          rw [show (12 : Int) + 1 = 13 by rfl] at s
          omega
        · omega
      obtain ⟨j, rfl⟩ : ∃ i, j = i + 1 := ⟨j - 1, by omega⟩
      have ih := of_l1 y n j k (m + 1) x (by omega) (by omega) (by omega) (by omega) (by omega) h5
      rw [if_pos h, w64 _ (by omega) (by omega), w64 _ (by omega) (by omega), show n - cum y m - len y m = n - cum y (m + 1) by rw [s]; omega]
      exact ih
    · rw [if_neg h, w64 _ (by omega) (by omega)]
      exact ⟨m, _, rfl, h1, h2, by omega, by omega, by omega⟩
theorem of_l0 (n m x : Int) (hm : m = 1) (hn : -3652059 ≤ n) (hn' : n < 3652425) : ∀ (j : Nat) (k : Nat) (y : Int), j + 20 ≤ k → -10100 ≤ y → st y ≤ n → 9999 - y = j →
    ∃ y' m' d', civil_Of.l0 k n y m x = some (y', m', d', 0) ∧ good y' m' d' ∧ days y' m' d' = n - 719528
  | j, k, y, hk, h1, h2, h3 => by
    obtain ⟨k, rfl⟩ : ∃ n, k = n + 1 := ⟨k - 1, by omega⟩
    have hb : -3700000 ≤ st y ∧ st y ≤ 3700000 := by unfold st; omega
    simp only [civil_Of.l0]
    rw [w64 (y + 1) (by omega) (by omega), start_f (y + 1) (by omega) (by omega)]
    simp only [Option.bind_some]
    by_cases h : st (y + 1) ≤ n
    · have hy : y < 9999 := by
        by_cases e : y = 9999
        · subst e
          rw [show (9999 : Int) + 1 = 10000 by rfl, st_hi] at h
          omega
        · omega
      obtain ⟨j, rfl⟩ : ∃ i, j = i + 1 := ⟨j - 1, by omega⟩
      rw [if_pos h]
      exact of_l0 n m x hm hn hn' j k (y + 1) (by omega) (by omega) h (by omega)
    · rw [if_neg h, start_f y (by omega) (by omega)]
      simp only [Option.bind_some]
      have s := st_succ y
      have c13 := cum_13 y
      rw [w64 _ (by omega) (by omega)]
      obtain ⟨m', d', e, a1, a2, a3, a4, a5⟩ := of_l1 y (n - st y) 11 k 1 x (by omega) (by omega) (by omega) (by omega) (by rw [cum_one]; omega) (by omega)
      rw [cum_one, Int.sub_zero] at e
      subst hm
      have hy : -9999 ≤ y := by
        by_cases e : -9999 ≤ y
        · exact e
        · have := st_mono (y + 1) (-9999) (by omega)
          rw [st_lo] at this
          omega
      exact ⟨y, m', d', e, ⟨hy, by omega, a3, a4⟩, by unfold days; omega⟩
theorem of_yes (k : Nat) (hk : 20100 ≤ k) (n : Int) (h0 : -4371587 ≤ n) (h1 : n < 2932897) :
    ∃ y m d, civil_Of.f k n = some (y, m, d, 0) ∧ good y m d ∧ days y m d = n := by
  obtain ⟨k, rfl⟩ : ∃ n, k = n + 2 := ⟨k - 2, by omega⟩
  unfold civil_Of.f
  rw [start_f (-9999) (by omega) (by omega), start_f 10000 (by omega) (by omega), st_lo, st_hi]
  simp only [Option.bind_some]
  rw [w64 _ (by omega) (by omega), if_neg (by omega), w64 _ (by omega) (by omega), decide_eq_false (by omega)]
  simp only [civil_Of.j0, civil_Of.j1]
  rw [if_neg (by decide), w64 (n + 719528) (by omega) (by omega), dn _ 366 (by omega) (by omega) (by omega), dn _ 365 (by omega) (by omega) (by omega)]
  simp only [Option.bind_some]
  by_cases h : n + 719528 < 0
  · rw [if_pos h]
    obtain ⟨y, m, d, e, g, dd⟩ := of_l0 (n + 719528) 1 0 rfl (by omega) (by omega) (9999 - (n + 719528) / 365).toNat k ((n + 719528) / 365) (by omega) (by omega) (by unfold st; omega) (by omega)
    exact ⟨y, m, d, e, g, by omega⟩
  · rw [if_neg h]
    obtain ⟨y, m, d, e, g, dd⟩ := of_l0 (n + 719528) 1 0 rfl (by omega) (by omega) (9999 - (n + 719528) / 366).toNat k ((n + 719528) / 366) (by omega) (by omega) (by unfold st; omega) (by omega)
    exact ⟨y, m, d, e, g, by omega⟩
theorem of_no (k : Nat) (hk : 2 ≤ k) (n : Int) (h : n < -4371587 ∨ 2932897 ≤ n) : civil_Of.f k n = some (0, 0, 0, 1) := by
  obtain ⟨k, rfl⟩ : ∃ n, k = n + 2 := ⟨k - 2, by omega⟩
  unfold civil_Of.f
  rw [start_f (-9999) (by omega) (by omega), start_f 10000 (by omega) (by omega), st_lo, st_hi]
  simp only [Option.bind_some]
  rw [w64 _ (by omega) (by omega)]
  by_cases h1 : n < -3652059 - 719528
  · rw [if_pos h1]; rfl
  · rw [if_neg h1, w64 _ (by omega) (by omega), decide_eq_true (by omega)]; rfl
/-- A date that is good is what its day's date is. -/
theorem of_is (k : Nat) (hk : 20100 ≤ k) {y m d : Int} (h : good y m d) : civil_Of.f k (days y m d) = some (y, m, d, 0) := by
  have s := days_span h
  obtain ⟨h1, h2, _⟩ := id h
  have a := st_mono (-9999) y h1
  have b := st_mono (y + 1) 10000 (by omega)
  rw [st_lo] at a
  rw [st_hi] at b
  obtain ⟨y', m', d', e, g, dd⟩ := of_yes k hk (days y m d) (by omega) (by omega)
  obtain ⟨rfl, rfl, rfl⟩ := days_one g h dd
  exact e
end Go.Proofs.YthelnkmjhchmnaaDoor.Cal
namespace Go.Proofs.YthelnkmjhchmnaaDoor.Cal
open Go.RowKit Go.Proofs.YthelnkmjhchmnaaDoor.QLeap Go.Proofs.YthelnkmjhchmnaaDoorW.PrintWords
set_option linter.unusedVariables false
set_option linter.unusedSimpArgs false

def dg (n : Int) : UInt8 := UInt8.ofNat (48 + n.toNat)
theorem tw_is (n : Int) (h0 : 0 ≤ n) (h1 : n < 100) : tw n = [dg (n / 10), dg (n % 10)] := by
  unfold tw dg
  rw [Lib.decDigits_one (by omega), Lib.decDigits_one (by omega)]; rfl
theorem dg_nat (n : Int) (h0 : 0 ≤ n) (h1 : n < 10) : (dg n).toNat = 48 + n.toNat := by
  unfold dg
  rw [UInt8.toNat_ofNat']
  omega
theorem dg_lt (a b : Int) (h0 : 0 ≤ a) (h1 : a < 10) (h2 : 0 ≤ b) (h3 : b < 10) : (dg a < dg b ↔ a < b) ∧ (dg a = dg b ↔ a = b) := by
  have x := dg_nat a h0 h1
  have y := dg_nat b h2 h3
  refine ⟨?_, ?_, fun h => by rw [h]⟩
  · rw [UInt8.lt_iff_toNat_lt, x, y]; omega
  · intro h
    have := congrArg UInt8.toNat h
    rw [x, y] at this
    omega
theorem less_dg (a b : Int) (h0 : 0 ≤ a) (h1 : a < 10) (h2 : 0 ≤ b) (h3 : b < 10) (x y : List UInt8) : Op.bytesLess (dg a :: x) (dg b :: y) = (decide (a < b) || (decide (a = b) && Op.bytesLess x y)) := by
  obtain ⟨l, e⟩ := dg_lt a b h0 h1 h2 h3
  rw [Op.bytesLess]
  congr 1
  · exact decide_eq_decide.mpr l
  · congr 1
    rw [Bool.eq_iff_iff, beq_iff_eq, decide_eq_true_iff]; exact e
theorem less_tw (a b : Int) (h0 : 0 ≤ a) (h1 : a < 100) (h2 : 0 ≤ b) (h3 : b < 100) (x y : List UInt8) : Op.bytesLess (tw a ++ x) (tw b ++ y) = (decide (a < b) || (decide (a = b) && Op.bytesLess x y)) := by
  rw [tw_is a h0 h1, tw_is b h2 h3]
  show Op.bytesLess (dg (a / 10) :: dg (a % 10) :: x) (dg (b / 10) :: dg (b % 10) :: y) = _
  rw [less_dg _ _ (by omega) (by omega) (by omega) (by omega), less_dg _ _ (by omega) (by omega) (by omega) (by omega)]
  by_cases c : Op.bytesLess x y = true
  · rw [c, Bool.eq_iff_iff]; simp; omega
  · rw [Bool.eq_false_iff.mpr c, Bool.eq_iff_iff]; simp; omega
theorem less_same (c : UInt8) (x y : List UInt8) : Op.bytesLess (c :: x) (c :: y) = Op.bytesLess x y := by
  rw [Op.bytesLess]; simp
theorem txl_pos (y m d : Int) (h : 0 ≤ y) : txl y m d = tw (y / 100) ++ (tw (y % 100) ++ (45 :: (tw m ++ (45 :: (tw d ++ []))))) := by
  unfold txl
  rw [if_neg (by omega), if_neg (by omega)]; simp
theorem less_txl (y m d y' m' d' : Int) (g : good y m d) (g' : good y' m' d') (h : 0 ≤ y) (h' : 0 ≤ y') : Op.bytesLess (txl y m d) (txl y' m' d') = decide (days y m d < days y' m' d') := by
  have hm := good_m g
  have hm' := good_m g'
  have sp := days_span g
  have sp' := days_span g'
  have one := fun h => days_one g g' h
  obtain ⟨a1, a2, a3, a4⟩ := g
  obtain ⟨b1, b2, b3, b4⟩ := g'
  have l1 := (len_bd y m).1 hm
  have l2 := (len_bd y' m').1 hm'
  rw [txl_pos _ _ _ h, txl_pos _ _ _ h', less_tw _ _ (by omega) (by omega) (by omega) (by omega), less_tw _ _ (by omega) (by omega) (by omega) (by omega), less_same, less_tw _ _ (by omega) (by omega) (by omega) (by omega), less_same, less_tw _ _ (by omega) (by omega) (by omega) (by omega)]
  rw [show Op.bytesLess [] [] = false from rfl, Bool.eq_iff_iff]
  simp only [Bool.or_eq_true, Bool.and_eq_true, decide_eq_true_iff, Bool.and_false, Bool.or_false]
  by_cases hy : y < y'
  · have := st_mono (y + 1) y' (by omega); omega
  · by_cases hy2 : y' < y
    · have := st_mono (y' + 1) y (by omega); omega
    · obtain rfl : y = y' := by omega
      have c1 := cum_succ y m hm.1
      have c2 := cum_succ y m' hm'.1
      unfold days
      by_cases h1 : m < m'
      · have := cum_mono y (m + 1) m' (by omega) (by omega); omega
      · by_cases h2 : m' < m
        · have := cum_mono y (m' + 1) m (by omega) (by omega); omega
        · obtain rfl : m = m' := by omega
          omega
theorem text_f (k : Nat) (hk : 2 ≤ k) (y m d : Int) : civil_Text.f k y m d = some (if good y m d then ⟨(txl y m d).toArray⟩ else ⟨#[]⟩) := by
  unfold civil_Text.f
  rw [good_f k hk]
  simp only [Option.bind_some]
  by_cases g : good y m d
  · have hm := good_m g
    obtain ⟨a1, a2, a3, a4⟩ := id g
    have l1 := (len_bd y m).1 hm
    rw [if_pos (decide_eq_true g), if_pos (by omega), if_pos g]
  · rw [if_neg (by simpa using g), if_neg g]
end Go.Proofs.YthelnkmjhchmnaaDoor.Cal
namespace Go.Proofs.YthelnkmjhchmnaaDoor.Cal
open Go.RowKit Go.Proofs.YthelnkmjhchmnaaDoor.QLeap Go.Proofs.YthelnkmjhchmnaaDoorW.PrintWords
set_option linter.unusedVariables false
set_option linter.unusedSimpArgs false

theorem num_step (k : Nat) (s : ByteArray) (v i : Int) (h0 : 0 ≤ i) (h1 : i < (s.size : Int)) (c0 : 48 ≤ bt s i) (c1 : bt s i ≤ 57) :
    civil_number.l0 (k + 2) s v (s.size : Int) i = civil_number.l0 k s (wrap64 (wrap64 (10 * v) + (bt s i - 48) % 256)) (s.size : Int) (wrap64 (i + 1)) := by
  simp only [civil_number.l0]
  rw [if_pos h1, if_pos h0, if_pos h1, if_neg (by omega), decide_eq_false (by omega)]
  simp only [civil_number.j1]
  rw [if_neg (by decide), if_pos h0, if_pos h1]
theorem num_bad (k : Nat) (s : ByteArray) (v i : Int) (h0 : 0 ≤ i) (h1 : i < (s.size : Int)) (c : bt s i < 48 ∨ 57 < bt s i) :
    civil_number.l0 (k + 2) s v (s.size : Int) i = some (0, false) := by
  simp only [civil_number.l0]
  rw [if_pos h1, if_pos h0, if_pos h1]
  by_cases h : bt s i < 48
  · rw [if_pos h]; simp only [civil_number.j1]; rfl
  · rw [if_neg h, decide_eq_true (by omega)]; simp only [civil_number.j1]; rfl
theorem num_end (k : Nat) (s : ByteArray) (v i : Int) (h : ¬ i < (s.size : Int)) : civil_number.l0 (k + 1) s v (s.size : Int) i = some (v, true) := by
  simp only [civil_number.l0]
  rw [if_neg h]
theorem num_tot (s : ByteArray) (hs : (s.size : Int) ≤ 1000) : ∀ (j k : Nat) (v i : Int), 2 * j + 1 ≤ k → 0 ≤ i → (s.size : Int) - i = j → ∃ v' ok, civil_number.l0 k s v (s.size : Int) i = some (v', ok)
  | 0, k, v, i, hk, h0, h1 => by
    obtain ⟨k, rfl⟩ : ∃ n, k = n + 1 := ⟨k - 1, by omega⟩
    exact ⟨_, _, num_end k s v i (by omega)⟩
  | j + 1, k, v, i, hk, h0, h1 => by
    obtain ⟨k, rfl⟩ : ∃ n, k = n + 2 := ⟨k - 2, by omega⟩
    by_cases c : 48 ≤ bt s i ∧ bt s i ≤ 57
    · obtain ⟨v', ok, e⟩ := num_tot s hs j k (wrap64 (wrap64 (10 * v) + (bt s i - 48) % 256)) (wrap64 (i + 1)) (by omega) (by rw [w64 _ (by omega) (by omega)]; omega) (by rw [w64 _ (by omega) (by omega)]; omega)
      exact ⟨v', ok, by rw [num_step k s v i h0 (by omega) c.1 c.2]; exact e⟩
    · exact ⟨_, _, num_bad k s v i h0 (by omega) (by omega)⟩
theorem num_any (k : Nat) (s : ByteArray) (hs : s.size ≤ 50) (hk : 101 ≤ k) : ∃ v ok, civil_number.f k s = some (v, ok) :=
  num_tot s (by omega) s.size k 0 0 (by omega) (by omega) (by omega)
theorem bt_dg (n : Int) (h0 : 0 ≤ n) (h1 : n < 10) : ((dg n).toNat : Int) = 48 + n := by
  rw [dg_nat n h0 h1]; omega
theorem num_2 (k : Nat) (hk : 5 ≤ k) (a b : Int) (ha : 0 ≤ a ∧ a < 10) (hb : 0 ≤ b ∧ b < 10) : civil_number.f k ⟨#[dg a, dg b]⟩ = some (10 * a + b, true) := by
  obtain ⟨k, rfl⟩ : ∃ n, k = n + 5 := ⟨k - 5, by omega⟩
  have e0 : bt ⟨#[dg a, dg b]⟩ 0 = 48 + a := bt_dg a ha.1 ha.2
  have e1 : bt ⟨#[dg a, dg b]⟩ 1 = 48 + b := bt_dg b hb.1 hb.2
  have sz : ((⟨#[dg a, dg b]⟩ : ByteArray).size : Int) = 2 := rfl
  unfold civil_number.f
  rw [num_step _ _ _ _ (by omega) (by omega) (by omega) (by omega), e0, w64 (10 * 0) (by omega) (by omega), w64 (10 * 0 + _) (by omega) (by omega), w64 (0 + 1) (by omega) (by omega),
    show (0 : Int) + 1 = 1 from rfl, num_step _ _ _ _ (by omega) (by omega) (by omega) (by omega), e1, w64 (10 * (10 * 0 + (48 + a - 48) % 256)) (by omega) (by omega), w64 (10 * (10 * 0 + (48 + a - 48) % 256) + _) (by omega) (by omega), w64 (1 + 1) (by omega) (by omega),
    num_end _ _ _ _ (by omega)]
  congr 2
  omega
theorem num_4 (k : Nat) (hk : 9 ≤ k) (a b c d : Int) (ha : 0 ≤ a ∧ a < 10) (hb : 0 ≤ b ∧ b < 10) (hc : 0 ≤ c ∧ c < 10) (hd : 0 ≤ d ∧ d < 10) : civil_number.f k ⟨#[dg a, dg b, dg c, dg d]⟩ = some (1000 * a + 100 * b + 10 * c + d, true) := by
  obtain ⟨k, rfl⟩ : ∃ n, k = n + 9 := ⟨k - 9, by omega⟩
  have e0 : bt ⟨#[dg a, dg b, dg c, dg d]⟩ 0 = 48 + a := bt_dg a ha.1 ha.2
  have e1 : bt ⟨#[dg a, dg b, dg c, dg d]⟩ 1 = 48 + b := bt_dg b hb.1 hb.2
  have e2 : bt ⟨#[dg a, dg b, dg c, dg d]⟩ 2 = 48 + c := bt_dg c hc.1 hc.2
  have e3 : bt ⟨#[dg a, dg b, dg c, dg d]⟩ 3 = 48 + d := bt_dg d hd.1 hd.2
  have sz : ((⟨#[dg a, dg b, dg c, dg d]⟩ : ByteArray).size : Int) = 4 := rfl
  have st : ∀ (j : Nat) (v i i' x : Int), i' = i + 1 → 0 ≤ v → v ≤ 10000 → 0 ≤ i → i < 4 → bt ⟨#[dg a, dg b, dg c, dg d]⟩ i = 48 + x → 0 ≤ x → x < 10 →
      civil_number.l0 (j + 2) ⟨#[dg a, dg b, dg c, dg d]⟩ v ((⟨#[dg a, dg b, dg c, dg d]⟩ : ByteArray).size : Int) i = civil_number.l0 j ⟨#[dg a, dg b, dg c, dg d]⟩ (10 * v + x) ((⟨#[dg a, dg b, dg c, dg d]⟩ : ByteArray).size : Int) i' := by
    intro j v i i' x hi v0 v1 i0 i1 e x0 x1
    rw [num_step _ _ _ _ i0 (by omega) (by omega) (by omega), e, w64 (10 * v) (by omega) (by omega), w64 (i + 1) (by omega) (by omega), w64 (10 * v + _) (by omega) (by omega), show (48 + x - 48) % 256 = x by omega, hi]
  unfold civil_number.f
  rw [st _ 0 0 1 a rfl (by omega) (by omega) (by omega) (by omega) e0 (by omega) (by omega), st _ _ 1 2 b rfl (by omega) (by omega) (by omega) (by omega) e1 (by omega) (by omega),
    st _ _ 2 3 c rfl (by omega) (by omega) (by omega) (by omega) e2 (by omega) (by omega), st _ _ 3 4 d rfl (by omega) (by omega) (by omega) (by omega) e3 (by omega) (by omega), num_end _ _ _ _ (by omega)]
  congr 2
  omega

/-! Ten bytes, cut. -/
theorem cut_10 (c0 c1 c2 c3 c4 c5 c6 c7 c8 c9 : UInt8) :
    (⟨#[c0, c1, c2, c3, c4, c5, c6, c7, c8, c9]⟩ : ByteArray).extract 0 4 = ⟨#[c0, c1, c2, c3]⟩ ∧ (⟨#[c0, c1, c2, c3, c4, c5, c6, c7, c8, c9]⟩ : ByteArray).extract 5 7 = ⟨#[c5, c6]⟩ ∧
    (⟨#[c0, c1, c2, c3, c4, c5, c6, c7, c8, c9]⟩ : ByteArray).extract 8 (⟨#[c0, c1, c2, c3, c4, c5, c6, c7, c8, c9]⟩ : ByteArray).size = ⟨#[c8, c9]⟩ := by
  exact ⟨rfl, rfl, rfl⟩
theorem cut_11 (c c0 c1 c2 c3 c4 c5 c6 c7 c8 c9 : UInt8) :
    (⟨#[c, c0, c1, c2, c3, c4, c5, c6, c7, c8, c9]⟩ : ByteArray).extract 1 (⟨#[c, c0, c1, c2, c3, c4, c5, c6, c7, c8, c9]⟩ : ByteArray).size = ⟨#[c0, c1, c2, c3, c4, c5, c6, c7, c8, c9]⟩ := by
  rfl
theorem txl_10 (y m d : Int) (g : good y m d) (a : Int) (ha : a = if y < 0 then -y else y) :
    txl y m d = (if y < 0 then [45] else []) ++ [dg (a / 100 / 10), dg (a / 100 % 10), dg (a % 100 / 10), dg (a % 100 % 10), 45, dg (m / 10), dg (m % 10), 45, dg (d / 10), dg (d % 10)] := by
  have hm := good_m g
  obtain ⟨a1, a2, a3, a4⟩ := id g
  have l1 := (len_bd y m).1 hm
  have hb : 0 ≤ a ∧ a ≤ 9999 := by rw [ha]; split <;> omega
  unfold txl
  rw [← ha, tw_is _ (by omega) (by omega), tw_is _ (by omega) (by omega), tw_is _ (by omega) (by omega), tw_is _ (by omega) (by omega)]
  simp
theorem parse_j1 (k : Nat) (hk : 10 ≤ k) (s : ByteArray) (y m d : Int) (g : good y m d) (hs : s = ⟨(txl y m d).toArray⟩) : civil_Parse.j1 k s y true m true d true = some (y, m, d, 0) := by
  obtain ⟨k, rfl⟩ : ∃ n, k = n + 2 := ⟨k - 2, by omega⟩
  simp only [civil_Parse.j1]
  rw [if_pos trivial, if_pos trivial, if_pos trivial, text_f _ (by omega), if_pos g]
  simp only [Option.bind_some]
  subst hs
  simp only [civil_Parse.j2]
  rw [if_neg (by simp)]
/-- The text of a date is read as that date. -/
theorem parse_is (k : Nat) (hk : 30 ≤ k) (y m d : Int) (g : good y m d) : civil_Parse.f k ⟨(txl y m d).toArray⟩ = some (y, m, d, 0) := by
  obtain ⟨a, ha⟩ : ∃ a : Int, a = if y < 0 then -y else y := ⟨_, rfl⟩
  have hm := good_m g
  obtain ⟨a1, a2, a3, a4⟩ := id g
  have l1 := (len_bd y m).1 hm
  have hb : 0 ≤ a ∧ a ≤ 9999 := by rw [ha]; split <;> omega
  obtain ⟨k, rfl⟩ : ∃ n, k = n + 12 := ⟨k - 12, by omega⟩
  have E := txl_10 y m d g a ha
  have L := (parse_j1 (k + 11) (by omega) _ y m d g rfl)
  rw [E] at L ⊢
  obtain ⟨c1, c2, c3⟩ := cut_10 (dg (a / 100 / 10)) (dg (a / 100 % 10)) (dg (a % 100 / 10)) (dg (a % 100 % 10)) 45 (dg (m / 10)) (dg (m % 10)) 45 (dg (d / 10)) (dg (d % 10))
  have c0 := cut_11 45 (dg (a / 100 / 10)) (dg (a / 100 % 10)) (dg (a % 100 / 10)) (dg (a % 100 % 10)) 45 (dg (m / 10)) (dg (m % 10)) 45 (dg (d / 10)) (dg (d % 10))
  have z10 : ((⟨#[dg (a / 100 / 10), dg (a / 100 % 10), dg (a % 100 / 10), dg (a % 100 % 10), 45, dg (m / 10), dg (m % 10), 45, dg (d / 10), dg (d % 10)]⟩ : ByteArray).size : Int) = 10 := rfl
  have z11 : ((⟨#[45, dg (a / 100 / 10), dg (a / 100 % 10), dg (a % 100 / 10), dg (a % 100 % 10), 45, dg (m / 10), dg (m % 10), 45, dg (d / 10), dg (d % 10)]⟩ : ByteArray).size : Int) = 11 := rfl
  have T : ∀ (S t : ByteArray) (hn : (t.size : Int) < (S.size : Int) ↔ y < 0) (z : (t.size : Int) = 10) (e1 : t.extract 0 4 = ⟨#[dg (a / 100 / 10), dg (a / 100 % 10), dg (a % 100 / 10), dg (a % 100 % 10)]⟩) (e2 : t.extract 5 7 = ⟨#[dg (m / 10), dg (m % 10)]⟩) (e3 : t.extract 8 t.size = ⟨#[dg (d / 10), dg (d % 10)]⟩)
      (L : civil_Parse.j1 (k + 11) S y true m true d true = some (y, m, d, 0)), civil_Parse.j0 (k + 12) S t = some (y, m, d, 0) := by
    intro S t hn z e1 e2 e3 L
    simp only [civil_Parse.j0]
    rw [e1, e2, e3, if_pos z, if_pos (by decide), if_pos (by omega), num_4 _ (by omega) _ _ _ _ (by omega) (by omega) (by omega) (by omega)]
    simp only [Option.bind_some]
    rw [if_pos (by decide), if_pos (by omega), num_2 _ (by omega) _ _ (by omega) (by omega)]
    simp only [Option.bind_some]
    rw [if_pos (by omega), num_2 _ (by omega) _ _ (by omega) (by omega)]
    simp only [Option.bind_some]
    by_cases hy : y < 0
    · rw [if_pos hy] at ha
      rw [if_pos (hn.mpr hy), w64 _ (by omega) (by omega), show -(1000 * (a / 100 / 10) + 100 * (a / 100 % 10) + 10 * (a % 100 / 10) + a % 100 % 10) = y by omega, show 10 * (m / 10) + m % 10 = m by omega, show 10 * (d / 10) + d % 10 = d by omega]
      exact L
    · rw [if_neg hy] at ha
      rw [if_neg (fun h => hy (hn.mp h)), show 1000 * (a / 100 / 10) + 100 * (a / 100 % 10) + 10 * (a % 100 / 10) + a % 100 % 10 = y by omega, show 10 * (m / 10) + m % 10 = m by omega, show 10 * (d / 10) + d % 10 = d by omega]
      exact L
  by_cases hy : y < 0
  · rw [if_pos hy] at L ⊢
    have L' : civil_Parse.j1 (k + 11) ⟨#[45, dg (a / 100 / 10), dg (a / 100 % 10), dg (a % 100 / 10), dg (a % 100 % 10), 45, dg (m / 10), dg (m % 10), 45, dg (d / 10), dg (d % 10)]⟩ y true m true d true = some (y, m, d, 0) := L
    show civil_Parse.f (k + 12) ⟨#[45, dg (a / 100 / 10), dg (a / 100 % 10), dg (a % 100 / 10), dg (a % 100 % 10), 45, dg (m / 10), dg (m % 10), 45, dg (d / 10), dg (d % 10)]⟩ = _
    unfold civil_Parse.f
    rw [if_pos z11, if_pos (by omega), c0]
    exact T _ _ (by rw [z10, z11]; omega) z10 c1 c2 c3 L'
  · rw [if_neg hy] at L ⊢
    have L' : civil_Parse.j1 (k + 11) ⟨#[dg (a / 100 / 10), dg (a / 100 % 10), dg (a % 100 / 10), dg (a % 100 % 10), 45, dg (m / 10), dg (m % 10), 45, dg (d / 10), dg (d % 10)]⟩ y true m true d true = some (y, m, d, 0) := L
    show civil_Parse.f (k + 12) ⟨#[dg (a / 100 / 10), dg (a / 100 % 10), dg (a % 100 / 10), dg (a % 100 % 10), 45, dg (m / 10), dg (m % 10), 45, dg (d / 10), dg (d % 10)]⟩ = _
    unfold civil_Parse.f
    rw [if_neg (by omega)]
    exact T _ _ (by omega) z10 c1 c2 c3 L'
/-- Any short text is read as a date that has this text, or as none. -/
theorem parse_j1_any (k : Nat) (hk : 10 ≤ k) (s : ByteArray) (y m d : Int) (a b c : Bool) (hs : s.size ≠ 0) :
    (civil_Parse.j1 k s y a m b d c = some (y, m, d, 0) ∧ good y m d ∧ s = ⟨(txl y m d).toArray⟩) ∨ civil_Parse.j1 k s y a m b d c = some (0, 0, 0, 3) := by
  obtain ⟨k, rfl⟩ : ∃ n, k = n + 2 := ⟨k - 2, by omega⟩
  simp only [civil_Parse.j1]
  have no : civil_Parse.j2 (k + 1) true y m d = some (0, 0, 0, 3) := rfl
  cases a with
  | false => exact .inr no
  | true =>
    cases b with
    | false => exact .inr no
    | true =>
      cases c with
      | false => exact .inr no
      | true =>
        rw [if_pos rfl, if_pos rfl, if_pos rfl, text_f _ (by omega)]
        simp only [Option.bind_some]
        by_cases g : good y m d
        · rw [if_pos g]
          by_cases e : s = ⟨(txl y m d).toArray⟩
          · left
            refine ⟨?_, g, e⟩
            subst e
            simp only [civil_Parse.j2]
            rw [if_neg (by simp)]
          · right
            have : ((⟨(txl y m d).toArray⟩ : ByteArray).toList != s.toList) = true := by
              rw [bne_iff_ne]
              intro h
              apply e
              apply ByteArray.ext
              rw [ByteArray.toList_eq s, ByteArray.toList_mk] at h
              rw [h]
            rw [this]; exact no
        · rw [if_neg g]
          right
          have : ((⟨#[]⟩ : ByteArray).toList != s.toList) = true := by
            rw [bne_iff_ne]
            intro h
            have := congrArg List.length h
            rw [ByteArray.toList_eq s, ByteArray.toList_eq ⟨#[]⟩] at this
            exact hs (by have h2 : (0 : Nat) = s.data.toList.length := this; rw [Array.length_toList] at h2; exact h2.symm)
          rw [this]; exact no
theorem parse_any (k : Nat) (hk : 120 ≤ k) (s : ByteArray) (hs : s.size ≤ 1000000) :
    (∃ y m d, civil_Parse.f k s = some (y, m, d, 0) ∧ good y m d ∧ s = ⟨(txl y m d).toArray⟩) ∨ civil_Parse.f k s = some (0, 0, 0, 3) := by
  obtain ⟨k, rfl⟩ : ∃ n, k = n + 1 := ⟨k - 1, by omega⟩
  have T : ∀ t : ByteArray, t.size ≤ 1000000 → (s.size ≠ 0 ∨ ¬ (t.size : Int) = 10) → (∃ y m d, civil_Parse.j0 (k + 1) s t = some (y, m, d, 0) ∧ good y m d ∧ s = ⟨(txl y m d).toArray⟩) ∨ civil_Parse.j0 (k + 1) s t = some (0, 0, 0, 3) := by
    intro t ht h0
    simp only [civil_Parse.j0]
    by_cases z : (t.size : Int) = 10
    · obtain ⟨v1, b1, e1⟩ := num_any k (t.extract 0 4) (by rw [ByteArray.size_extract]; omega) (by omega)
      obtain ⟨v2, b2, e2⟩ := num_any k (t.extract 5 7) (by rw [ByteArray.size_extract]; omega) (by omega)
      obtain ⟨v3, b3, e3⟩ := num_any k (t.extract 8 t.size) (by rw [ByteArray.size_extract]; omega) (by omega)
      have hs0 : s.size ≠ 0 := h0.elim id (fun h => absurd z h)
      rw [if_pos z, if_pos (by decide), if_pos (by omega), e1]
      simp only [Option.bind_some]
      rw [if_pos (by decide), if_pos (by omega), e2]
      simp only [Option.bind_some]
      rw [if_pos (by omega), e3]
      simp only [Option.bind_some]
      by_cases h : (t.size : Int) < (s.size : Int)
      · rw [if_pos h]
        rcases parse_j1_any k (by omega) s (wrap64 (-v1)) v2 v3 b1 b2 b3 hs0 with h | h
        · exact .inl ⟨_, _, _, h⟩
        · exact .inr h
      · rw [if_neg h]
        rcases parse_j1_any k (by omega) s v1 v2 v3 b1 b2 b3 hs0 with h | h
        · exact .inl ⟨_, _, _, h⟩
        · exact .inr h
    · rw [if_neg z]
      exact .inr rfl
  unfold civil_Parse.f
  by_cases h : (s.size : Int) = 11
  · rw [if_pos h, if_pos (by omega)]
    exact T _ (by rw [ByteArray.size_extract]; omega) (.inl (by omega))
  · rw [if_neg h]
    by_cases h0 : s.size = 0
    · exact T _ hs (.inr (by omega))
    · exact T _ hs (.inl h0)
end Go.Proofs.YthelnkmjhchmnaaDoor.Cal
