/- What the document's own functions answer: the same days, dates, texts. Conditions: each theorem's own. -/
import Derived.Test.YtbgdpkpljkcnfaaDoorTxt
import Derived.Test.YtbgdpkpljkcnfaaDoorQCivilx0
import Derived.Test.YtbgdpkpljkcnfaaDoorQCivilx9
import Derived.Test.YtbgdpkpljkcnfaaDoorQCivilx11
import Derived.Test.YtbgdpkpljkcnfaaDoorQCivilx12
import Derived.Test.YtbgdpkpljkcnfaaDoorQCivilx13
import Derived.Test.YtbgdpkpljkcnfaaDoorQCivilx14
import Derived.Test.YtbgdpkpljkcnfaaDoorQCivilx15
import Derived.Test.YtbgdpkpljkcnfaaDoorQCivilx16
import Derived.Test.YtbgdpkpljkcnfaaDoorQCivilx17
namespace Go.Proofs.YtbgdpkpljkcnfaaDoor.Cal
open Go.RowKit Go.Proofs.YtbgdpkpljkcnfaaDoor.QCivil Go.Proofs.YtbgdpkpljkcnfaaDoorW.PrintWords
set_option linter.unusedVariables false
set_option linter.unusedSimpArgs false

theorem rlen_f (k : Nat) (hk : 2 ≤ k) (y m : Int) : hourglassref4_Length.f k y m = some (len y m) := by
  obtain ⟨k, rfl⟩ : ∃ n, k = n + 2 := ⟨k - 2, by omega⟩
  unfold hourglassref4_Length.f len
  simp only [hourglassref4_Length.j0, hourglassref4_Length.j1]
  by_cases h : m = 1
  · subst h; rfl
  by_cases h : m = 3
  · subst h; rfl
  by_cases h : m = 5
  · subst h; rfl
  by_cases h : m = 7
  · subst h; rfl
  by_cases h : m = 8
  · subst h; rfl
  by_cases h : m = 10
  · subst h; rfl
  by_cases h : m = 12
  · subst h; rfl
  by_cases h : m = 4
  · subst h; rfl
  by_cases h : m = 6
  · subst h; rfl
  by_cases h : m = 9
  · subst h; rfl
  by_cases h : m = 11
  · subst h; rfl
  by_cases h : m = 2
  · subst h
    simp only [rleap_f]
    rcases lp_01 y with h | h <;> simp [h]
  simp [*]
theorem rgood_f (k : Nat) (hk : 2 ≤ k) (y m d : Int) : hourglassref4_Good.f k y m d = some (decide (good y m d)) := by
  unfold hourglassref4_Good.f
  by_cases h1 : y ≥ -9999
  · rw [if_pos h1]
    by_cases h2 : y ≤ 9999
    · rw [if_pos h2]
      by_cases h3 : d ≥ 1
      · rw [if_pos h3, rlen_f k hk]
        simp only [Option.bind_some]
        congr 1
        exact decide_eq_decide.mpr ⟨fun h => ⟨h1, h2, h3, h⟩, fun h => h.2.2.2⟩
      · rw [if_neg h3, decide_eq_false (fun h => h3 h.2.2.1)]
    · rw [if_neg h2, decide_eq_false (fun h => h2 h.2.1)]
  · rw [if_neg h1, decide_eq_false (fun h => h1 h.1)]
def F (y : Int) : Int := st y - 719528
theorem F_bd (y : Int) (h0 : -11000 ≤ y) (h1 : y ≤ 11000) : -5000000 ≤ F y ∧ F y ≤ 5000000 := by unfold F st; omega
theorem F_400 (y : Int) : F (y + 400) = F y + 146097 := by unfold F st; omega
theorem F_m400 (y : Int) : F (y - 400) = F y - 146097 := by unfold F st; omega
theorem first_l2 (y : Int) (h0 : -10200 ≤ y) (h1 : y ≤ 10200) : ∀ (j k : Nat) (x : Int), j + 1 ≤ k → -10600 ≤ x → x ≤ y → y - x = j → hourglassref4_first.l2 k y (F x) x = some (F y)
  | j, k, x, hk, a0, a1, a2 => by
    obtain ⟨k, rfl⟩ : ∃ n, k = n + 1 := ⟨k - 1, by omega⟩
    have b := F_bd x (by omega) (by omega)
    simp only [hourglassref4_first.l2]
    by_cases h : x < y
    · obtain ⟨j, rfl⟩ : ∃ i, j = i + 1 := ⟨j - 1, by omega⟩
      have ih := first_l2 y h0 h1 j k (x + 1) (by omega) (by omega) (by omega) (by omega)
      have s := st_succ x
      rw [if_pos h, rleap_f]
      simp only [Option.bind_some]
      rcases lp_01 x with e | e
      · rw [decide_eq_false (by omega), if_neg (by decide), w64 (F x + 365) (by omega) (by omega), w64 (x + 1) (by omega) (by omega), show F x + 365 = F (x + 1) by unfold F; omega]
        exact ih
      · rw [decide_eq_true e, if_pos rfl, w64 (F x + 365) (by omega) (by omega), w64 (F x + 365 + 1) (by omega) (by omega), w64 (x + 1) (by omega) (by omega), show F x + 365 + 1 = F (x + 1) by unfold F; omega]
        exact ih
    · obtain rfl : x = y := by omega
      rw [if_neg h]
theorem first_l1 (y : Int) (h0 : -10200 ≤ y) (h1 : y ≤ 10200) : ∀ (j k : Nat) (x : Int), j + 402 ≤ k → -10600 ≤ x → x ≤ 10600 → x - y ≤ 400 * j → y - x < 400 → hourglassref4_first.l1 k y (F x) x = some (F y)
  | j, k, x, hk, a0, a1, a2, a3 => by
    obtain ⟨k, rfl⟩ : ∃ n, k = n + 1 := ⟨k - 1, by omega⟩
    have b := F_bd x (by omega) (by omega)
    simp only [hourglassref4_first.l1]
    by_cases h : y < x
    · obtain ⟨j, rfl⟩ : ∃ i, j = i + 1 := ⟨j - 1, by omega⟩
      have ih := first_l1 y h0 h1 j k (x - 400) (by omega) (by omega) (by omega) (by omega) (by omega)
      rw [if_pos h, w64 (F x - 146097) (by omega) (by omega), w64 (x - 400) (by omega) (by omega), ← F_m400]
      exact ih
    · rw [if_neg h]
      exact first_l2 y h0 h1 (y - x).toNat k x (by omega) (by omega) (by omega) (by omega)
theorem first_l0 (y : Int) (h0 : -10200 ≤ y) (h1 : y ≤ 10200) : ∀ (j k : Nat) (x : Int), j + 500 ≤ k → 1970 ≤ x → x ≤ 10600 → y - x < 400 * (j + 1) → hourglassref4_first.l0 k y (F x) x = some (F y)
  | j, k, x, hk, a0, a1, a2 => by
    obtain ⟨k, rfl⟩ : ∃ n, k = n + 1 := ⟨k - 1, by omega⟩
    have b := F_bd x (by omega) (by omega)
    simp only [hourglassref4_first.l0]
    rw [w64 (y - x) (by omega) (by omega)]
    by_cases h : y - x ≥ 400
    · obtain ⟨j, rfl⟩ : ∃ i, j = i + 1 := ⟨j - 1, by omega⟩
      have ih := first_l0 y h0 h1 j k (x + 400) (by omega) (by omega) (by omega) (by omega)
      rw [if_pos h, w64 (F x + 146097) (by omega) (by omega), w64 (x + 400) (by omega) (by omega), ← F_400]
      exact ih
    · rw [if_neg h]
      exact first_l1 y h0 h1 53 k x (by omega) (by omega) (by omega) (by omega) (by omega)
theorem first_f (k : Nat) (hk : 600 ≤ k) (y : Int) (h0 : -10200 ≤ y) (h1 : y ≤ 10200) : hourglassref4_first.f k y = some (F y) :=
  first_l0 y h0 h1 21 k 1970 (by omega) (by omega) (by omega) (by omega)
theorem rdays_l (y m d : Int) (hm1 : 1 ≤ m) (hm2 : m ≤ 12) (hs : -10000000 ≤ F y) (hs' : F y ≤ 10000000) (hd : 1 ≤ d ∧ d ≤ 31) : ∀ (j : Nat) (k : Nat) (i : Int), j + 3 ≤ k → 1 ≤ i → i ≤ m → m - i = j → hourglassref4_Days.l0 k (F y + cum y i) i y m d = some (days y m d, true)
  | j, k, i, hk, h1, h2, h3 => by
    obtain ⟨k, rfl⟩ : ∃ n, k = n + 1 := ⟨k - 1, by omega⟩
    have c := cum_bd y i h1 (by omega)
    simp only [hourglassref4_Days.l0]
    by_cases h : i < m
    · obtain ⟨j, rfl⟩ : ∃ i, j = i + 1 := ⟨j - 1, by omega⟩
      have l := (len_bd y i).1 (by omega)
      have s := cum_succ y i h1
      have ih := rdays_l y m d hm1 hm2 hs hs' hd j k (i + 1) (by omega) (by omega) (by omega) (by omega)
      rw [if_pos h, rlen_f k (by omega)]
      simp only [Option.bind_some]
      rw [w64 (i + 1) (by omega) (by omega), w64 _ (by omega) (by omega), show F y + cum y i + len y i = F y + cum y (i + 1) by rw [s]; omega]
      exact ih
    · obtain rfl : i = m := by omega
      rw [if_neg h, w64 (d - 1) (by omega) (by omega), w64 _ (by omega) (by omega)]
      congr 2
      unfold days F
      omega
theorem rdays_f (k : Nat) (hk : 600 ≤ k) (y m d : Int) : hourglassref4_Days.f k y m d = some (if good y m d then (days y m d, true) else (0, false)) := by
  unfold hourglassref4_Days.f
  rw [rgood_f k (by omega)]
  simp only [Option.bind_some]
  by_cases h : good y m d
  · have hm := good_m h
    obtain ⟨h1, h2, h3, h4⟩ := id h
    have l := (len_bd y m).1 hm
    have s := F_bd y (by omega) (by omega)
    rw [decide_eq_true h, if_pos rfl, if_pos h, first_f k hk y (by omega) (by omega)]
    simp only [Option.bind_some]
    have := rdays_l y m d hm.1 hm.2 (by omega) (by omega) (by omega) (m - 1).toNat k 1 (by omega) (by omega) (by omega) (by omega)
    rw [cum_one] at this
    rw [show F y = F y + 0 by omega]
    exact this
  · rw [decide_eq_false h, if_neg h]; rfl
theorem rof_l2 (y : Int) (n : Int) : ∀ (j : Nat) (k : Nat) (m : Int), j + 3 ≤ k → 1 ≤ m → m ≤ 12 → 12 - m = j → cum y m ≤ n → n < cum y 13 →
    ∃ m' d', hourglassref4_Of.l2 k y (n - cum y m) m = some (y, m', d', true) ∧ 1 ≤ m' ∧ m' ≤ 12 ∧ 1 ≤ d' ∧ d' ≤ len y m' ∧ cum y m' + d' - 1 = n
  | j, k, m, hk, h1, h2, h3, h4, h5 => by
    obtain ⟨k, rfl⟩ : ∃ n, k = n + 1 := ⟨k - 1, by omega⟩
    have c := cum_bd y m h1 (by omega)
    have l := (len_bd y m).1 (by omega)
    have s := cum_succ y m h1
    have t := cum_13 y
    have lpp := lp_01 y
    simp only [hourglassref4_Of.l2]
    rw [rlen_f k (by omega)]
    simp only [Option.bind_some]
    by_cases h : n - cum y m ≥ len y m
    · have hm : m < 12 := by
        by_cases e : m = 12
        · subst e
          rw [show (12 : Int) + 1 = 13 by rfl] at s
          omega
        · omega
      obtain ⟨j, rfl⟩ : ∃ i, j = i + 1 := ⟨j - 1, by omega⟩
      have ih := rof_l2 y n j k (m + 1) (by omega) (by omega) (by omega) (by omega) (by omega) h5
      rw [if_pos h, w64 _ (by omega) (by omega), w64 _ (by omega) (by omega), show n - cum y m - len y m = n - cum y (m + 1) by rw [s]; omega]
      exact ih
    · rw [if_neg h, w64 _ (by omega) (by omega)]
      exact ⟨m, _, rfl, h1, h2, by omega, by omega, by omega⟩
theorem F_lo : F (-9999) = -4371587 := rfl
theorem F_hi : F 10000 = 2932897 := rfl
theorem F_mono (y z : Int) (h : y ≤ z) : F y + 365 * (z - y) ≤ F z := by unfold F st; omega
theorem rof_l0 (n : Int) (hn : -4371587 ≤ n) (hn' : n < 2932897) : ∀ (j : Nat) (k : Nat) (y : Int), j + 700 ≤ k → -10100 ≤ y → F y ≤ n → 9999 - y = j →
    ∃ y' m' d', hourglassref4_Of.l0 k n y = some (y', m', d', true) ∧ good y' m' d' ∧ days y' m' d' = n
  | j, k, y, hk, h1, h2, h3 => by
    obtain ⟨k, rfl⟩ : ∃ n, k = n + 1 := ⟨k - 1, by omega⟩
    have hb := F_bd y (by omega) (by omega)
    simp only [hourglassref4_Of.l0]
    rw [w64 (y + 1) (by omega) (by omega), first_f k (by omega) (y + 1) (by omega) (by omega)]
    simp only [Option.bind_some]
    by_cases h : F (y + 1) ≤ n
    · have hy : y < 9999 := by
        by_cases e : y = 9999
        · subst e
          rw [show (9999 : Int) + 1 = 10000 by rfl, F_hi] at h
          omega
        · omega
      obtain ⟨j, rfl⟩ : ∃ i, j = i + 1 := ⟨j - 1, by omega⟩
      rw [if_pos h]
      exact rof_l0 n hn hn' j k (y + 1) (by omega) (by omega) h (by omega)
    · rw [if_neg h]
      obtain ⟨k, rfl⟩ : ∃ n, k = n + 1 := ⟨k - 1, by omega⟩
      simp only [hourglassref4_Of.l1]
      rw [first_f k (by omega) y (by omega) (by omega)]
      simp only [Option.bind_some]
      have s := st_succ y
      have c13 := cum_13 y
      unfold F at h h2 hb
      rw [if_neg (by unfold F; omega), w64 _ (by unfold F; omega) (by unfold F; omega)]
      obtain ⟨m', d', e, a1, a2, a3, a4, a5⟩ := rof_l2 y (n - F y) 11 k 1 (by omega) (by omega) (by omega) (by omega) (by rw [cum_one]; unfold F; omega) (by unfold F; omega)
      rw [cum_one, Int.sub_zero] at e
      have hy : -9999 ≤ y := by
        by_cases e : -9999 ≤ y
        · exact e
        · have := st_mono (y + 1) (-9999) (by omega)
          rw [st_lo] at this
          omega
      refine ⟨y, m', d', e, ⟨hy, by omega, a3, a4⟩, ?_⟩
      unfold days
      unfold F at a5
      omega
theorem rof_yes (k : Nat) (hk : 21000 ≤ k) (n : Int) (h0 : -4371587 ≤ n) (h1 : n < 2932897) :
    ∃ y m d, hourglassref4_Of.f k n = some (y, m, d, true) ∧ good y m d ∧ days y m d = n := by
  obtain ⟨k, rfl⟩ : ∃ n, k = n + 2 := ⟨k - 2, by omega⟩
  unfold hourglassref4_Of.f
  rw [first_f _ (by omega) (-9999) (by omega) (by omega), first_f _ (by omega) 10000 (by omega) (by omega), F_lo, F_hi]
  simp only [Option.bind_some]
  rw [if_neg (by omega), decide_eq_false (by omega)]
  simp only [hourglassref4_Of.j0]
  rw [if_neg (by decide)]
  have d1 := td n 365
  have d2 := td n 366
  by_cases h : n < 0
  · rw [if_pos h, d1.2 h, w64 (-(-n / 365)) (by omega) (by omega), w64 (1970 + _) (by omega) (by omega), w64 (1970 + _ - 1) (by omega) (by omega)]
    simp only [hourglassref4_Of.j1]
    exact rof_l0 n h0 h1 (9999 - (1970 + -(-n / 365) - 1)).toNat k _ (by omega) (by omega) (by unfold F st; omega) (by omega)
  · rw [if_neg h, d2.1 (by omega), w64 (n / 366) (by omega) (by omega), w64 (1970 + _) (by omega) (by omega)]
    simp only [hourglassref4_Of.j1]
    exact rof_l0 n h0 h1 (9999 - (1970 + n / 366)).toNat k _ (by omega) (by omega) (by unfold F st; omega) (by omega)
theorem rof_no (k : Nat) (hk : 700 ≤ k) (n : Int) (h : n < -4371587 ∨ 2932897 ≤ n) : hourglassref4_Of.f k n = some (0, 0, 0, false) := by
  obtain ⟨k, rfl⟩ : ∃ n, k = n + 2 := ⟨k - 2, by omega⟩
  unfold hourglassref4_Of.f
  rw [first_f _ (by omega) (-9999) (by omega) (by omega), first_f _ (by omega) 10000 (by omega) (by omega), F_lo, F_hi]
  simp only [Option.bind_some]
  by_cases h1 : n < -4371587
  · rw [if_pos h1]; rfl
  · rw [if_neg h1, decide_eq_true (by omega)]; rfl
theorem rwd_f (n : Int) : hourglassref4_Weekday.f n = some ((n + 3) % 7) := by
  have a := tm n 7
  unfold hourglassref4_Weekday.f
  congr 1
  by_cases h : 0 ≤ n
  · rw [a.1 h, w64 (n % 7 + 7) (by omega) (by omega), w64 _ (by omega) (by omega), (tm _ 7).1 (by omega)]; omega
  · rw [a.2 (by omega), w64 (-(-n % 7) + 7) (by omega) (by omega), w64 _ (by omega) (by omega), (tm _ 7).1 (by omega)]; omega

theorem str_one (n : Int) (h0 : 0 ≤ n) : strOfNums [(wrap64 (48 + Int.tmod n 10)) % 256] = ⟨[dg (n % 10)].toArray⟩ := by
  rw [(tm n 10).1 h0, w64 _ (by omega) (by omega), show (48 + n % 10) % 256 = 48 + n % 10 by omega]
  have : (48 + n % 10).toNat = 48 + (n % 10).toNat := by omega
  unfold strOfNums dg
  simp [this]
theorem pad_step (k : Nat) (n most i : Int) (l : List UInt8) (h0 : 0 ≤ n) (hn : n ≤ 1000000) (hi : i < most) (i0 : 0 ≤ i) (i1 : i ≤ 100) (hl : l.length ≤ 100) (i' : Int) (hi' : i' = i + 1) :
    hourglassref4_pad.l0 (k + 1) n most ⟨l.toArray⟩ i = hourglassref4_pad.l0 k (n / 10) most ⟨(dg (n % 10) :: l).toArray⟩ i' := by
  simp only [hourglassref4_pad.l0]
  rw [if_pos hi]
  simp only [Option.bind_some]
  rw [str_one n h0, if_pos (by simp [ByteArray.size]; omega), (td n 10).1 h0, w64 _ (by omega) (by omega), w64 (i + 1) (by omega) (by omega), ByteArray.mk_append_mk, hi']
  rfl
theorem pad_end (k : Nat) (n most i : Int) (s : ByteArray) (hi : ¬ i < most) : hourglassref4_pad.l0 (k + 1) n most s i = some s := by
  simp only [hourglassref4_pad.l0]
  rw [if_neg hi]
theorem pad_2 (k : Nat) (hk : 3 ≤ k) (n : Int) (h0 : 0 ≤ n) (h1 : n < 100) : hourglassref4_pad.f k n 2 = some ⟨(tw n).toArray⟩ := by
  obtain ⟨k, rfl⟩ : ∃ j, k = j + 3 := ⟨k - 3, by omega⟩
  unfold hourglassref4_pad.f
  rw [show (⟨#[]⟩ : ByteArray) = ⟨([] : List UInt8).toArray⟩ from rfl, pad_step _ n 2 0 [] h0 (by omega) (by omega) (by omega) (by omega) (by simp) 1 rfl, pad_step _ _ 2 1 _ (by omega) (by omega) (by omega) (by omega) (by omega) (by simp) 2 rfl, pad_end _ _ _ _ _ (by omega),
    tw_is n h0 h1, show n / 10 % 10 = n / 10 by omega]
theorem pad_4 (k : Nat) (hk : 5 ≤ k) (n : Int) (h0 : 0 ≤ n) (h1 : n < 10000) : hourglassref4_pad.f k n 4 = some ⟨(tw (n / 100) ++ tw (n % 100)).toArray⟩ := by
  obtain ⟨k, rfl⟩ : ∃ j, k = j + 5 := ⟨k - 5, by omega⟩
  unfold hourglassref4_pad.f
  rw [show (⟨#[]⟩ : ByteArray) = ⟨([] : List UInt8).toArray⟩ from rfl, pad_step _ n 4 0 [] h0 (by omega) (by omega) (by omega) (by omega) (by simp) 1 rfl, pad_step _ _ 4 1 _ (by omega) (by omega) (by omega) (by omega) (by omega) (by simp) 2 rfl,
    pad_step _ _ 4 2 _ (by omega) (by omega) (by omega) (by omega) (by omega) (by simp) 3 rfl, pad_step _ _ 4 3 _ (by omega) (by omega) (by omega) (by omega) (by omega) (by simp) 4 rfl, pad_end _ _ _ _ _ (by omega),
    tw_is _ (by omega) (by omega), tw_is _ (by omega) (by omega), show n / 10 / 10 / 10 % 10 = n / 100 / 10 by omega, show n / 10 / 10 % 10 = n / 100 % 10 by omega, show n / 10 % 10 = n % 100 / 10 by omega, show n % 10 = n % 100 % 10 by omega]
  rfl
theorem tw_l (n : Int) (h0 : 0 ≤ n) (h1 : n < 100) : (tw n).length = 2 := by rw [tw_is n h0 h1]; rfl
theorem rtext_f (k : Nat) (hk : 10 ≤ k) (y m d : Int) : hourglassref4_Text.f k y m d = some (if good y m d then ⟨(txl y m d).toArray⟩ else ⟨#[]⟩) := by
  unfold hourglassref4_Text.f
  rw [rgood_f k (by omega)]
  simp only [Option.bind_some]
  by_cases g : good y m d
  · have hm := good_m g
    obtain ⟨a1, a2, a3, a4⟩ := id g
    have l1 := (len_bd y m).1 hm
    rw [if_pos (decide_eq_true g), if_neg (by omega), if_pos g, pad_2 k (by omega) m (by omega) (by omega), pad_2 k (by omega) d (by omega) (by omega)]
    have t1 := tw_l m (by omega) (by omega)
    have t2 := tw_l d (by omega) (by omega)
    unfold hourglassref4_Text.t txl
    by_cases hy : y < 0
    · have t3 := tw_l (-y / 100) (by omega) (by omega)
      have t4 := tw_l (-y % 100) (by omega) (by omega)
      rw [if_pos hy, if_pos hy, if_pos hy, pad_4 k (by omega) _ (by omega) (by omega)]
      simp only [Option.bind_some]
      rw [if_pos (by simp [ByteArray.size]; omega), show (⟨#[45]⟩ : ByteArray) = ⟨[45].toArray⟩ from rfl]
      simp only [ByteArray.mk_append_mk]
      rw [if_pos (by simp [ByteArray.size]; omega)]
      simp
    · have t3 := tw_l (y / 100) (by omega) (by omega)
      have t4 := tw_l (y % 100) (by omega) (by omega)
      rw [if_neg hy, if_neg hy, if_neg hy, pad_4 k (by omega) _ (by omega) (by omega)]
      simp only [Option.bind_some]
      rw [show (⟨#[45]⟩ : ByteArray) = ⟨[45].toArray⟩ from rfl]
      simp only [ByteArray.mk_append_mk]
      rw [if_pos (by simp [ByteArray.size]; omega)]
      simp
  · rw [if_neg (by simpa using g), if_neg g]
end Go.Proofs.YtbgdpkpljkcnfaaDoor.Cal
