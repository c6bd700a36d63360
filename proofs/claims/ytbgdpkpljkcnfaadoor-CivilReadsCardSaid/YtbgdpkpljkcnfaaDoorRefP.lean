/- How the document reads a date's text: the same dates. Conditions: each theorem's own. -/
import Derived.Test.YtbgdpkpljkcnfaaDoorRefT
namespace Go.Proofs.YtbgdpkpljkcnfaaDoor.Cal
open Go.RowKit Go.Proofs.YtbgdpkpljkcnfaaDoor.QCivil Go.Proofs.YtbgdpkpljkcnfaaDoorW.PrintWords
set_option linter.unusedVariables false
set_option linter.unusedSimpArgs false
theorem dig_step (k : Nat) (s : ByteArray) (v i : Int) (h0 : 0 ≤ i) (h1 : i < (s.size : Int)) (c0 : 48 ≤ bt s i) (c1 : bt s i ≤ 57) :
    hourglassref4_digits.l0 (k + 2) s v i = hourglassref4_digits.l0 k s (wrap64 (wrap64 (10 * v) + (bt s i - 48) % 256)) (wrap64 (i + 1)) := by
  simp only [hourglassref4_digits.l0]
  rw [if_pos h1, if_pos h0, if_neg (by omega), decide_eq_false (by omega)]
  simp only [hourglassref4_digits.j1]
  rw [if_neg (by decide), if_pos h0, if_pos h1]
theorem dig_bad (k : Nat) (s : ByteArray) (v i : Int) (h0 : 0 ≤ i) (h1 : i < (s.size : Int)) (c : bt s i < 48 ∨ 57 < bt s i) :
    hourglassref4_digits.l0 (k + 2) s v i = some (-1) := by
  simp only [hourglassref4_digits.l0]
  rw [if_pos h1, if_pos h0]
  by_cases h : bt s i < 48
  · rw [if_pos h]; simp only [hourglassref4_digits.j1]; rfl
  · rw [if_neg h, decide_eq_true (by omega)]; simp only [hourglassref4_digits.j1]; rfl
theorem dig_end (k : Nat) (s : ByteArray) (v i : Int) (h : ¬ i < (s.size : Int)) : hourglassref4_digits.l0 (k + 1) s v i = some v := by
  simp only [hourglassref4_digits.l0]
  rw [if_neg h]
theorem dig_tot (s : ByteArray) (hs : (s.size : Int) ≤ 1000) : ∀ (j k : Nat) (v i : Int), 2 * j + 1 ≤ k → 0 ≤ i → (s.size : Int) - i = j → ∃ v', hourglassref4_digits.l0 k s v i = some v'
  | 0, k, v, i, hk, h0, h1 => by
    obtain ⟨k, rfl⟩ : ∃ n, k = n + 1 := ⟨k - 1, by omega⟩
    exact ⟨_, dig_end k s v i (by omega)⟩
  | j + 1, k, v, i, hk, h0, h1 => by
    obtain ⟨k, rfl⟩ : ∃ n, k = n + 2 := ⟨k - 2, by omega⟩
    by_cases c : 48 ≤ bt s i ∧ bt s i ≤ 57
    · obtain ⟨v', e⟩ := dig_tot s hs j k (wrap64 (wrap64 (10 * v) + (bt s i - 48) % 256)) (wrap64 (i + 1)) (by omega) (by rw [w64 _ (by omega) (by omega)]; omega) (by rw [w64 _ (by omega) (by omega)]; omega)
      exact ⟨v', by rw [dig_step k s v i h0 (by omega) c.1 c.2]; exact e⟩
    · exact ⟨_, dig_bad k s v i h0 (by omega) (by omega)⟩
theorem dig_any (k : Nat) (s : ByteArray) (hs : s.size ≤ 50) (hk : 101 ≤ k) : ∃ v, hourglassref4_digits.f k s = some v :=
  dig_tot s (by omega) s.size k 0 0 (by omega) (by omega) (by omega)
theorem dig_n (s : ByteArray) (j : Nat) (v i i' x : Int) (hi : i' = i + 1) (v0 : 0 ≤ v) (v1 : v ≤ 10000) (i0 : 0 ≤ i) (i1 : i < (s.size : Int)) (sz : (s.size : Int) ≤ 4) (e : bt s i = 48 + x) (x0 : 0 ≤ x) (x1 : x < 10) :
    hourglassref4_digits.l0 (j + 2) s v i = hourglassref4_digits.l0 j s (10 * v + x) i' := by
  rw [dig_step _ _ _ _ i0 (by omega) (by omega) (by omega), e, w64 (10 * v) (by omega) (by omega), w64 (i + 1) (by omega) (by omega), w64 (10 * v + _) (by omega) (by omega), show (48 + x - 48) % 256 = x by omega, hi]
theorem dig_2 (k : Nat) (hk : 5 ≤ k) (a b : Int) (ha : 0 ≤ a ∧ a < 10) (hb : 0 ≤ b ∧ b < 10) : hourglassref4_digits.f k ⟨#[dg a, dg b]⟩ = some (10 * a + b) := by
  obtain ⟨k, rfl⟩ : ∃ n, k = n + 5 := ⟨k - 5, by omega⟩
  have e0 : bt ⟨#[dg a, dg b]⟩ 0 = 48 + a := bt_dg a ha.1 ha.2
  have e1 : bt ⟨#[dg a, dg b]⟩ 1 = 48 + b := bt_dg b hb.1 hb.2
  have sz : ((⟨#[dg a, dg b]⟩ : ByteArray).size : Int) = 2 := rfl
  unfold hourglassref4_digits.f
  rw [dig_n _ _ 0 0 1 a rfl (by omega) (by omega) (by omega) (by omega) (by omega) e0 (by omega) (by omega), dig_n _ _ _ 1 2 b rfl (by omega) (by omega) (by omega) (by omega) (by omega) e1 (by omega) (by omega), dig_end _ _ _ _ (by omega)]
  congr 1
  omega
theorem dig_4 (k : Nat) (hk : 9 ≤ k) (a b c d : Int) (ha : 0 ≤ a ∧ a < 10) (hb : 0 ≤ b ∧ b < 10) (hc : 0 ≤ c ∧ c < 10) (hd : 0 ≤ d ∧ d < 10) : hourglassref4_digits.f k ⟨#[dg a, dg b, dg c, dg d]⟩ = some (1000 * a + 100 * b + 10 * c + d) := by
  obtain ⟨k, rfl⟩ : ∃ n, k = n + 9 := ⟨k - 9, by omega⟩
  have e0 : bt ⟨#[dg a, dg b, dg c, dg d]⟩ 0 = 48 + a := bt_dg a ha.1 ha.2
  have e1 : bt ⟨#[dg a, dg b, dg c, dg d]⟩ 1 = 48 + b := bt_dg b hb.1 hb.2
  have e2 : bt ⟨#[dg a, dg b, dg c, dg d]⟩ 2 = 48 + c := bt_dg c hc.1 hc.2
  have e3 : bt ⟨#[dg a, dg b, dg c, dg d]⟩ 3 = 48 + d := bt_dg d hd.1 hd.2
  have sz : ((⟨#[dg a, dg b, dg c, dg d]⟩ : ByteArray).size : Int) = 4 := rfl
  unfold hourglassref4_digits.f
  rw [dig_n _ _ 0 0 1 a rfl (by omega) (by omega) (by omega) (by omega) (by omega) e0 (by omega) (by omega), dig_n _ _ _ 1 2 b rfl (by omega) (by omega) (by omega) (by omega) (by omega) e1 (by omega) (by omega),
    dig_n _ _ _ 2 3 c rfl (by omega) (by omega) (by omega) (by omega) (by omega) e2 (by omega) (by omega), dig_n _ _ _ 3 4 d rfl (by omega) (by omega) (by omega) (by omega) (by omega) e3 (by omega) (by omega), dig_end _ _ _ _ (by omega)]
  congr 1
  omega
theorem ne_of_text (t s : ByteArray) (h : s ≠ t) : (t.toList != s.toList) = true := by
  rw [bne_iff_ne]
  intro e
  apply h
  apply ByteArray.ext
  rw [ByteArray.toList_eq, ByteArray.toList_eq] at e
  exact (Array.toList_inj.mp e).symm
theorem rj2_any (k : Nat) (hk : 120 ≤ k) (s t : ByteArray) (ht : t.size ≤ 50) (z : (t.size : Int) = 10) (hs0 : s.size ≠ 0) (sg : Int) (b : Bool) :
    (∃ y m d, hourglassref4_Parse.j2 k s t sg b = some (y, m, d, true) ∧ good y m d ∧ s = ⟨(txl y m d).toArray⟩) ∨ hourglassref4_Parse.j2 k s t sg b = some (0, 0, 0, false) := by
  obtain ⟨k, rfl⟩ : ∃ n, k = n + 2 := ⟨k - 2, by omega⟩
  simp only [hourglassref4_Parse.j2]
  cases b with
  | true => exact .inr rfl
  | false =>
    obtain ⟨v1, e1⟩ := dig_any (k + 1) (t.extract 0 4) (by rw [ByteArray.size_extract]; omega) (by omega)
    obtain ⟨v2, e2⟩ := dig_any (k + 1) (t.extract 5 7) (by rw [ByteArray.size_extract]; omega) (by omega)
    obtain ⟨v3, e3⟩ := dig_any (k + 1) (t.extract 8 t.size) (by rw [ByteArray.size_extract]; omega) (by omega)
    have no : ∀ y m d, hourglassref4_Parse.j3 (k + 1) true y m d = some (0, 0, 0, false) := fun _ _ _ => rfl
    rw [if_neg (by decide), if_pos (by decide), if_pos (by omega), e1]
    simp only [Option.bind_some]
    rw [if_pos (by decide), if_pos (by omega), e2]
    simp only [Option.bind_some]
    rw [if_pos (by omega), e3]
    simp only [Option.bind_some]
    by_cases h : v1 < 0
    · rw [if_pos h]
      exact .inr (no _ _ _)
    · rw [if_neg h, rtext_f _ (by omega)]
      simp only [Option.bind_some]
      by_cases g : good (wrap64 (sg * v1)) v2 v3
      · rw [if_pos g]
        by_cases e : s = ⟨(txl (wrap64 (sg * v1)) v2 v3).toArray⟩
        · left
          refine ⟨wrap64 (sg * v1), v2, v3, ?_, g, e⟩
          rw [show ((⟨(txl (wrap64 (sg * v1)) v2 v3).toArray⟩ : ByteArray).toList != s.toList) = false by rw [e]; simp]
          rfl
        · rw [ne_of_text _ _ e]
          exact .inr (no _ _ _)
      · rw [if_neg g, ne_of_text _ _ (fun e => hs0 (by rw [e]; rfl))]
        exact .inr (no _ _ _)
theorem rj1_any (k : Nat) (hk : 130 ≤ k) (s t : ByteArray) (ht : t.size ≤ 50) (h0 : s.size ≠ 0 ∨ ¬ (t.size : Int) = 10) (sg : Int) :
    (∃ y m d, hourglassref4_Parse.j1 k s t sg = some (y, m, d, true) ∧ good y m d ∧ s = ⟨(txl y m d).toArray⟩) ∨ hourglassref4_Parse.j1 k s t sg = some (0, 0, 0, false) := by
  obtain ⟨k, rfl⟩ : ∃ n, k = n + 1 := ⟨k - 1, by omega⟩
  have no : hourglassref4_Parse.j2 k s t sg true = some (0, 0, 0, false) := by
    obtain ⟨k, rfl⟩ : ∃ n, k = n + 1 := ⟨k - 1, by omega⟩
    rfl
  simp only [hourglassref4_Parse.j1]
  by_cases z : (t.size : Int) = 10
  · rw [if_pos z, if_pos (by omega)]
    by_cases c : bt t 4 = 45
    · rw [if_pos c, if_pos (by omega)]
      exact rj2_any k (by omega) s t ht z (h0.elim id (fun h => absurd z h)) sg _
    · rw [if_neg c]; exact .inr no
  · rw [if_neg z]; exact .inr no
theorem rparse_any (k : Nat) (hk : 150 ≤ k) (s : ByteArray) (hs : s.size ≤ 50) :
    (∃ y m d, hourglassref4_Parse.f k s = some (y, m, d, true) ∧ good y m d ∧ s = ⟨(txl y m d).toArray⟩) ∨ hourglassref4_Parse.f k s = some (0, 0, 0, false) := by
  obtain ⟨k, rfl⟩ : ∃ n, k = n + 1 := ⟨k - 1, by omega⟩
  unfold hourglassref4_Parse.f
  by_cases h : (s.size : Int) > 0
  · rw [if_pos h, if_pos (by omega)]
    simp only [hourglassref4_Parse.j0]
    by_cases c : (bt s 0 == 45) = true
    · rw [if_pos c, if_pos (by omega)]
      exact rj1_any k (by omega) s _ (by rw [ByteArray.size_extract]; omega) (.inl (by omega)) _
    · rw [if_neg c]
      exact rj1_any k (by omega) s _ hs (.inl (by omega)) _
  · rw [if_neg h]
    simp only [hourglassref4_Parse.j0]
    rw [if_neg (by decide)]
    exact rj1_any k (by omega) s _ hs (.inr (by omega)) _
theorem rj1_is (k : Nat) (hk : 30 ≤ k) (S : ByteArray) (a y m d sg : Int) (g : good y m d) (hS : S = ⟨(txl y m d).toArray⟩) (ha : 0 ≤ a ∧ a ≤ 9999) (hm : 0 ≤ m ∧ m < 100) (hd : 0 ≤ d ∧ d < 100) (hy : y = sg * a) :
    hourglassref4_Parse.j1 k S ⟨#[dg (a / 100 / 10), dg (a / 100 % 10), dg (a % 100 / 10), dg (a % 100 % 10), 45, dg (m / 10), dg (m % 10), 45, dg (d / 10), dg (d % 10)]⟩ sg = some (y, m, d, true) := by
  obtain ⟨k, rfl⟩ : ∃ n, k = n + 3 := ⟨k - 3, by omega⟩
  obtain ⟨c1, c2, c3⟩ := cut_10 (dg (a / 100 / 10)) (dg (a / 100 % 10)) (dg (a % 100 / 10)) (dg (a % 100 % 10)) 45 (dg (m / 10)) (dg (m % 10)) 45 (dg (d / 10)) (dg (d % 10))
  obtain ⟨t, ht⟩ : ∃ t : ByteArray, ⟨#[dg (a / 100 / 10), dg (a / 100 % 10), dg (a % 100 / 10), dg (a % 100 % 10), 45, dg (m / 10), dg (m % 10), 45, dg (d / 10), dg (d % 10)]⟩ = t := ⟨_, rfl⟩
  have z10 : (t.size : Int) = 10 := by rw [← ht]; rfl
  have b4 : bt t 4 = 45 := by rw [← ht]; rfl
  have b7 : (bt t 7 != 45) = false := by rw [← ht]; rfl
  rw [ht] at c1 c2 c3 ⊢
  clear ht
  obtain ⟨gy1, gy2, _, _⟩ := id g
  simp only [hourglassref4_Parse.j1]
  rw [if_pos z10, if_pos (by omega), if_pos b4, if_pos (by omega), b7]
  simp only [hourglassref4_Parse.j2]
  rw [if_neg (by decide), if_pos (by decide), if_pos (by omega), c1, dig_4 _ (by omega) _ _ _ _ (by omega) (by omega) (by omega) (by omega)]
  simp only [Option.bind_some]
  rw [if_pos (by decide), if_pos (by omega), c2, dig_2 _ (by omega) _ _ (by omega) (by omega)]
  simp only [Option.bind_some]
  rw [if_pos (by omega), c3, dig_2 _ (by omega) _ _ (by omega) (by omega)]
  simp only [Option.bind_some]
  rw [if_neg (by omega), show 1000 * (a / 100 / 10) + 100 * (a / 100 % 10) + 10 * (a % 100 / 10) + a % 100 % 10 = a by omega, show 10 * (m / 10) + m % 10 = m by omega, show 10 * (d / 10) + d % 10 = d by omega, ← hy, w64 y (by omega) (by omega), rtext_f _ (by omega), if_pos g]
  simp only [Option.bind_some]
  rw [hS, show ((⟨(txl y m d).toArray⟩ : ByteArray).toList != (⟨(txl y m d).toArray⟩ : ByteArray).toList) = false by simp]
  rfl
theorem rparse_is (k : Nat) (hk : 40 ≤ k) (y m d : Int) (g : good y m d) : hourglassref4_Parse.f k ⟨(txl y m d).toArray⟩ = some (y, m, d, true) := by
  obtain ⟨a, ha⟩ : ∃ a : Int, a = if y < 0 then -y else y := ⟨_, rfl⟩
  have hm := good_m g
  obtain ⟨a1, a2, a3, a4⟩ := id g
  have l1 := (len_bd y m).1 hm
  have hb : 0 ≤ a ∧ a ≤ 9999 := by rw [ha]; split <;> omega
  obtain ⟨k, rfl⟩ : ∃ n, k = n + 1 := ⟨k - 1, by omega⟩
  have E := txl_10 y m d g a ha
  have c0 := cut_11 45 (dg (a / 100 / 10)) (dg (a / 100 % 10)) (dg (a % 100 / 10)) (dg (a % 100 % 10)) 45 (dg (m / 10)) (dg (m % 10)) 45 (dg (d / 10)) (dg (d % 10))
  unfold hourglassref4_Parse.f
  by_cases hy : y < 0
  · rw [if_pos hy] at ha E
    have J := rj1_is k (by omega) ⟨(txl y m d).toArray⟩ a y m d (-1) g rfl hb (by omega) (by omega) (by omega)
    rw [E] at J ⊢
    have z11 : (((⟨([45] ++ [dg (a / 100 / 10), dg (a / 100 % 10), dg (a % 100 / 10), dg (a % 100 % 10), 45, dg (m / 10), dg (m % 10), 45, dg (d / 10), dg (d % 10)]).toArray⟩ : ByteArray)).size : Int) = 11 := rfl
    rw [if_pos (by omega), if_pos (by omega)]
    simp only [hourglassref4_Parse.j0]
    have b0 : bt (⟨([45] ++ [dg (a / 100 / 10), dg (a / 100 % 10), dg (a % 100 / 10), dg (a % 100 % 10), 45, dg (m / 10), dg (m % 10), 45, dg (d / 10), dg (d % 10)]).toArray⟩ : ByteArray) 0 = 45 := rfl
    rw [if_pos (beq_iff_eq.mpr b0), if_pos (by omega)]
    exact (congrArg (fun t => hourglassref4_Parse.j1 k _ t (-1)) c0).trans J
  · rw [if_neg hy] at ha E
    have J := rj1_is k (by omega) ⟨(txl y m d).toArray⟩ a y m d 1 g rfl hb (by omega) (by omega) (by omega)
    rw [E] at J ⊢
    have z10 : (((⟨([] ++ [dg (a / 100 / 10), dg (a / 100 % 10), dg (a % 100 / 10), dg (a % 100 % 10), 45, dg (m / 10), dg (m % 10), 45, dg (d / 10), dg (d % 10)]).toArray⟩ : ByteArray)).size : Int) = 10 := rfl
    have b0 : bt (⟨([] ++ [dg (a / 100 / 10), dg (a / 100 % 10), dg (a % 100 / 10), dg (a % 100 % 10), 45, dg (m / 10), dg (m % 10), 45, dg (d / 10), dg (d % 10)]).toArray⟩ : ByteArray) 0 = 48 + a / 100 / 10 := bt_dg _ (by omega) (by omega)
    rw [if_pos (by omega), if_pos (by omega)]
    simp only [hourglassref4_Parse.j0]
    rw [if_neg (by rw [beq_iff_eq, b0]; omega)]
    exact J
theorem reads_f (s : ByteArray) : hourglasslaw4_CivilReads.f 200 s = some true := by
  unfold hourglasslaw4_CivilReads.f
  rw [awake_k _ (by omega)]
  simp only [Option.bind_some]
  rw [if_pos trivial]
  by_cases h : (s.size : Int) > 50
  · rw [if_pos h]
  · rw [if_neg h]
    unfold hourglasslaw4_own.f
    rcases parse_any 200 (by omega) s (by omega) with ⟨y, m, d, e, g, rfl⟩ | e
    · rw [e, rparse_is 200 (by omega) y m d g]
      simp
    · rcases rparse_any 200 (by omega) s (by omega) with ⟨y, m, d, e', g, rfl⟩ | e'
      · rw [parse_is 200 (by omega) y m d g] at e
        simp at e
      · rw [e, e']
        simp
end Go.Proofs.YtbgdpkpljkcnfaaDoor.Cal
