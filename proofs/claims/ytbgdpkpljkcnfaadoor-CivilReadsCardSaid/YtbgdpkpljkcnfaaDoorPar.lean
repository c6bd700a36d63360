/- How a date's text is read again, by the program: which texts are dates. Conditions: each theorem's own. -/
import Derived.Test.YtbgdpkpljkcnfaaDoorTxt
namespace Go.Proofs.YtbgdpkpljkcnfaaDoor.Cal
open Go.RowKit Go.Proofs.YtbgdpkpljkcnfaaDoor.QCivil Go.Proofs.YtbgdpkpljkcnfaaDoorW.PrintWords
set_option linter.unusedVariables false
set_option linter.unusedSimpArgs false

theorem num_step (k : Nat) (s : ByteArray) (v i : Int) (h0 : 0 ≤ i) (h1 : i < (s.size : Int)) (c0 : 48 ≤ bt s i) (c1 : bt s i ≤ 57) :
    civil_number.l0 (k + 2) s v (s.size : Int) i = civil_number.l0 k s (wrap64 (wrap64 (10 * v) + (bt s i - 48) % 256)) (s.size : Int) (wrap64 (i + 1)) := by
  simp only [civil_number.l0]
  rw [if_pos h1, if_pos h0, if_pos h1, if_neg (by omega), decide_eq_false (by omega)]
  simp only [civil_number.j1]
  rw [if_neg (by decide), if_pos h0, if_pos h1]
theorem num_bad (k : Nat) (s : ByteArray) (v i : Int) (h0 : 0 ≤ i) (h1 : i < (s.size : Int)) (c : bt s i < 48 ∨ 57 < bt s i) :
    civil_number.l0 (k + 2) s v (s.size : Int) i = some (0, false) := by
  simp only [civil_number.l0]
  rw [if_pos h1, if_pos h0, if_pos h1]
  by_cases h : bt s i < 48
  · rw [if_pos h]; simp only [civil_number.j1]; rfl
  · rw [if_neg h, decide_eq_true (by omega)]; simp only [civil_number.j1]; rfl
theorem num_end (k : Nat) (s : ByteArray) (v i : Int) (h : ¬ i < (s.size : Int)) : civil_number.l0 (k + 1) s v (s.size : Int) i = some (v, true) := by
  simp only [civil_number.l0]
  rw [if_neg h]
theorem num_tot (s : ByteArray) (hs : (s.size : Int) ≤ 1000) : ∀ (j k : Nat) (v i : Int), 2 * j + 1 ≤ k → 0 ≤ i → (s.size : Int) - i = j → ∃ v' ok, civil_number.l0 k s v (s.size : Int) i = some (v', ok)
  | 0, k, v, i, hk, h0, h1 => by
    obtain ⟨k, rfl⟩ : ∃ n, k = n + 1 := ⟨k - 1, by omega⟩
    exact ⟨_, _, num_end k s v i (by omega)⟩
  | j + 1, k, v, i, hk, h0, h1 => by
    obtain ⟨k, rfl⟩ : ∃ n, k = n + 2 := ⟨k - 2, by omega⟩
    by_cases c : 48 ≤ bt s i ∧ bt s i ≤ 57
    · obtain ⟨v', ok, e⟩ := num_tot s hs j k (wrap64 (wrap64 (10 * v) + (bt s i - 48) % 256)) (wrap64 (i + 1)) (by omega) (by rw [w64 _ (by omega) (by omega)]; omega) (by rw [w64 _ (by omega) (by omega)]; omega)
      exact ⟨v', ok, by rw [num_step k s v i h0 (by omega) c.1 c.2]; exact e⟩
    · exact ⟨_, _, num_bad k s v i h0 (by omega) (by omega)⟩
theorem num_any (k : Nat) (s : ByteArray) (hs : s.size ≤ 50) (hk : 101 ≤ k) : ∃ v ok, civil_number.f k s = some (v, ok) :=
  num_tot s (by omega) s.size k 0 0 (by omega) (by omega) (by omega)
theorem bt_dg (n : Int) (h0 : 0 ≤ n) (h1 : n < 10) : ((dg n).toNat : Int) = 48 + n := by
  rw [dg_nat n h0 h1]; omega
theorem num_2 (k : Nat) (hk : 5 ≤ k) (a b : Int) (ha : 0 ≤ a ∧ a < 10) (hb : 0 ≤ b ∧ b < 10) : civil_number.f k ⟨#[dg a, dg b]⟩ = some (10 * a + b, true) := by
  obtain ⟨k, rfl⟩ : ∃ n, k = n + 5 := ⟨k - 5, by omega⟩
  have e0 : bt ⟨#[dg a, dg b]⟩ 0 = 48 + a := bt_dg a ha.1 ha.2
  have e1 : bt ⟨#[dg a, dg b]⟩ 1 = 48 + b := bt_dg b hb.1 hb.2
  have sz : ((⟨#[dg a, dg b]⟩ : ByteArray).size : Int) = 2 := rfl
  unfold civil_number.f
  rw [num_step _ _ _ _ (by omega) (by omega) (by omega) (by omega), e0, w64 (10 * 0) (by omega) (by omega), w64 (10 * 0 + _) (by omega) (by omega), w64 (0 + 1) (by omega) (by omega),
    show (0 : Int) + 1 = 1 from rfl, num_step _ _ _ _ (by omega) (by omega) (by omega) (by omega), e1, w64 (10 * (10 * 0 + (48 + a - 48) % 256)) (by omega) (by omega), w64 (10 * (10 * 0 + (48 + a - 48) % 256) + _) (by omega) (by omega), w64 (1 + 1) (by omega) (by omega),
    num_end _ _ _ _ (by omega)]
  congr 2
  omega
theorem num_4 (k : Nat) (hk : 9 ≤ k) (a b c d : Int) (ha : 0 ≤ a ∧ a < 10) (hb : 0 ≤ b ∧ b < 10) (hc : 0 ≤ c ∧ c < 10) (hd : 0 ≤ d ∧ d < 10) : civil_number.f k ⟨#[dg a, dg b, dg c, dg d]⟩ = some (1000 * a + 100 * b + 10 * c + d, true) := by
  obtain ⟨k, rfl⟩ : ∃ n, k = n + 9 := ⟨k - 9, by omega⟩
  have e0 : bt ⟨#[dg a, dg b, dg c, dg d]⟩ 0 = 48 + a := bt_dg a ha.1 ha.2
  have e1 : bt ⟨#[dg a, dg b, dg c, dg d]⟩ 1 = 48 + b := bt_dg b hb.1 hb.2
  have e2 : bt ⟨#[dg a, dg b, dg c, dg d]⟩ 2 = 48 + c := bt_dg c hc.1 hc.2
  have e3 : bt ⟨#[dg a, dg b, dg c, dg d]⟩ 3 = 48 + d := bt_dg d hd.1 hd.2
  have sz : ((⟨#[dg a, dg b, dg c, dg d]⟩ : ByteArray).size : Int) = 4 := rfl
  have st : ∀ (j : Nat) (v i i' x : Int), i' = i + 1 → 0 ≤ v → v ≤ 10000 → 0 ≤ i → i < 4 → bt ⟨#[dg a, dg b, dg c, dg d]⟩ i = 48 + x → 0 ≤ x → x < 10 →
      civil_number.l0 (j + 2) ⟨#[dg a, dg b, dg c, dg d]⟩ v ((⟨#[dg a, dg b, dg c, dg d]⟩ : ByteArray).size : Int) i = civil_number.l0 j ⟨#[dg a, dg b, dg c, dg d]⟩ (10 * v + x) ((⟨#[dg a, dg b, dg c, dg d]⟩ : ByteArray).size : Int) i' := by
    intro j v i i' x hi v0 v1 i0 i1 e x0 x1
    rw [num_step _ _ _ _ i0 (by omega) (by omega) (by omega), e, w64 (10 * v) (by omega) (by omega), w64 (i + 1) (by omega) (by omega), w64 (10 * v + _) (by omega) (by omega), show (48 + x - 48) % 256 = x by omega, hi]
  unfold civil_number.f
  rw [st _ 0 0 1 a rfl (by omega) (by omega) (by omega) (by omega) e0 (by omega) (by omega), st _ _ 1 2 b rfl (by omega) (by omega) (by omega) (by omega) e1 (by omega) (by omega),
    st _ _ 2 3 c rfl (by omega) (by omega) (by omega) (by omega) e2 (by omega) (by omega), st _ _ 3 4 d rfl (by omega) (by omega) (by omega) (by omega) e3 (by omega) (by omega), num_end _ _ _ _ (by omega)]
  congr 2
  omega

/-! Ten bytes, cut. -/
theorem cut_10 (c0 c1 c2 c3 c4 c5 c6 c7 c8 c9 : UInt8) :
    (⟨#[c0, c1, c2, c3, c4, c5, c6, c7, c8, c9]⟩ : ByteArray).extract 0 4 = ⟨#[c0, c1, c2, c3]⟩ ∧ (⟨#[c0, c1, c2, c3, c4, c5, c6, c7, c8, c9]⟩ : ByteArray).extract 5 7 = ⟨#[c5, c6]⟩ ∧
    (⟨#[c0, c1, c2, c3, c4, c5, c6, c7, c8, c9]⟩ : ByteArray).extract 8 (⟨#[c0, c1, c2, c3, c4, c5, c6, c7, c8, c9]⟩ : ByteArray).size = ⟨#[c8, c9]⟩ := by
  exact ⟨rfl, rfl, rfl⟩
theorem cut_11 (c c0 c1 c2 c3 c4 c5 c6 c7 c8 c9 : UInt8) :
    (⟨#[c, c0, c1, c2, c3, c4, c5, c6, c7, c8, c9]⟩ : ByteArray).extract 1 (⟨#[c, c0, c1, c2, c3, c4, c5, c6, c7, c8, c9]⟩ : ByteArray).size = ⟨#[c0, c1, c2, c3, c4, c5, c6, c7, c8, c9]⟩ := by
  rfl
theorem txl_10 (y m d : Int) (g : good y m d) (a : Int) (ha : a = if y < 0 then -y else y) :
    txl y m d = (if y < 0 then [45] else []) ++ [dg (a / 100 / 10), dg (a / 100 % 10), dg (a % 100 / 10), dg (a % 100 % 10), 45, dg (m / 10), dg (m % 10), 45, dg (d / 10), dg (d % 10)] := by
  have hm := good_m g
  obtain ⟨a1, a2, a3, a4⟩ := id g
  have l1 := (len_bd y m).1 hm
  have hb : 0 ≤ a ∧ a ≤ 9999 := by rw [ha]; split <;> omega
  unfold txl
  rw [← ha, tw_is _ (by omega) (by omega), tw_is _ (by omega) (by omega), tw_is _ (by omega) (by omega), tw_is _ (by omega) (by omega)]
  simp
theorem parse_j1 (k : Nat) (hk : 10 ≤ k) (s : ByteArray) (y m d : Int) (g : good y m d) (hs : s = ⟨(txl y m d).toArray⟩) : civil_Parse.j1 k s y true m true d true = some (y, m, d, 0) := by
  obtain ⟨k, rfl⟩ : ∃ n, k = n + 2 := ⟨k - 2, by omega⟩
  simp only [civil_Parse.j1]
  rw [if_pos trivial, if_pos trivial, if_pos trivial, text_f _ (by omega), if_pos g]
  simp only [Option.bind_some]
  subst hs
  simp only [civil_Parse.j2]
  rw [if_neg (by simp)]
/-- The text of a date is read as that date. -/
theorem parse_is (k : Nat) (hk : 30 ≤ k) (y m d : Int) (g : good y m d) : civil_Parse.f k ⟨(txl y m d).toArray⟩ = some (y, m, d, 0) := by
  obtain ⟨a, ha⟩ : ∃ a : Int, a = if y < 0 then -y else y := ⟨_, rfl⟩
  have hm := good_m g
  obtain ⟨a1, a2, a3, a4⟩ := id g
  have l1 := (len_bd y m).1 hm
  have hb : 0 ≤ a ∧ a ≤ 9999 := by rw [ha]; split <;> omega
  obtain ⟨k, rfl⟩ : ∃ n, k = n + 12 := ⟨k - 12, by omega⟩
  have E := txl_10 y m d g a ha
  have L := (parse_j1 (k + 11) (by omega) _ y m d g rfl)
  rw [E] at L ⊢
  obtain ⟨c1, c2, c3⟩ := cut_10 (dg (a / 100 / 10)) (dg (a / 100 % 10)) (dg (a % 100 / 10)) (dg (a % 100 % 10)) 45 (dg (m / 10)) (dg (m % 10)) 45 (dg (d / 10)) (dg (d % 10))
  have c0 := cut_11 45 (dg (a / 100 / 10)) (dg (a / 100 % 10)) (dg (a % 100 / 10)) (dg (a % 100 % 10)) 45 (dg (m / 10)) (dg (m % 10)) 45 (dg (d / 10)) (dg (d % 10))
  have z10 : ((⟨#[dg (a / 100 / 10), dg (a / 100 % 10), dg (a % 100 / 10), dg (a % 100 % 10), 45, dg (m / 10), dg (m % 10), 45, dg (d / 10), dg (d % 10)]⟩ : ByteArray).size : Int) = 10 := rfl
  have z11 : ((⟨#[45, dg (a / 100 / 10), dg (a / 100 % 10), dg (a % 100 / 10), dg (a % 100 % 10), 45, dg (m / 10), dg (m % 10), 45, dg (d / 10), dg (d % 10)]⟩ : ByteArray).size : Int) = 11 := rfl
  have T : ∀ (S t : ByteArray) (hn : (t.size : Int) < (S.size : Int) ↔ y < 0) (z : (t.size : Int) = 10) (e1 : t.extract 0 4 = ⟨#[dg (a / 100 / 10), dg (a / 100 % 10), dg (a % 100 / 10), dg (a % 100 % 10)]⟩) (e2 : t.extract 5 7 = ⟨#[dg (m / 10), dg (m % 10)]⟩) (e3 : t.extract 8 t.size = ⟨#[dg (d / 10), dg (d % 10)]⟩)
      (L : civil_Parse.j1 (k + 11) S y true m true d true = some (y, m, d, 0)), civil_Parse.j0 (k + 12) S t = some (y, m, d, 0) := by
    intro S t hn z e1 e2 e3 L
    simp only [civil_Parse.j0]
    rw [e1, e2, e3, if_pos z, if_pos (by decide), if_pos (by omega), num_4 _ (by omega) _ _ _ _ (by omega) (by omega) (by omega) (by omega)]
    simp only [Option.bind_some]
    rw [if_pos (by decide), if_pos (by omega), num_2 _ (by omega) _ _ (by omega) (by omega)]
    simp only [Option.bind_some]
    rw [if_pos (by omega), num_2 _ (by omega) _ _ (by omega) (by omega)]
    simp only [Option.bind_some]
    by_cases hy : y < 0
    · rw [if_pos hy] at ha
      rw [if_pos (hn.mpr hy), w64 _ (by omega) (by omega), show -(1000 * (a / 100 / 10) + 100 * (a / 100 % 10) + 10 * (a % 100 / 10) + a % 100 % 10) = y by omega, show 10 * (m / 10) + m % 10 = m by omega, show 10 * (d / 10) + d % 10 = d by omega]
      exact L
    · rw [if_neg hy] at ha
      rw [if_neg (fun h => hy (hn.mp h)), show 1000 * (a / 100 / 10) + 100 * (a / 100 % 10) + 10 * (a % 100 / 10) + a % 100 % 10 = y by omega, show 10 * (m / 10) + m % 10 = m by omega, show 10 * (d / 10) + d % 10 = d by omega]
      exact L
  by_cases hy : y < 0
  · rw [if_pos hy] at L ⊢
    have L' : civil_Parse.j1 (k + 11) ⟨#[45, dg (a / 100 / 10), dg (a / 100 % 10), dg (a % 100 / 10), dg (a % 100 % 10), 45, dg (m / 10), dg (m % 10), 45, dg (d / 10), dg (d % 10)]⟩ y true m true d true = some (y, m, d, 0) := L
    show civil_Parse.f (k + 12) ⟨#[45, dg (a / 100 / 10), dg (a / 100 % 10), dg (a % 100 / 10), dg (a % 100 % 10), 45, dg (m / 10), dg (m % 10), 45, dg (d / 10), dg (d % 10)]⟩ = _
    unfold civil_Parse.f
    rw [if_pos z11, if_pos (by omega), c0]
    exact T _ _ (by rw [z10, z11]; omega) z10 c1 c2 c3 L'
  · rw [if_neg hy] at L ⊢
    have L' : civil_Parse.j1 (k + 11) ⟨#[dg (a / 100 / 10), dg (a / 100 % 10), dg (a % 100 / 10), dg (a % 100 % 10), 45, dg (m / 10), dg (m % 10), 45, dg (d / 10), dg (d % 10)]⟩ y true m true d true = some (y, m, d, 0) := L
    show civil_Parse.f (k + 12) ⟨#[dg (a / 100 / 10), dg (a / 100 % 10), dg (a % 100 / 10), dg (a % 100 % 10), 45, dg (m / 10), dg (m % 10), 45, dg (d / 10), dg (d % 10)]⟩ = _
    unfold civil_Parse.f
    rw [if_neg (by omega)]
    exact T _ _ (by omega) z10 c1 c2 c3 L'
/-- Any short text is read as a date that has this text, or as none. -/
theorem parse_j1_any (k : Nat) (hk : 10 ≤ k) (s : ByteArray) (y m d : Int) (a b c : Bool) (hs : s.size ≠ 0) :
    (civil_Parse.j1 k s y a m b d c = some (y, m, d, 0) ∧ good y m d ∧ s = ⟨(txl y m d).toArray⟩) ∨ civil_Parse.j1 k s y a m b d c = some (0, 0, 0, 3) := by
  obtain ⟨k, rfl⟩ : ∃ n, k = n + 2 := ⟨k - 2, by omega⟩
  simp only [civil_Parse.j1]
  have no : civil_Parse.j2 (k + 1) true y m d = some (0, 0, 0, 3) := rfl
  cases a with
  | false => exact .inr no
  | true =>
    cases b with
    | false => exact .inr no
    | true =>
      cases c with
      | false => exact .inr no
      | true =>
        rw [if_pos rfl, if_pos rfl, if_pos rfl, text_f _ (by omega)]
        simp only [Option.bind_some]
        by_cases g : good y m d
        · rw [if_pos g]
          by_cases e : s = ⟨(txl y m d).toArray⟩
          · left
            refine ⟨?_, g, e⟩
            subst e
            simp only [civil_Parse.j2]
            rw [if_neg (by simp)]
          · right
            have : ((⟨(txl y m d).toArray⟩ : ByteArray).toList != s.toList) = true := by
              rw [bne_iff_ne]
              intro h
              apply e
              apply ByteArray.ext
              rw [ByteArray.toList_eq s, ByteArray.toList_mk] at h
              rw [h]
            rw [this]; exact no
        · rw [if_neg g]
          right
          have : ((⟨#[]⟩ : ByteArray).toList != s.toList) = true := by
            rw [bne_iff_ne]
            intro h
            have := congrArg List.length h
            rw [ByteArray.toList_eq s, ByteArray.toList_eq ⟨#[]⟩] at this
            exact hs (by have h2 : (0 : Nat) = s.data.toList.length := this; rw [Array.length_toList] at h2; exact h2.symm)
          rw [this]; exact no
theorem parse_any (k : Nat) (hk : 120 ≤ k) (s : ByteArray) (hs : s.size ≤ 50) :
    (∃ y m d, civil_Parse.f k s = some (y, m, d, 0) ∧ good y m d ∧ s = ⟨(txl y m d).toArray⟩) ∨ civil_Parse.f k s = some (0, 0, 0, 3) := by
  obtain ⟨k, rfl⟩ : ∃ n, k = n + 1 := ⟨k - 1, by omega⟩
  have T : ∀ t : ByteArray, t.size ≤ 50 → (s.size ≠ 0 ∨ ¬ (t.size : Int) = 10) → (∃ y m d, civil_Parse.j0 (k + 1) s t = some (y, m, d, 0) ∧ good y m d ∧ s = ⟨(txl y m d).toArray⟩) ∨ civil_Parse.j0 (k + 1) s t = some (0, 0, 0, 3) := by
    intro t ht h0
    simp only [civil_Parse.j0]
    by_cases z : (t.size : Int) = 10
    · obtain ⟨v1, b1, e1⟩ := num_any k (t.extract 0 4) (by rw [ByteArray.size_extract]; omega) (by omega)
      obtain ⟨v2, b2, e2⟩ := num_any k (t.extract 5 7) (by rw [ByteArray.size_extract]; omega) (by omega)
      obtain ⟨v3, b3, e3⟩ := num_any k (t.extract 8 t.size) (by rw [ByteArray.size_extract]; omega) (by omega)
      have hs0 : s.size ≠ 0 := h0.elim id (fun h => absurd z h)
      rw [if_pos z, if_pos (by decide), if_pos (by omega), e1]
      simp only [Option.bind_some]
      rw [if_pos (by decide), if_pos (by omega), e2]
      simp only [Option.bind_some]
      rw [if_pos (by omega), e3]
      simp only [Option.bind_some]
      by_cases h : (t.size : Int) < (s.size : Int)
      · rw [if_pos h]
        rcases parse_j1_any k (by omega) s (wrap64 (-v1)) v2 v3 b1 b2 b3 hs0 with h | h
        · exact .inl ⟨_, _, _, h⟩
        · exact .inr h
      · rw [if_neg h]
        rcases parse_j1_any k (by omega) s v1 v2 v3 b1 b2 b3 hs0 with h | h
        · exact .inl ⟨_, _, _, h⟩
        · exact .inr h
    · rw [if_neg z]
      exact .inr rfl
  unfold civil_Parse.f
  by_cases h : (s.size : Int) = 11
  · rw [if_pos h, if_pos (by omega)]
    exact T _ (by rw [ByteArray.size_extract]; omega) (.inl (by omega))
  · rw [if_neg h]
    by_cases h0 : s.size = 0
    · exact T _ hs (.inr (by omega))
    · exact T _ hs (.inl h0)
end Go.Proofs.YtbgdpkpljkcnfaaDoor.Cal
