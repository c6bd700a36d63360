/- What is seen between two stamps, and behind a trim: plain laws. Conditions: each theorem's own. -/
import Derived.Test.YtgkigcobaimccaaMf
import Derived.Test.YtgkigcobaimccaaTr
namespace Go.Proofs.Ytgkigcobaimccaa
open Go.RowKit
set_option linter.unusedVariables false
set_option linter.unusedSimpArgs false
theorem cs_le (a m b n : Int) : cs a m b n ≤ 0 ↔ a < b ∨ (a = b ∧ m ≤ n) := by
  have h1 := cs_lt a m b n; have h2 := cs_eq a m b n
  constructor
  · intro h
    by_cases h0 : cs a m b n = 0
    · have := h2.mp h0; omega
    · have := h1.mp (by omega); omega
  · intro h
    by_cases h3 : a = b ∧ m = n
    · have := h2.mpr h3; omega
    · have := h1.mpr (by omega); omega
theorem rise_at {l : List Ver} (h : Rise l) {i j : Nat} {x y : Ver} (hx : l[i]? = some x) (hy : l[j]? = some y) (hij : i < j) : cs x.t x.n y.t y.n < 0 := by
  obtain ⟨a1, b1⟩ := List.getElem?_eq_some_iff.mp hx
  obtain ⟨a2, b2⟩ := List.getElem?_eq_some_iff.mp hy
  have := List.pairwise_iff_getElem.mp h _ _ a1 a2 hij
  rw [b1, b2] at this
  exact this
theorem until_mono {l : List Ver} (h : Rise l) {a m b n : Int} (hab : cs a m b n ≤ 0) : untilN l a m ≤ untilN l b n := by
  rcases Nat.lt_or_ge (untilN l b n) (untilN l a m) with hlt | hge
  · have hle := until_le l a m
    obtain ⟨x, hx⟩ : ∃ x, l[untilN l b n]? = some x := ⟨_, List.getElem?_eq_getElem (by omega)⟩
    have h1 := (until_iff (t := a) (n := m) h hx).mpr hlt
    have h2 := (until_iff (t := b) (n := n) h hx)
    rw [cs_le] at h1 hab h2
    have := h2.mp (by omega)
    omega
  · exact hge
def btw (a m b n : Int) (v : Ver) : Bool := decide (0 < cs v.t v.n a m) && decide (cs v.t v.n b n ≤ 0)
theorem any_btw {l : List Ver} (h : Rise l) {a m b n : Int} : l.any (btw a m b n) = decide (untilN l a m < untilN l b n) := by
  by_cases hlt : untilN l a m < untilN l b n
  · rw [decide_eq_true hlt, List.any_eq_true]
    have hle := until_le l b n
    obtain ⟨x, hx⟩ : ∃ x, l[untilN l a m]? = some x := ⟨_, List.getElem?_eq_getElem (by omega)⟩
    refine ⟨x, List.mem_of_getElem? hx, ?_⟩
    have h1 := until_iff (t := a) (n := m) h hx
    have h2 := (until_iff (t := b) (n := n) h hx).mpr hlt
    unfold btw
    rw [Bool.and_eq_true, decide_eq_true_eq, decide_eq_true_eq]
    refine ⟨?_, h2⟩
    rcases Int.lt_or_le 0 (cs x.t x.n a m) with h3 | h3
    · exact h3
    · have := h1.mp h3; omega
  · rw [decide_eq_false hlt, List.any_eq_false]
    intro x hx hb
    obtain ⟨k, hk⟩ := List.getElem?_of_mem hx
    unfold btw at hb
    rw [Bool.and_eq_true, decide_eq_true_eq, decide_eq_true_eq] at hb
    have h1 := until_iff (t := a) (n := m) h hk
    have h2 := (until_iff (t := b) (n := n) h hk).mp hb.2
    have h3 : ¬ k < untilN l a m := fun hh => by have := h1.mpr hh; omega
    omega
theorem verAt_some {l : List Ver} {t n : Int} {x : Ver} (h : verAt l t n = some x) : ∃ u, untilN l t n = u + 1 ∧ l[u]? = some x := by
  unfold verAt at h
  split at h
  · cases h
  · rename_i h0
    exact ⟨untilN l t n - 1, by omega, h⟩
theorem verAt_isSome (l : List Ver) (t n : Int) : (verAt l t n).isSome = decide (0 < untilN l t n) := by
  unfold verAt
  split
  · rename_i h0
    rw [h0]
    rfl
  · have := until_le l t n
    rw [List.getElem?_eq_getElem (by omega), decide_eq_true (by omega)]
    rfl
theorem seen_until {l : List Ver} (h : Rise l) {t n : Int} {x : Ver} (hx : verAt l t n = some x) : cs x.t x.n t n ≤ 0 ∧ untilN l x.t x.n = untilN l t n := by
  obtain ⟨u, hu, hxu⟩ := verAt_some hx
  have h1 := (until_iff (t := t) (n := n) h hxu).mpr (by omega)
  refine ⟨h1, ?_⟩
  have h2 := until_mono h h1
  have h3 : u < untilN l x.t x.n := (until_iff (t := x.t) (n := x.n) h hxu).mp (by rw [cs_le]; omega)
  omega
theorem any_put {l : List Ver} {x : Ver} (p : Ver → Bool) : (lo l x.t x.n ++ x :: hi l x.t x.n).any p = (l.any p || p x) := by
  have h := lo_hi l x.t x.n
  have e : l.any p = ((lo l x.t x.n).any p || (hi l x.t x.n).any p) := by
    conv => lhs; rw [← h]
    rw [List.any_append]
  rw [List.any_append, List.any_cons, e]
  cases (lo l x.t x.n).any p <;> cases (hi l x.t x.n).any p <;> cases p x <;> rfl
theorem put_cases (l : List Ver) (x : Ver) : (∃ e, e ≠ 0 ∧ putM l x = (e, l)) ∨ putM l x = (0, lo l x.t x.n ++ x :: hi l x.t x.n) := by
  unfold putM
  split
  · exact .inl ⟨1, by decide, rfl⟩
  · split
    · exact .inl ⟨5, by decide, rfl⟩
    · split
      · exact .inl ⟨6, by decide, rfl⟩
      · exact .inr rfl
/-- Behind a trim. -/
theorem until_drop {l : List Ver} (h : Rise l) (k : Nat) {t n : Int} (hk : k ≤ untilN l t n) : untilN (l.drop k) t n = untilN l t n - k := by
  have hd : Rise (l.drop k) := h.sublist (List.drop_sublist _ _)
  have h1 := until_le (l.drop k) t n
  have h2 := until_le l t n
  rw [List.length_drop] at h1
  rcases Nat.lt_trichotomy (untilN (l.drop k) t n) (untilN l t n - k) with hlt | heq | hgt
  · obtain ⟨x, hx⟩ : ∃ x, l[k + untilN (l.drop k) t n]? = some x := ⟨_, List.getElem?_eq_getElem (by omega)⟩
    have h3 := (until_iff (t := t) (n := n) h hx).mpr (by omega)
    have h4 := (until_iff (t := t) (n := n) hd (k := untilN (l.drop k) t n) (x := x) (by rw [List.getElem?_drop]; exact hx)).mp h3
    omega
  · exact heq
  · obtain ⟨x, hx⟩ : ∃ x, l[k + (untilN l t n - k)]? = some x := ⟨_, List.getElem?_eq_getElem (by omega)⟩
    have h3 := (until_iff (t := t) (n := n) hd (k := untilN l t n - k) (x := x) (by rw [List.getElem?_drop]; exact hx)).mpr hgt
    have h4 := (until_iff (t := t) (n := n) h hx).mp h3
    omega
theorem trim_le (l : List Ver) (t n : Int) : trimN l t n ≤ untilN l t n := by
  unfold trimN
  cases hv : verAt l t n with
  | none => exact Nat.zero_le _
  | some y =>
    simp only
    split <;> omega
theorem trim_again {l : List Ver} (h : Rise l) (t n : Int) : trimN (l.drop (trimN l t n)) t n = 0 := by
  have hle := trim_le l t n
  have hu := until_drop h (trimN l t n) hle
  cases hv : verAt l t n with
  | none =>
    have e : trimN l t n = 0 := by unfold trimN; rw [hv]
    rw [e, List.drop_zero]
    exact e
  | some y =>
    obtain ⟨u, hu1, hy⟩ := verAt_some hv
    cases hg : y.gone
    · have e : trimN l t n = u := by unfold trimN; rw [hv]; simp [hg, hu1]
      rw [e] at hu ⊢
      have hv2 : verAt (l.drop u) t n = some y := by
        unfold verAt
        rw [hu, if_neg (by omega), List.getElem?_drop, hu1, show u + (u + 1 - u - 1) = u by omega]
        exact hy
      unfold trimN
      rw [hv2]
      simp only [hg]
      rw [if_neg (by decide), hu]
      omega
    · have e : trimN l t n = u + 1 := by unfold trimN; rw [hv]; simp [hg, hu1]
      rw [e] at hu ⊢
      have hv2 : verAt (l.drop (u + 1)) t n = none := by
        unfold verAt
        rw [hu, if_pos (by omega)]
      unfold trimN
      rw [hv2]
/-- What is seen at a time not below the trim's: the same; or a version that is gone, and none. -/
theorem trim_seen {l : List Ver} (h : Rise l) {a m b n : Int} (hab : cs a m b n ≤ 0) : verAt (l.drop (trimN l a m)) b n = verAt l b n ∨ (verAt (l.drop (trimN l a m)) b n = none ∧ ∃ y, verAt l b n = some y ∧ y.gone = true) := by
  have hle := trim_le l a m
  have hmo := until_mono h hab
  have hu := until_drop h (trimN l a m) (t := b) (n := n) (by omega)
  rcases Nat.lt_or_ge (trimN l a m) (untilN l b n) with hlt | hge
  · left
    unfold verAt
    rw [hu, if_neg (by omega), if_neg (by omega), List.getElem?_drop]
    congr 1
    omega
  · have hvn : verAt (l.drop (trimN l a m)) b n = none := by
      unfold verAt
      rw [hu, if_pos (by omega)]
    have he : untilN l a m = untilN l b n := by omega
    have hva : verAt l b n = verAt l a m := by unfold verAt; rw [he]
    rw [hva, hvn]
    cases hv : verAt l a m with
    | none => exact .inl rfl
    | some y =>
      right
      refine ⟨rfl, y, rfl, ?_⟩
      obtain ⟨u, hu1, hy⟩ := verAt_some hv
      cases hg : y.gone
      · have e : trimN l a m = u := by unfold trimN; rw [hv]; simp [hg, hu1]
        omega
      · rfl
end Go.Proofs.Ytgkigcobaimccaa
