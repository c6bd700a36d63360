/- Versions in the order of their stamps, as lists: plain laws. Conditions: each theorem's own. -/
import Derived.Test.YtgkigcobaimccaaCmp
namespace Go.Proofs.Ytgkigcobaimccaa
open Go.RowKit
set_option linter.unusedVariables false
set_option linter.unusedSimpArgs false
structure Ver where
  t : Int
  n : Int
  val : ByteArray
  gone : Bool
theorem cs_lt (a m b n : Int) : cs a m b n < 0 ↔ a < b ∨ (a = b ∧ m < n) := by
  unfold cs c2
  split <;> split <;> (try split) <;> omega
theorem cs_eq (a m b n : Int) : cs a m b n = 0 ↔ a = b ∧ m = n := by
  unfold cs c2
  split <;> split <;> (try split) <;> omega
def bel (t n : Int) (v : Ver) : Bool := decide (cs v.t v.n t n < 0)
def lo (l : List Ver) (t n : Int) : List Ver := l.takeWhile (bel t n)
def hi (l : List Ver) (t n : Int) : List Ver := l.dropWhile (bel t n)
def Rise (l : List Ver) : Prop := l.Pairwise fun a b => cs a.t a.n b.t b.n < 0
def found (l : List Ver) (t n : Int) : Bool := match hi l t n with | v :: _ => decide (cs v.t v.n t n = 0) | [] => false
theorem lo_hi (l : List Ver) (t n : Int) : lo l t n ++ hi l t n = l := List.takeWhile_append_dropWhile
theorem not_bel_later {l : List Ver} {y : Ver} {t n : Int} (h : Rise (y :: l)) (hy : bel t n y = false) : ∀ x ∈ y :: l, bel t n x = false := by
  intro x hx
  rcases List.mem_cons.mp hx with rfl | hx
  · exact hy
  · have h1 := (List.pairwise_cons.mp h).1 x hx
    unfold bel at hy ⊢
    rw [decide_eq_false_iff_not, cs_lt] at hy ⊢
    rw [cs_lt] at h1
    omega
theorem lo_iff {t n : Int} : ∀ {l : List Ver}, Rise l → ∀ {k : Nat} {x : Ver}, l[k]? = some x → (bel t n x = true ↔ k < (lo l t n).length)
  | [], _, k, x, hk => by simp at hk
  | y :: l, h, k, x, hk => by
    by_cases hy : bel t n y = true
    · have e : lo (y :: l) t n = y :: lo l t n := by simp [lo, List.takeWhile_cons, hy]
      rw [e]
      cases k with
      | zero =>
        obtain rfl : y = x := by simpa using hk
        simp [hy]
      | succ k =>
        rw [lo_iff (List.pairwise_cons.mp h).2 (show l[k]? = some x by simpa using hk)]
        simp
    · have hy' : bel t n y = false := by simpa using hy
      have e : lo (y :: l) t n = [] := by simp [lo, List.takeWhile_cons, hy']
      rw [e, not_bel_later h hy' x (List.mem_of_getElem? hk)]
      simp
theorem lo_len (l : List Ver) (t n : Int) : (lo l t n).length ≤ l.length := by
  have := congrArg List.length (lo_hi l t n)
  rw [List.length_append] at this
  omega
theorem found_at (l : List Ver) (t n : Int) : found l t n = match l[(lo l t n).length]? with | some v => decide (cs v.t v.n t n = 0) | none => false := by
  have h : (lo l t n ++ hi l t n)[(lo l t n).length]? = (hi l t n)[0]? := by rw [List.getElem?_append_right (Nat.le_refl _), Nat.sub_self]
  rw [lo_hi] at h
  rw [h]
  unfold found
  cases hi l t n <;> rfl
def untilN (l : List Ver) (t n : Int) : Nat := (lo l t n).length + if found l t n then 1 else 0
theorem until_iff {l : List Ver} {t n : Int} (h : Rise l) {k : Nat} {x : Ver} (hk : l[k]? = some x) : cs x.t x.n t n ≤ 0 ↔ k < untilN l t n := by
  have h1 := lo_iff (t := t) (n := n) h hk
  have hb : bel t n x = true ↔ cs x.t x.n t n < 0 := by simp [bel]
  rw [hb] at h1
  unfold untilN
  by_cases he : cs x.t x.n t n = 0
  · have hkl : ¬ k < (lo l t n).length := fun h => by have := h1.mpr h; omega
    have hkk : k = (lo l t n).length := by
      rcases Nat.lt_or_ge (lo l t n).length k with hlt | hge
      · obtain ⟨y, hy⟩ : ∃ y, l[(lo l t n).length]? = some y := ⟨_, List.getElem?_eq_getElem (by have := (List.getElem?_eq_some_iff.mp hk).1; omega)⟩
        have h2 := lo_iff (t := t) (n := n) h hy
        have h3 : ¬ cs y.t y.n t n < 0 := fun hh => by have := h2.mp (by simp [bel, hh]); omega
        have h4 : cs y.t y.n x.t x.n < 0 := by
          obtain ⟨a1, b1⟩ := List.getElem?_eq_some_iff.mp hy
          obtain ⟨a2, b2⟩ := List.getElem?_eq_some_iff.mp hk
          have := List.pairwise_iff_getElem.mp h _ _ a1 a2 hlt
          rw [b1, b2] at this
          exact this
        rw [cs_lt] at h3 h4
        rw [cs_eq] at he
        omega
      · omega
    have hf : found l t n = true := by rw [found_at, ← hkk, hk]; simp [he]
    rw [hf]
    simp
    omega
  · constructor
    · intro hle
      have := h1.mp (by omega)
      omega
    · intro hlt
      by_cases hkl : k < (lo l t n).length
      · have := h1.mpr hkl
        omega
      · exfalso
        have hkk : k = (lo l t n).length := by split at hlt <;> omega
        have hf : found l t n = false := by rw [found_at, ← hkk, hk]; simp [he]
        rw [hf] at hlt
        simp at hlt
        omega
theorem until_le (l : List Ver) (t n : Int) : untilN l t n ≤ l.length := by
  have h := lo_len l t n
  unfold untilN
  split
  · rename_i hf
    rw [found_at] at hf
    rcases Nat.lt_or_ge (lo l t n).length l.length with h1 | h1
    · omega
    · rw [List.getElem?_eq_none h1] at hf
      cases hf
  · omega
def putM (l : List Ver) (v : Ver) : Int × List Ver :=
  if gd v.t = false ∨ 200 < v.val.size ∨ (v.gone = true ∧ v.val.size ≠ 0) then (1, l)
  else if found l v.t v.n then (5, l) else if 50 ≤ l.length then (6, l) else (0, lo l v.t v.n ++ v :: hi l v.t v.n)
theorem mem_bel {t n : Int} : ∀ {l : List Ver} {x : Ver}, x ∈ lo l t n → bel t n x = true
  | [], x, h => by simp [lo] at h
  | y :: l, x, h => by
    unfold lo at h
    rw [List.takeWhile_cons] at h
    split at h
    · rename_i hy
      rcases List.mem_cons.mp h with rfl | h
      · exact hy
      · exact mem_bel h
    · cases h
theorem rise_put {l : List Ver} {v : Ver} (h : Rise l) (hf : found l v.t v.n = false) : Rise (lo l v.t v.n ++ v :: hi l v.t v.n) := by
  have hl := lo_hi l v.t v.n
  have h0 : Rise (lo l v.t v.n ++ hi l v.t v.n) := by rw [hl]; exact h
  unfold Rise at h0 ⊢
  rw [List.pairwise_append] at h0 ⊢
  obtain ⟨h1, h2, h3⟩ := h0
  have hlow : ∀ a ∈ lo l v.t v.n, cs a.t a.n v.t v.n < 0 := fun a ha => of_decide_eq_true (mem_bel ha)
  have hhigh : ∀ b ∈ hi l v.t v.n, cs v.t v.n b.t b.n < 0 := by
    intro b hb
    cases hh : hi l v.t v.n with
    | nil => rw [hh] at hb; cases hb
    | cons y r =>
      have hy : bel v.t v.n y = false := by
        have := List.head_dropWhile_not (bel v.t v.n) (l := l) (by show hi l v.t v.n ≠ []; rw [hh]; simp)
        have e : (List.dropWhile (bel v.t v.n) l).head (by show hi l v.t v.n ≠ []; rw [hh]; simp) = y := by
          have : List.dropWhile (bel v.t v.n) l = y :: r := hh
          simp [this]
        rw [e] at this
        simpa using this
      have hnb := not_bel_later (t := v.t) (n := v.n) (show Rise (y :: r) from hh ▸ h2) hy b (hh ▸ hb)
      have hy0 : ¬ cs y.t y.n v.t v.n = 0 := by
        unfold found at hf
        rw [hh] at hf
        simpa using hf
      have hyb : b = y ∨ cs y.t y.n b.t b.n < 0 := by
        rw [hh] at hb h2
        rcases List.mem_cons.mp hb with rfl | hb
        · exact .inl rfl
        · exact .inr ((List.pairwise_cons.mp h2).1 b hb)
      unfold bel at hnb hy
      rw [decide_eq_false_iff_not, cs_lt] at hnb hy
      rw [cs_eq] at hy0
      rw [cs_lt] at hyb ⊢
      rcases hyb with rfl | hyb
      · omega
      · omega
  refine ⟨h1, List.pairwise_cons.mpr ⟨hhigh, h2⟩, fun a ha b hb => ?_⟩
  rcases List.mem_cons.mp hb with rfl | hb
  · exact hlow a ha
  · exact h3 a ha b hb
end Go.Proofs.Ytgkigcobaimccaa
