/- Versions put in any order: one chain, where the stamps differ: plain laws. Conditions: each theorem's own. -/
import Derived.Test.YtgkigcobaimccaaSl
namespace Go.Proofs.Ytgkigcobaimccaa
open Go.RowKit
set_option linter.unusedVariables false
set_option linter.unusedSimpArgs false
def good (v : Ver) : Bool := !(decide (gd v.t = false ∨ 200 < v.val.size ∨ (v.gone = true ∧ v.val.size ≠ 0)))
def step (L : List Ver) (x : Ver) : List Ver := (putM L x).2
def folds (xs : List Ver) : List Ver := xs.foldl step []
def Apart (xs : List Ver) : Prop := xs.Pairwise fun a b => ¬ (a.t = b.t ∧ a.n = b.n)
theorem folds_snoc (xs : List Ver) (x : Ver) : folds (xs ++ [x]) = step (folds xs) x := by simp [folds]
theorem found_mem {L : List Ver} {t n : Int} (h : found L t n = true) : ∃ v, v ∈ L ∧ v.t = t ∧ v.n = n := by
  rw [found_at] at h
  cases hx : L[(lo L t n).length]? with
  | none => rw [hx] at h; cases h
  | some v =>
    rw [hx] at h
    have := (cs_eq _ _ _ _).mp (of_decide_eq_true h)
    exact ⟨v, List.mem_of_getElem? hx, this.1, this.2⟩
theorem folds_law (xs : List Ver) (hl : xs.length ≤ 50) (hA : Apart xs) : (folds xs).Perm (xs.filter good) ∧ Rise (folds xs) := by
  have key : ∀ n (xs : List Ver), xs.length = n → xs.length ≤ 50 → Apart xs → (folds xs).Perm (xs.filter good) ∧ Rise (folds xs) := by
    intro n
    induction n with
    | zero =>
      intro xs h0 _ _
      obtain rfl : xs = [] := List.eq_nil_of_length_eq_zero h0
      exact ⟨List.Perm.refl _, List.Pairwise.nil⟩
    | succ n ih =>
      intro xs h0 hl hA
      obtain ⟨ys, x, rfl⟩ : ∃ ys x, xs = ys ++ [x] := by
        have hne : xs ≠ [] := by intro e; rw [e] at h0; simp at h0
        exact ⟨xs.dropLast, xs.getLast hne, (List.dropLast_concat_getLast hne).symm⟩
      have hyl : ys.length = n := by simpa using h0
      unfold Apart at hA
      rw [List.pairwise_append] at hA
      obtain ⟨hP, hR⟩ := ih ys hyl (by omega) hA.1
      rw [folds_snoc, List.filter_append]
      cases hg : good x
      · have hb : gd x.t = false ∨ 200 < x.val.size ∨ (x.gone = true ∧ x.val.size ≠ 0) := by
          unfold good at hg
          exact of_decide_eq_true (by rwa [Bool.not_eq_false'] at hg)
        have e : step (folds ys) x = folds ys := by unfold step putM; rw [if_pos hb]
        rw [e]
        simp [hg]
        exact ⟨hP, hR⟩
      · have hb : ¬ (gd x.t = false ∨ 200 < x.val.size ∨ (x.gone = true ∧ x.val.size ≠ 0)) := by
          intro h
          unfold good at hg
          rw [decide_eq_true h] at hg
          cases hg
        have hf : found (folds ys) x.t x.n = false := by
          cases hff : found (folds ys) x.t x.n
          · rfl
          · exfalso
            obtain ⟨v, hv, h1, h2⟩ := found_mem hff
            have hv2 := (List.mem_filter.mp (hP.mem_iff.mp hv)).1
            exact hA.2.2 v hv2 x (List.mem_singleton.mpr rfl) ⟨h1, h2⟩
        have hlen : (folds ys).length < 50 := by
          have h1 := hP.length_eq
          have h2 := List.length_filter_le good ys
          rw [List.length_append] at hl
          simp at hl
          omega
        have e : step (folds ys) x = lo (folds ys) x.t x.n ++ x :: hi (folds ys) x.t x.n := by
          unfold step putM
          rw [if_neg hb, hf, if_neg (by decide), if_neg (by omega)]
        refine ⟨?_, by rw [e]; exact rise_put hR hf⟩
        rw [e]
        have h1 : (lo (folds ys) x.t x.n ++ x :: hi (folds ys) x.t x.n).Perm (x :: folds ys) := by
          refine List.perm_middle.trans ?_
          rw [lo_hi]
        refine h1.trans ?_
        simp only [List.filter_cons, hg, List.filter_nil, if_true]
        exact (hP.cons x).trans (List.perm_append_comm (l₁ := [x]) (l₂ := ys.filter good))
  exact key xs.length xs rfl hl hA
theorem order_law (xs : List Ver) (hl : xs.length ≤ 50) (hA : Apart xs) : folds xs.reverse = folds xs := by
  obtain ⟨p1, r1⟩ := folds_law xs hl hA
  have hA2 : Apart xs.reverse := by
    unfold Apart
    rw [List.pairwise_reverse]
    exact hA.imp (fun h ⟨a, b⟩ => h ⟨a.symm, b.symm⟩)
  obtain ⟨p2, r2⟩ := folds_law xs.reverse (by simpa using hl) hA2
  have hp : (folds xs.reverse).Perm (folds xs) := p2.trans (((List.reverse_perm xs).filter good).trans p1.symm)
  refine List.Perm.eq_of_pairwise (le := fun (a b : Ver) => cs a.t a.n b.t b.n < 0) ?_ r2 r1 hp
  intro a b _ _ h1 h2
  exfalso
  rw [cs_lt] at h1 h2
  omega
end Go.Proofs.Ytgkigcobaimccaa
