/- Putting numbers in one by one is sorting: plain lists. No condition. -/
import Derived.Test.YtfebebjopjopcaaSep
namespace Go.Proofs.YtfebebjopjopcaaG
set_option linter.unusedVariables false
set_option linter.unusedSimpArgs false
def cl (v : Int) : Int := if v < -1099511627776 then -1099511627776 else if 1099511627776 < v then 1099511627776 else v
theorem cl_eq (v : Int) : cl v = min (max v (-1099511627776)) 1099511627776 := by unfold cl; split <;> (try split) <;> omega
theorem cl_mono {a b : Int} (h : a ≤ b) : cl a ≤ cl b := by rw [cl_eq, cl_eq]; omega
theorem cl_in (v : Int) : -1099511627776 ≤ cl v ∧ cl v ≤ 1099511627776 := by rw [cl_eq]; omega
def insI (v : Int) : List Int → List Int
  | [] => [v]
  | x :: s => if x < v then x :: insI v s else v :: x :: s
theorem insI_at : ∀ (v : Int) (s : List Int) (k : Nat), k ≤ s.length → (∀ j x, j < k → s[j]? = some x → x < v) → (k = s.length ∨ ∃ x, s[k]? = some x ∧ ¬ x < v) → insI v s = s.take k ++ v :: s.drop k
  | v, [], k, hk, h1, h2 => by
    obtain rfl : k = 0 := by simpa using hk
    rfl
  | v, x :: s, 0, hk, h1, h2 => by
    rcases h2 with h2 | ⟨y, hy, h2⟩
    · simp at h2
    · obtain rfl : x = y := by simpa using hy
      unfold insI
      rw [if_neg h2]
      rfl
  | v, x :: s, k + 1, hk, h1, h2 => by
    have hx := h1 0 x (by omega) rfl
    unfold insI
    rw [if_pos hx, insI_at v s k (by simpa using hk) (fun j y hj hy => h1 (j + 1) y (by omega) (by simpa using hy)) (by
      rcases h2 with h2 | ⟨y, hy, h2⟩
      · exact Or.inl (by simpa using h2)
      · exact Or.inr ⟨y, by simpa using hy, h2⟩)]
    rfl
theorem insI_perm (v : Int) : ∀ s : List Int, (insI v s).Perm (v :: s)
  | [] => List.Perm.refl _
  | x :: s => by
    unfold insI
    split
    · exact ((insI_perm v s).cons x).trans (List.Perm.swap v x s)
    · exact List.Perm.refl _
theorem insI_len (v : Int) (s : List Int) : (insI v s).length = s.length + 1 := by rw [(insI_perm v s).length_eq]; rfl
theorem insI_up (v : Int) : ∀ s : List Int, s.Pairwise (· ≤ ·) → (insI v s).Pairwise (· ≤ ·)
  | [], _ => List.pairwise_singleton _ _
  | x :: s, h => by
    rw [List.pairwise_cons] at h
    unfold insI
    split
    · rename_i hx
      rw [List.pairwise_cons]
      refine ⟨fun y hy => ?_, insI_up v s h.2⟩
      rcases List.mem_cons.mp ((insI_perm v s).mem_iff.mp hy) with rfl | hy
      · omega
      · exact h.1 y hy
    · rename_i hx
      rw [List.pairwise_cons]
      refine ⟨fun y hy => ?_, List.pairwise_cons.mpr h⟩
      rcases List.mem_cons.mp hy with rfl | hy
      · omega
      · have := h.1 y hy; omega
def srt (l : List Int) : List Int := l.foldl (fun s v => insI (cl v) s) []
theorem srt_snoc (l : List Int) (v : Int) : srt (l ++ [v]) = insI (cl v) (srt l) := by simp [srt]
theorem srt_props : ∀ l : List Int, (srt l).Pairwise (· ≤ ·) ∧ (srt l).Perm (l.map cl) := by
  intro l
  have key : ∀ (n : Nat) (l : List Int), l.length = n → (srt l).Pairwise (· ≤ ·) ∧ (srt l).Perm (l.map cl) := by
    intro n
    induction n with
    | zero =>
      intro l hl
      obtain rfl := List.length_eq_zero_iff.mp hl
      exact ⟨List.Pairwise.nil, List.Perm.refl _⟩
    | succ n ih =>
      intro l hl
      obtain ⟨l', v, rfl⟩ : ∃ l' v, l = l' ++ [v] := by
        rcases List.eq_nil_or_concat l with rfl | ⟨l', v, rfl⟩
        · simp at hl
        · exact ⟨l', v, by simp⟩
      obtain ⟨h1, h2⟩ := ih l' (by simpa using hl)
      rw [srt_snoc]
      refine ⟨insI_up _ _ h1, (insI_perm _ _).trans ?_⟩
      rw [List.map_append]
      exact (h2.cons (cl v)).trans (List.perm_append_comm (l₁ := [cl v]) (l₂ := l'.map cl))
  exact key _ l rfl
theorem srt_len (l : List Int) : (srt l).length = l.length := by rw [(srt_props l).2.length_eq, List.length_map]
theorem srt_is (l : List Int) : srt l = (l.mergeSort fun x y => decide (x ≤ y)).map cl := by
  have hp : (l.mergeSort fun x y => decide (x ≤ y)).Perm l := List.mergeSort_perm l _
  have hs : (l.mergeSort fun x y => decide (x ≤ y)).Pairwise (fun x y => decide (x ≤ y) = true) := List.pairwise_mergeSort (by intro a b c h1 h2; simp at *; omega) (by intro a b; simp; omega) l
  obtain ⟨h1, h2⟩ := srt_props l
  refine List.Perm.eq_of_pairwise (le := fun a b => a ≤ b) (fun a b _ _ q1 q2 => Int.le_antisymm q1 q2) h1 ?_ (h2.trans (hp.map cl).symm)
  exact List.Pairwise.map cl (fun a b h => cl_mono (of_decide_eq_true h)) hs
/-- The middle one. -/
def mid (l : List Int) : Int := (srt l).getD ((l.length - 1) / 2) 0
theorem mid_is (l : List Int) (h : 0 < l.length) : mid l = min (max ((l.mergeSort fun x y => decide (x ≤ y))[(l.length - 1) / 2]?.getD 0) (-1099511627776)) 1099511627776 := by
  have hl : (l.mergeSort fun x y => decide (x ≤ y)).length = l.length := List.length_mergeSort l
  unfold mid
  rw [srt_is, List.getD_eq_getElem?_getD, List.getElem?_map, ← cl_eq]
  have hk : (l.length - 1) / 2 < (l.mergeSort fun x y => decide (x ≤ y)).length := by rw [hl]; omega
  rw [List.getElem?_eq_getElem hk]
  rfl
theorem mid_in (l : List Int) (h : 0 < l.length) : -1099511627776 ≤ mid l ∧ mid l ≤ 1099511627776 := by rw [mid_is l h]; omega
end Go.Proofs.YtfebebjopjopcaaG
