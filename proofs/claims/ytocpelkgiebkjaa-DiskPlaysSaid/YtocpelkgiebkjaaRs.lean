/- Rows of files turned in one cell. Conditions: each theorem's own. -/
import Derived.Test.YtocpelkgiebkjaaRr
namespace Go.Proofs.Ytocpelkgiebkjaa
open Go.RowKit Go.Proofs.Ytocpelkgiebkjaa.Sp
set_option linter.unusedVariables false
set_option linter.unusedSimpArgs false
theorem RowB.putn {e : TypeId} {sz n : Nat} {xs : List Value} {gr cap : Nat} {h : Hp} (R : RowB e sz (.slice (some ⟨gr, 0, none⟩) n cap) n xs h) : ∃ cur, h = [(gr, .cells cur e (0, 0))] ∧ n * sz ≤ cur.size ∧ ∀ j u, j < n * sz → RowB e sz (.slice (some ⟨gr, 0, none⟩) n cap) n (xs.set j u) [(gr, .cells (cur.setIfInBounds j u) e (0, 0))] := by
  obtain ⟨h1, ⟨hv, _, _⟩ | ⟨g, cap', cur, hv, rfl, h2, h3, h4, h5⟩⟩ := R
  · injection hv with e1; cases e1
  · injection hv with e1 _ e3
    injection e1 with e1
    injection e1 with e1 _ _
    subst e1
    subst e3
    have hle : n * sz ≤ cap * sz := Nat.mul_le_mul_right _ h2
    refine ⟨cur, rfl, by omega, fun j u hj => ⟨by simpa using h1, .inr ⟨gr, cap, _, rfl, rfl, h2, h3, by simpa using h4, ?_⟩⟩⟩
    rw [Array.toList_setIfInBounds, List.take_set, h5]
theorem FRw.set_safe : ∀ {L : List (ByteArray × Fl)} {vs : List Value} {h : Hp}, FRw L vs h → ∀ (j : Nat) (x : ByteArray × Fl) (n : Nat), L[j]? = some x → FRw (L.set j (x.1, { x.2 with safe := n })) (vs.set (j * 3 + 2) (.int .i64 n)) h
  | [], vs, h, H, j, x, n, hj => by simp at hj
  | y :: L, vs, h, H, 0, x, n, hj => by
    obtain ⟨v, hb, vs', h', R, F, rfl, rfl⟩ := H
    obtain rfl : y = x := by simpa using hj
    exact ⟨v, hb, vs', h', R, F, rfl, rfl⟩
  | y :: L, vs, h, H, j + 1, x, n, hj => by
    obtain ⟨v, hb, vs', h', R, F, rfl, rfl⟩ := H
    have := FRw.set_safe F j x n (by simpa using hj)
    refine ⟨v, hb, _, h', R, this, ?_, rfl⟩
    rw [show (j + 1) * 3 + 2 = (j * 3 + 2) + 3 by omega]
    rfl
/-- Where names are apart, turning by place is turning by name. -/
theorem set_at (s : ByteArray) (f : Fl) : ∀ (L : List (ByteArray × Fl)) (k : Nat) (x : ByteArray × Fl), L.Pairwise (fun x y => x.1 ≠ y.1) → L[k]? = some x → x.1 = s → L.set k (s, f) = setM s f L
  | [], k, x, _, h, _ => by simp at h
  | y :: L, 0, x, hp, h, hs => by
    obtain rfl : y = x := by simpa using h
    rw [List.pairwise_cons] at hp
    unfold setM
    rw [List.map_cons, if_pos hs, List.set_cons_zero]
    congr 1
    conv => lhs; rw [← List.map_id L]
    refine List.map_congr_left fun z hz => ?_
    rw [if_neg (by have := hp.1 z hz; rw [hs] at this; exact fun q => this q.symm)]
    rfl
  | y :: L, k + 1, x, hp, h, hs => by
    rw [List.pairwise_cons] at hp
    have hx : L[k]? = some x := by simpa using h
    have ih := set_at s f L k x hp.2 hx hs
    unfold setM at ih ⊢
    rw [List.map_cons, List.set_cons_succ, ih, if_neg]
    intro q
    exact hp.1 x (List.mem_of_getElem? hx) (q.trans hs.symm)
end Go.Proofs.Ytocpelkgiebkjaa
