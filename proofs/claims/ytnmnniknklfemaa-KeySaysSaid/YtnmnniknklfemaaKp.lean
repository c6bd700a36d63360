/- Two ways to put keys in order are one; what is in order, each once. No condition. -/
import Derived.Test.YtnmnniknklfemaaKs
namespace Go.Proofs.Ytnmnniknklfemaa
open Go.Sort
set_option linter.unusedVariables false
set_option linter.unusedSimpArgs false
def ltK (x y : K16) : Prop := cmpK x.1 y.1 < 0
theorem ltOf_iff (x y : K16) : ltOf cmp16 x y = true ↔ ltK x y := by unfold ltOf ltK cmp16 cmpK; exact decide_eq_true_iff
theorem ltK_irr (x : K16) : ¬ ltK x x := fun h => by have := swo16.irrefl x; rw [(ltOf_iff x x).2 h] at this; cases this
theorem ltK_trans {x y z : K16} (h1 : ltK x y) (h2 : ltK y z) : ltK x z := (ltOf_iff x z).1 (swo16.trans x y z ((ltOf_iff x y).2 h1) ((ltOf_iff y z).2 h2))
theorem ltK_tri (x y : K16) : ltK x y ∨ x = y ∨ ltK y x := by
  cases h1 : ltOf cmp16 x y
  · cases h2 : ltOf cmp16 y x
    · exact .inr (.inl (tot16 x y h1 h2))
    · exact .inr (.inr ((ltOf_iff y x).1 h2))
  · exact .inl ((ltOf_iff x y).1 h1)
theorem ltK_le {x y : K16} : ¬ ltK y x ↔ (ltK x y ∨ x = y) := by
  constructor
  · intro h
    rcases ltK_tri x y with h1 | h1 | h1
    · exact .inl h1
    · exact .inr h1
    · exact absurd h1 h
  · rintro (h | rfl) h2
    · exact ltK_irr _ (ltK_trans h h2)
    · exact ltK_irr _ h2
theorem pw_eq : ∀ l m : List K16, l.Pairwise ltK → m.Pairwise ltK → (∀ x, x ∈ l ↔ x ∈ m) → l = m
  | [], [], _, _, _ => rfl
  | [], b :: m, _, _, h => absurd ((h b).2 List.mem_cons_self) (by simp)
  | a :: l, [], _, _, h => absurd ((h a).1 List.mem_cons_self) (by simp)
  | a :: l, b :: m, h1, h2, h => by
    rw [List.pairwise_cons] at h1 h2
    have e : a = b := by
      rcases List.mem_cons.1 ((h a).1 List.mem_cons_self) with e | e
      · exact e
      · rcases List.mem_cons.1 ((h b).2 List.mem_cons_self) with e2 | e2
        · exact e2.symm
        · exact absurd (ltK_trans (h1.1 b e2) (h2.1 a e)) (ltK_irr _)
    subst e
    rw [pw_eq l m h1.2 h2.2 fun x => ?_]
    constructor
    · intro hx
      rcases List.mem_cons.1 ((h x).1 (List.mem_cons_of_mem _ hx)) with e | e
      · subst e; exact absurd (h1.1 x hx) (ltK_irr _)
      · exact e
    · intro hx
      rcases List.mem_cons.1 ((h x).2 (List.mem_cons_of_mem _ hx)) with e | e
      · subst e; exact absurd (h2.1 x hx) (ltK_irr _)
      · exact e

/-! ### insertion -/
theorem ins_mem (L : List K16) (x y : K16) : y ∈ insK L x ↔ y = x ∨ y ∈ L := by
  unfold insK
  by_cases hf : fd L x = true
  · rw [if_pos hf]
    constructor
    · exact .inr
    · rintro (rfl | h)
      · unfold fd at hf
        split at hf
        · rename_i z hz
          rw [keq_eq, decide_eq_true_iff] at hf
          subst hf
          exact List.mem_of_getElem? hz
        · cases hf
      · exact h
  · rw [if_neg hf]
    have : y ∈ L ↔ y ∈ L.take (pos L x) ∨ y ∈ L.drop (pos L x) := by
      rw [← List.mem_append, List.take_append_drop]
    simp only [List.mem_append, List.mem_cons, this]
    constructor
    · rintro (h | h | h)
      · exact .inr (.inl h)
      · exact .inl h
      · exact .inr (.inr h)
    · rintro (h | h | h)
      · exact .inr (.inl h)
      · exact .inl h
      · exact .inr (.inr h)
theorem ins_pw (L : List K16) (x : K16) (h : L.Pairwise ltK) : (insK L x).Pairwise ltK := by
  unfold insK
  by_cases hf : fd L x = true
  · rw [if_pos hf]; exact h
  · rw [if_neg hf]
    have hlo : ∀ y ∈ L.take (pos L x), ltK y x := by
      intro y hy
      obtain ⟨i, hi, e⟩ := List.getElem_of_mem hy
      rw [List.getElem_take] at e
      rw [List.length_take] at hi
      exact pos_lo L x i y (by omega) (by rw [← e]; exact List.getElem?_eq_getElem (by omega))
    have hhi : ∀ y ∈ L.drop (pos L x), ltK x y := by
      intro y hy
      cases hz : L[pos L x]? with
      | none =>
        rw [List.getElem?_eq_none_iff] at hz
        rw [List.drop_of_length_le hz] at hy
        simp at hy
      | some z =>
        have h1 := pos_hi L x z hz
        have hne : z ≠ x := fun e => by
          apply hf
          unfold fd
          rw [hz]
          simp only [keq_eq, decide_eq_true_iff]
          exact e
        have hxz : ltK x z := by
          rcases ltK_tri x z with h2 | h2 | h2
          · exact h2
          · exact absurd h2.symm hne
          · exact absurd h2 h1
        have hp : (L.drop (pos L x)).Pairwise ltK := h.sublist (List.drop_sublist _ _)
        have hlt := (List.getElem?_eq_some_iff.1 hz).1
        rw [List.drop_eq_getElem_cons hlt] at hy hp
        have ez : L[pos L x] = z := (List.getElem?_eq_some_iff.1 hz).2
        rw [ez] at hy hp
        rcases List.mem_cons.1 hy with rfl | hy
        · exact hxz
        · exact ltK_trans hxz ((List.pairwise_cons.1 hp).1 y hy)
    rw [List.pairwise_append]
    refine ⟨h.sublist (List.take_sublist _ _), List.pairwise_cons.2 ⟨hhi, h.sublist (List.drop_sublist _ _)⟩, fun a ha b hb => ?_⟩
    rcases List.mem_cons.1 hb with rfl | hb
    · exact hlo a ha
    · exact ltK_trans (hlo a ha) (hhi b hb)
theorem fold_mem : ∀ (ks L : List K16) (y : K16), y ∈ ks.foldl insK L ↔ y ∈ L ∨ y ∈ ks
  | [], L, y => by simp
  | x :: ks, L, y => by
    rw [List.foldl_cons, fold_mem ks _ y, ins_mem, List.mem_cons]
    constructor
    · rintro ((h | h) | h)
      · exact .inr (.inl h)
      · exact .inl h
      · exact .inr (.inr h)
    · rintro (h | h | h)
      · exact .inl (.inr h)
      · exact .inl (.inl h)
      · exact .inr h
theorem fold_pw : ∀ (ks L : List K16), L.Pairwise ltK → (ks.foldl insK L).Pairwise ltK
  | [], L, h => h
  | x :: ks, L, h => fold_pw ks _ (ins_pw L x h)

/-! ### sort, then compact -/
theorem sort_pw (ks : List K16) : (sortK ks).Pairwise fun x y => ¬ ltK y x := by
  have h := List.pairwise_mergeSort (le := le16) (fun a b c h1 h2 => ?_) (fun a b => ?_) ks
  · refine List.Pairwise.imp (fun {a b} hab => ?_) h
    intro hb
    have := (ltOf_iff b a).2 hb
    simp [le16, this] at hab
  · simp only [le16, Bool.not_eq_true'] at h1 h2 ⊢
    cases h3 : ltOf cmp16 c a
    · rfl
    · have hb : ¬ ltK b a := fun h => by rw [(ltOf_iff _ _).2 h] at h1; cases h1
      have hc : ¬ ltK c b := fun h => by rw [(ltOf_iff _ _).2 h] at h2; cases h2
      have h4 := (ltOf_iff _ _).1 h3
      rcases ltK_le.1 hb with h5 | h5
      · exact absurd (ltK_trans h4 h5) hc
      · subst h5; exact absurd h4 hc
  · simp only [le16, Bool.or_eq_true, Bool.not_eq_true']
    cases h1 : ltOf cmp16 b a
    · exact .inl rfl
    · right
      cases h2 : ltOf cmp16 a b
      · rfl
      · exact absurd (ltK_trans ((ltOf_iff _ _).1 h1) ((ltOf_iff _ _).1 h2)) (ltK_irr _)
theorem comp_pw (ks : List K16) (h : ks.Pairwise fun x y => ¬ ltK y x) : (Lib.compact ks).Pairwise ltK := by
  unfold Lib.compact Lib.compactUpTo
  rw [List.pairwise_map]
  have hi := List.pairwise_iff_getElem.1 h
  have hget : ∀ i (hi : i < ks.length), ks.toArray[i]! = ks[i] := fun i hi => by simp [getElem!_pos, hi]
  have h0 : ((List.range ks.length).filter (Lib.keeps ks.toArray)).Pairwise (· < ·) := List.Pairwise.filter _ List.pairwise_lt_range
  refine List.Pairwise.imp_of_mem (fun {a b} ha hb hab => ?_) h0
  obtain ⟨hb1, hb2⟩ := List.mem_filter.1 hb
  have hb1 := List.mem_range.1 hb1
  have hb0 : b ≠ 0 := by omega
  have hne : ks.toArray[b]! ≠ ks.toArray[b - 1]! := by
    rcases of_decide_eq_true hb2 with h | h
    · exact absurd h hb0
    · exact h
  rw [hget b hb1, hget (b - 1) (by omega)] at hne
  rw [hget a (by omega), hget b hb1]
  have h1 : ltK ks[b - 1] ks[b] := by
    rcases ltK_le.1 (hi (b - 1) b (by omega) hb1 (by omega)) with h | h
    · exact h
    · exact absurd h.symm hne
  by_cases hab1 : a = b - 1
  · subst hab1; exact h1
  · rcases ltK_le.1 (hi a (b - 1) (by omega) (by omega) (by omega)) with h | h
    · exact ltK_trans h h1
    · rw [h]; exact h1
theorem comp_mem (ks : List K16) (x : K16) : x ∈ Lib.compact ks ↔ x ∈ ks := by
  unfold Lib.compact Lib.compactUpTo
  have hget : ∀ i (hi : i < ks.length), ks.toArray[i]! = ks[i] := fun i hi => by simp [getElem!_pos, hi]
  simp only [List.mem_map, List.mem_filter, List.mem_range]
  constructor
  · rintro ⟨i, ⟨hi, _⟩, e⟩
    rw [hget i hi] at e
    rw [← e]
    exact List.getElem_mem _
  · intro hx
    obtain ⟨i, hi, e⟩ := List.getElem_of_mem hx
    have : ∀ i (hi : i < ks.length), ks[i] = x → ∃ a, (a < ks.length ∧ Lib.keeps ks.toArray a = true) ∧ ks.toArray[a]! = x := by
      intro i
      induction i with
      | zero => intro hi e; exact ⟨0, ⟨hi, Lib.keeps_lt_one _ 0 (by omega)⟩, by rw [hget 0 hi]; exact e⟩
      | succ i ih =>
        intro hi e
        by_cases hk : Lib.keeps ks.toArray (i + 1) = true
        · exact ⟨i + 1, ⟨hi, hk⟩, by rw [hget _ hi]; exact e⟩
        · have : ks.toArray[i + 1]! = ks.toArray[i]! := by
            simp [Lib.keeps] at hk
            simpa using hk
          rw [hget _ hi, hget _ (by omega)] at this
          exact ih (by omega) (this ▸ e)
    exact this i hi e
theorem ksort_pw (ks : List K16) : (ksort ks).Pairwise ltK := comp_pw _ (sort_pw ks)
theorem ksort_mem (ks : List K16) (x : K16) : x ∈ ksort ks ↔ x ∈ ks := by
  unfold ksort
  rw [comp_mem]
  exact (List.mergeSort_perm ks le16).mem_iff
theorem sorts_one (ks : List K16) : ksort ks = rsortK ks :=
  pw_eq _ _ (ksort_pw ks) (fold_pw ks [] List.Pairwise.nil) fun x => by rw [ksort_mem]; unfold rsortK; rw [fold_mem]; simp
theorem ksort_twice (ks : List K16) : ksort (ksort ks) = ksort ks := pw_eq _ _ (ksort_pw _) (ksort_pw ks) fun x => by rw [ksort_mem]
theorem ksort_len (ks : List K16) : (ksort ks).length ≤ ks.length := by
  unfold ksort Lib.compact Lib.compactUpTo
  rw [List.length_map]
  refine Nat.le_trans (List.length_filter_le _ _) ?_
  rw [List.length_range, sortK_len]
  exact Nat.le_refl _
end Go.Proofs.Ytnmnniknklfemaa
