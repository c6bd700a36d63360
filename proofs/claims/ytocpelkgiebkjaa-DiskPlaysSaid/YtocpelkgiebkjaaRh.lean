/- A drawn region whose listed operations each leave what is said: edges that do not bind may point ahead. Conditions: the theorem's own. -/
import Derived.Test.YtocpelkgiebkjaaRg
namespace Go.Proofs.Ytocpelkgiebkjaa.Sp
open Go.RowKit
set_option linter.unusedVariables false
def tailB2 (ops : Array Oper) (m : Nat) : Bool :=
  ((List.range ops.size).all fun t => decide (t < m) || (List.range t).all fun j => (ops[t]?).any fun o => o.after.any fun e => Region.binds .any e && e.on == j) &&
  ((List.range ops.size).all fun t => (ops[t]?).any fun o => o.after.all fun e => !Region.binds .any e || decide (e.on < t))
theorem wp_region_vals2 {P : Program} {id : Nat} {l : List Oper} {Q : Exit → Act → World → Prop} {a : Act} {w : World} (m : Nat) (hm : P.follows .mixedOrders = true) (hB : tailB2 l.toArray m = true) (hD : dstB (l.take m) = true)
    (I : (Nat → Bool) → World → Prop) (S : World → World → Prop) (V : Nat → World → Value → Prop) (h0 : I (fun _ => false) w.drew)
    (hstab : ∀ i v w1 w2, S w1 w2 → V i w1 v → V i w2 v)
    (hstep : ∀ i o, i < m → l[i]? = some o → ∀ (L : Nat → Bool) (f : Nat → Value) (w1 : World), I L w1 → L i = false → (∀ e ∈ o.after, Region.binds .any e = true → L e.on = true ∧ V e.on w1 (f e.on)) →
      wpOp P l.toArray Q i (LeftBy o.dst (fill (l.take m) f 0 a) i L I S V w1) (fill (l.take m) f 0 a) w1)
    (hfin : ∀ (L : Nat → Bool) (f : Nat → Value) (w1 : World), I L w1 → (∀ i, i < m → i < l.length → L i = true) → (∀ i, i < m → i < l.length → V i w1 (f i)) → wpList P l.toArray Q (l.drop m) (fill (l.take m) f 0 a) w1) : (Code.region id l.toArray true).wp P Q a w := by
  unfold tailB2 at hB
  rw [Bool.and_eq_true] at hB
  obtain ⟨hB1, hB2⟩ := hB
  have tail : ∀ t, m ≤ t → t < l.length → ∀ j, j < t → ∃ o, l[t]? = some o ∧ ∃ e, e ∈ o.after ∧ Region.binds .any e = true ∧ e.on = j := by
    intro t h1 h2 j hj
    have := List.all_eq_true.1 hB1 t (List.mem_range.2 (by simpa using h2))
    simp only [Bool.or_eq_true, decide_eq_true_eq] at this
    rcases this with this | this
    · omega
    have := List.all_eq_true.1 this j (List.mem_range.2 hj)
    cases hq : l[t]? with
    | none => simp [hq] at this
    | some o =>
      simp only [List.getElem?_toArray, hq, Option.any_some, Array.any_eq_true'] at this
      obtain ⟨e, he, hb⟩ := this
      simp only [Bool.and_eq_true, beq_iff_eq] at hb
      exact ⟨o, rfl, e, he, hb.1, hb.2⟩
  have head : ∀ (t : Nat) (o : Oper), l[t]? = some o → ∀ e ∈ o.after, Region.binds .any e = true → e.on < t := by
    intro t o ho e he hb
    have hlt : t < l.length := (List.getElem?_eq_some_iff.mp ho).1
    have := List.all_eq_true.1 hB2 t (List.mem_range.2 (by simpa using hlt))
    simp only [List.getElem?_toArray, ho, Option.any_some] at this
    have := (Array.all_eq_true'.mp this) e he
    rw [hb] at this
    simpa using this
  have hD' : ((l.take m).filterMap (·.dst)).Nodup := by simpa [dstB] using hD
  refine wp_region_any hm (wpAny_inv (J := fun listed a' w' => listed.size = l.length ∧
      ((∃ f, a' = fill (l.take m) f 0 a ∧ I (Lst listed) w' ∧ (∀ i, i < m → Lst listed i = true → V i w' (f i)) ∧ ∀ t, m ≤ t → Lst listed t = false) ∨
       (∃ t, m < t ∧ t ≤ l.length ∧ (∀ i, i < t → Lst listed i = true) ∧ (∀ i, t ≤ i → Lst listed i = false) ∧ wpList P l.toArray Q (l.drop t) a' w'))) ?_ ?_ _ _ _ _ (by simp) ?_)
  · rintro listed a' w' ⟨hsz, hJ⟩ hr
    have full : ∀ (i : Nat), i < l.length → Lst listed i = true := by
      intro i
      induction i using Nat.strongRecOn with
      | _ i ih =>
        intro hi
        cases hl : Lst listed i with
        | true => rfl
        | false =>
          have : i ∈ Region.ready .any l.toArray listed := by
            refine mem_ready.2 ⟨?_, l[i], by simp [hi], fun e he hb => ?_⟩
            · unfold Lst at hl
              simpa [Array.getD_eq_getD_getElem?, Array.getElem?_eq_getElem (show i < listed.size by omega)] using hl
            · have := head i l[i] (by simp [hi]) e he hb
              exact ih e.on this (by omega)
          rw [hr] at this
          cases this
    rcases hJ with ⟨f, rfl, hI, hV, ht⟩ | ⟨t, hmt, htl, h1, h2, hw⟩
    · have hle : l.length ≤ m := by
        rcases Nat.lt_or_ge m l.length with h | h
        · have := full m h
          rw [ht m (Nat.le_refl _)] at this
          cases this
        · exact h
      have := hfin (Lst listed) f w' hI (fun i _ hl => full i hl) (fun i hi hl => hV i hi (full i hl))
      rw [List.drop_eq_nil_of_le hle] at this
      exact this
    · have : t = l.length := by
        rcases Nat.lt_or_ge t l.length with h | h
        · have := full t h
          rw [h2 t (Nat.le_refl _)] at this
          cases this
        · omega
      subst this
      rw [List.drop_length] at hw
      exact hw
  · rintro listed a' w' i ⟨hsz, hJ⟩ hi
    obtain ⟨hn, o, ho, hall⟩ := mem_ready.1 hi
    have ho' : l[i]? = some o := by simpa using ho
    have hlt : i < l.length := (List.getElem?_eq_some_iff.mp ho').1
    have hLi : Lst listed i = false := by
      unfold Lst
      simpa [Array.getD_eq_getD_getElem?, Array.getElem?_eq_getElem (show i < listed.size by omega)] using hn
    have hset : Lst (listed.setIfInBounds i true) = fun k => if k = i then true else Lst listed k := by
      funext k
      unfold Lst
      by_cases hk : k = i
      · subst hk
        simp [Array.getD_eq_getD_getElem?, show k < listed.size by omega]
      · simp [Array.getD_eq_getD_getElem?, hk, Ne.symm hk]
    rcases hJ with ⟨f, rfl, hI, hV, ht⟩ | ⟨t, hmt, htl, h1, h2, hw⟩
    · rcases Nat.lt_or_ge i m with him | him
      · refine wpOp_mono ?_ (hstep i o him ho' (Lst listed) f w' hI hLi (fun e he hb => ⟨hall e he hb, hV _ (by have := head i o ho' e he hb; omega) (hall e he hb)⟩))
        rintro a2 w2 ⟨v, rfl, hI2, hS, hv⟩
        refine ⟨by simpa using hsz, .inl ⟨upd f i v, ?_, ?_, ?_, ?_⟩⟩
        · have := fill_put (l.take m) f 0 a i o v hD' (by rw [List.getElem?_take, if_pos him]; exact ho')
          rw [Nat.zero_add] at this
          exact this
        · rw [hset]; exact hI2
        · intro k hk hl
          rw [hset] at hl
          by_cases hki : k = i
          · subst hki
            simpa [upd] using hv
          · simp only [hki, if_false] at hl
            simp only [upd, hki, if_false]
            exact hstab _ _ _ _ hS (hV k hk hl)
        · intro k hk
          rw [hset]
          have : k ≠ i := by omega
          simp only [this, if_false]
          exact ht k hk
      · have himm : i = m := by
          rcases Nat.lt_or_ge m i with h | h
          · obtain ⟨o2, ho2, e, he, hb, hej⟩ := tail i him hlt m h
            have : o2 = o := Option.some.inj (ho2.symm.trans ho')
            subst this
            have := hall e he hb
            rw [hej] at this
            have h3 := ht m (Nat.le_refl _)
            unfold Lst at h3
            rw [this] at h3
            cases h3
          · omega
        subst himm
        have all : ∀ k, k < i → Lst listed k = true := by
          intro k hk
          obtain ⟨o2, ho2, e, he, hb, hej⟩ := tail i him hlt k hk
          have : o2 = o := Option.some.inj (ho2.symm.trans ho')
          subst this
          have := hall e he hb
          rw [hej] at this
          exact this
        have hw := hfin (Lst listed) f w' hI (fun k hk _ => all k hk) (fun k hk _ => hV k hk (all k hk))
        have hdrop : l.drop i = o :: l.drop (i + 1) := by
          rw [List.drop_eq_getElem_cons hlt]
          congr 1
          exact (List.getElem?_eq_some_iff.mp ho').2
        rw [hdrop] at hw
        have hgo : wpOp P l.toArray Q i (wpList P l.toArray Q (l.drop (i + 1))) (fill (l.take i) f 0 a) w' := by
          unfold wpOp
          rw [List.getElem?_toArray, ho']
          exact hw
        refine wpOp_mono ?_ hgo
        intro a2 w2 h2
        refine ⟨by simpa using hsz, .inr ⟨i + 1, by omega, by omega, ?_, ?_, h2⟩⟩
        · intro k hk
          rw [hset]
          by_cases hki : k = i
          · simp [hki]
          · simp only [hki, if_false]
            exact all k (by omega)
        · intro k hk
          rw [hset]
          have : k ≠ i := by omega
          simp only [this, if_false]
          exact ht k (by omega)
    · have hit : i = t := by
        rcases Nat.lt_or_ge i t with h | h
        · rw [h1 i h] at hLi
          cases hLi
        · rcases Nat.lt_or_ge t i with h3 | h3
          · obtain ⟨o2, ho2, e, he, hb, hej⟩ := tail i (by omega) hlt t h3
            have : o2 = o := Option.some.inj (ho2.symm.trans ho')
            subst this
            have := hall e he hb
            rw [hej] at this
            have h4 := h2 t (Nat.le_refl _)
            unfold Lst at h4
            rw [this] at h4
            cases h4
          · omega
      subst hit
      have hdrop : l.drop i = o :: l.drop (i + 1) := by
        rw [List.drop_eq_getElem_cons hlt]
        congr 1
        exact (List.getElem?_eq_some_iff.mp ho').2
      rw [hdrop] at hw
      have hgo : wpOp P l.toArray Q i (wpList P l.toArray Q (l.drop (i + 1))) a' w' := by
        unfold wpOp
        rw [List.getElem?_toArray, ho']
        exact hw
      refine wpOp_mono ?_ hgo
      intro a2 w2 h3
      refine ⟨by simpa using hsz, .inr ⟨i + 1, by omega, by omega, ?_, ?_, h3⟩⟩
      · intro k hk
        rw [hset]
        by_cases hki : k = i
        · simp [hki]
        · simp only [hki, if_false]
          exact h1 k (by omega)
      · intro k hk
        rw [hset]
        have : k ≠ i := by omega
        simp only [this, if_false]
        exact h2 k (by omega)
  · obtain ⟨f, hf⟩ := fill_start (l.take m) 0 a
    refine ⟨by simp, .inl ⟨f, hf.symm, ?_, ?_, ?_⟩⟩
    · have : Lst (Array.replicate l.toArray.size false) = fun _ => false := by
        funext k
        unfold Lst
        simp [Array.getD_eq_getD_getElem?, Array.getElem?_replicate]
        split <;> rfl
      rw [this]
      exact h0
    · intro i _ h
      have : Lst (Array.replicate l.toArray.size false) i = false := by
        unfold Lst
        simp [Array.getD_eq_getD_getElem?, Array.getElem?_replicate]
        split <;> rfl
      rw [this] at h
      cases h
    · intro i _
      unfold Lst
      simp [Array.getD_eq_getD_getElem?, Array.getElem?_replicate]
      split <;> rfl
end Go.Proofs.Ytocpelkgiebkjaa.Sp
