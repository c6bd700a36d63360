/- A drawn region whose operations each bear the memory that they made, until another operation takes it. Conditions: the theorems' own. -/
import Derived.Test.YtocpelkgiebkjaaRi
namespace Go.Proofs.Ytocpelkgiebkjaa.Sp
open Go.RowKit
set_option linter.unusedVariables false
set_option linter.unusedSimpArgs false
/-- The plainest rule: an invariant over what is listed, the values, the world. -/
theorem wp_region_st {P : Program} {id : Nat} {l : List Oper} {Q : Exit → Act → World → Prop} {a : Act} {w : World} (m : Nat) (hm : P.follows .mixedOrders = true) (hB : tailB3 l.toArray m = true) (hD : dstB (l.take m) = true)
    (G : (Nat → Bool) → (Nat → Value) → World → Prop) (h0 : ∀ f, G (fun _ => false) f w.drew)
    (hstep : ∀ i o, i < m → l[i]? = some o → ∀ (L : Nat → Bool) (f : Nat → Value) (w1 : World), G L f w1 → L i = false → (∀ e ∈ o.after, Region.binds .any e = true → L e.on = true ∧ e.on < i) →
      wpOp P l.toArray Q i (fun a' w2 => ∃ v, a' = (fill (l.take m) f 0 a).put o.dst v ∧ G (fun k => if k = i then true else L k) (upd f i v) w2) (fill (l.take m) f 0 a) w1)
    (hfin : ∀ (L : Nat → Bool) (f : Nat → Value) (w1 : World), G L f w1 → (∀ i, i < m → i < l.length → L i = true) → wpList P l.toArray Q (l.drop m) (fill (l.take m) f 0 a) w1) : (Code.region id l.toArray true).wp P Q a w := by
  unfold tailB3 at hB
  rw [Bool.and_eq_true] at hB
  obtain ⟨hB1, hB2⟩ := hB
  have tail0 : m < l.length → ∀ j, j < m → ∃ o, l[m]? = some o ∧ ∃ e, e ∈ o.after ∧ Region.binds .any e = true ∧ e.on = j := by
    intro h2 j hj
    have := List.all_eq_true.1 hB1 m (List.mem_range.2 (by simpa using h2))
    simp only [Bool.or_eq_true, decide_eq_true_eq, if_true] at this
    rcases this with this | this
    · omega
    have := List.all_eq_true.1 this j (List.mem_range.2 hj)
    cases hq : l[m]? with
    | none => simp [hq] at this
    | some o =>
      simp only [List.getElem?_toArray, hq, Option.any_some, Array.any_eq_true'] at this
      obtain ⟨e, he, hb⟩ := this
      simp only [Bool.and_eq_true, beq_iff_eq] at hb
      exact ⟨o, rfl, e, he, hb.1, hb.2⟩
  have tail : ∀ t, m < t → t < l.length → ∃ o, l[t]? = some o ∧ ∃ e, e ∈ o.after ∧ Region.binds .any e = true ∧ e.on = t - 1 := by
    intro t h1 h2
    have := List.all_eq_true.1 hB1 t (List.mem_range.2 (by simpa using h2))
    rw [if_neg (by omega)] at this
    simp only [Bool.or_eq_true, decide_eq_true_eq] at this
    rcases this with this | this
    · omega
    cases hq : l[t]? with
    | none => simp [hq] at this
    | some o =>
      simp only [List.getElem?_toArray, hq, Option.any_some, Array.any_eq_true'] at this
      obtain ⟨e, he, hb⟩ := this
      simp only [Bool.and_eq_true, beq_iff_eq] at hb
      exact ⟨o, rfl, e, he, hb.1, hb.2⟩
  have head : ∀ (t : Nat) (o : Oper), l[t]? = some o → ∀ e ∈ o.after, Region.binds .any e = true → e.on < t := by
    intro t o ho e he hb
    have hlt : t < l.length := (List.getElem?_eq_some_iff.mp ho).1
    have := List.all_eq_true.1 hB2 t (List.mem_range.2 (by simpa using hlt))
    simp only [List.getElem?_toArray, ho, Option.any_some] at this
    have := (Array.all_eq_true'.mp this) e he
    rw [hb] at this
    simpa using this
  have hD' : ((l.take m).filterMap (·.dst)).Nodup := by simpa [dstB] using hD
  refine wp_region_any hm (wpAny_inv (J := fun listed a' w' => listed.size = l.length ∧
      ((∃ f, a' = fill (l.take m) f 0 a ∧ G (Lst listed) f w' ∧ ∀ t, m ≤ t → Lst listed t = false) ∨
       (∃ t, m < t ∧ t ≤ l.length ∧ (∀ i, i < t → Lst listed i = true) ∧ (∀ i, t ≤ i → Lst listed i = false) ∧ wpList P l.toArray Q (l.drop t) a' w'))) ?_ ?_ _ _ _ _ (by simp) ?_)
  · rintro listed a' w' ⟨hsz, hJ⟩ hr
    have full : ∀ (i : Nat), i < l.length → Lst listed i = true := by
      intro i
      induction i using Nat.strongRecOn with
      | _ i ih =>
        intro hi
        cases hl : Lst listed i with
        | true => rfl
        | false =>
          have : i ∈ Region.ready .any l.toArray listed := by
            refine mem_ready.2 ⟨?_, l[i], by simp [hi], fun e he hb => ?_⟩
            · unfold Lst at hl
              simpa [Array.getD_eq_getD_getElem?, Array.getElem?_eq_getElem (show i < listed.size by omega)] using hl
            · have := head i l[i] (by simp [hi]) e he hb
              exact ih e.on this (by omega)
          rw [hr] at this
          cases this
    rcases hJ with ⟨f, rfl, hI, ht⟩ | ⟨t, hmt, htl, h1, h2, hw⟩
    · have hle : l.length ≤ m := by
        rcases Nat.lt_or_ge m l.length with h | h
        · have := full m h
          rw [ht m (Nat.le_refl _)] at this
          cases this
        · exact h
      have := hfin (Lst listed) f w' hI (fun i _ hl => full i hl)
      rw [List.drop_eq_nil_of_le hle] at this
      exact this
    · have : t = l.length := by
        rcases Nat.lt_or_ge t l.length with h | h
        · have := full t h
          rw [h2 t (Nat.le_refl _)] at this
          cases this
        · omega
      subst this
      rw [List.drop_length] at hw
      exact hw
  · rintro listed a' w' i ⟨hsz, hJ⟩ hi
    obtain ⟨hn, o, ho, hall⟩ := mem_ready.1 hi
    have ho' : l[i]? = some o := by simpa using ho
    have hlt : i < l.length := (List.getElem?_eq_some_iff.mp ho').1
    have hLi : Lst listed i = false := by
      unfold Lst
      simpa [Array.getD_eq_getD_getElem?, Array.getElem?_eq_getElem (show i < listed.size by omega)] using hn
    have hset : Lst (listed.setIfInBounds i true) = fun k => if k = i then true else Lst listed k := by
      funext k
      unfold Lst
      by_cases hk : k = i
      · subst hk
        simp [Array.getD_eq_getD_getElem?, show k < listed.size by omega]
      · simp [Array.getD_eq_getD_getElem?, hk, Ne.symm hk]
    rcases hJ with ⟨f, rfl, hI, ht⟩ | ⟨t, hmt, htl, h1, h2, hw⟩
    · rcases Nat.lt_or_ge i m with him | him
      · refine wpOp_mono ?_ (hstep i o him ho' (Lst listed) f w' hI hLi (fun e he hb => ⟨hall e he hb, head i o ho' e he hb⟩))
        rintro a2 w2 ⟨v, rfl, hI2⟩
        refine ⟨by simpa using hsz, .inl ⟨upd f i v, ?_, ?_, ?_⟩⟩
        · have := fill_put (l.take m) f 0 a i o v hD' (by rw [List.getElem?_take, if_pos him]; exact ho')
          rw [Nat.zero_add] at this
          exact this
        · rw [hset]; exact hI2
        · intro k hk
          rw [hset]
          have : k ≠ i := by omega
          simp only [this, if_false]
          exact ht k hk
      · have himm : i = m := by
          rcases Nat.lt_or_ge m i with h | h
          · obtain ⟨o2, ho2, e, he, hb, hej⟩ := tail i h hlt
            have : o2 = o := Option.some.inj (ho2.symm.trans ho')
            subst this
            have := hall e he hb
            rw [hej] at this
            have h3 := ht (i - 1) (by omega)
            unfold Lst at h3
            rw [this] at h3
            cases h3
          · omega
        subst himm
        have all : ∀ k, k < i → Lst listed k = true := by
          intro k hk
          obtain ⟨o2, ho2, e, he, hb, hej⟩ := tail0 hlt k hk
          have : o2 = o := Option.some.inj (ho2.symm.trans ho')
          subst this
          have := hall e he hb
          rw [hej] at this
          exact this
        have hw := hfin (Lst listed) f w' hI (fun k hk _ => all k hk)
        have hdrop : l.drop i = o :: l.drop (i + 1) := by
          rw [List.drop_eq_getElem_cons hlt]
          congr 1
          exact (List.getElem?_eq_some_iff.mp ho').2
        rw [hdrop] at hw
        have hgo : wpOp P l.toArray Q i (wpList P l.toArray Q (l.drop (i + 1))) (fill (l.take i) f 0 a) w' := by
          unfold wpOp
          rw [List.getElem?_toArray, ho']
          exact hw
        refine wpOp_mono ?_ hgo
        intro a2 w2 h2
        refine ⟨by simpa using hsz, .inr ⟨i + 1, by omega, by omega, ?_, ?_, h2⟩⟩
        · intro k hk
          rw [hset]
          by_cases hki : k = i
          · simp [hki]
          · simp only [hki, if_false]
            exact all k (by omega)
        · intro k hk
          rw [hset]
          have : k ≠ i := by omega
          simp only [this, if_false]
          exact ht k (by omega)
    · have hit : i = t := by
        rcases Nat.lt_or_ge i t with h | h
        · rw [h1 i h] at hLi
          cases hLi
        · rcases Nat.lt_or_ge t i with h3 | h3
          · obtain ⟨o2, ho2, e, he, hb, hej⟩ := tail i (by omega) hlt
            have : o2 = o := Option.some.inj (ho2.symm.trans ho')
            subst this
            have := hall e he hb
            rw [hej] at this
            have h4 := h2 (i - 1) (by omega)
            unfold Lst at h4
            rw [this] at h4
            cases h4
          · omega
      subst hit
      have hdrop : l.drop i = o :: l.drop (i + 1) := by
        rw [List.drop_eq_getElem_cons hlt]
        congr 1
        exact (List.getElem?_eq_some_iff.mp ho').2
      rw [hdrop] at hw
      have hgo : wpOp P l.toArray Q i (wpList P l.toArray Q (l.drop (i + 1))) a' w' := by
        unfold wpOp
        rw [List.getElem?_toArray, ho']
        exact hw
      refine wpOp_mono ?_ hgo
      intro a2 w2 h3
      refine ⟨by simpa using hsz, .inr ⟨i + 1, by omega, by omega, ?_, ?_, h3⟩⟩
      · intro k hk
        rw [hset]
        by_cases hki : k = i
        · simp [hki]
        · simp only [hki, if_false]
          exact h1 k (by omega)
      · intro k hk
        rw [hset]
        have : k ≠ i := by omega
        simp only [this, if_false]
        exact h2 k (by omega)
  · obtain ⟨f, hf⟩ := fill_start (l.take m) 0 a
    refine ⟨by simp, .inl ⟨f, hf.symm, ?_, ?_⟩⟩
    · have : Lst (Array.replicate l.toArray.size false) = fun _ => false := by
        funext k
        unfold Lst
        simp [Array.getD_eq_getD_getElem?, Array.getElem?_replicate]
        split <;> rfl
      rw [this]
      exact h0 f
    · intro i _
      unfold Lst
      simp [Array.getD_eq_getD_getElem?, Array.getElem?_replicate]
      split <;> rfl
theorem fm_split (q : Nat → Bool) (H : Nat → Hp) (p : Nat → Bool) : ∀ l : List Nat, (l.flatMap fun j => if p j then H j else []).Perm ((l.flatMap fun j => if p j && q j then H j else []) ++ (l.flatMap fun j => if p j && !q j then H j else []))
  | [] => List.Perm.refl _
  | x :: l => by
    have ih := fm_split q H p l
    simp only [List.flatMap_cons]
    cases hp : p x <;> cases hq : q x <;> simp only [Bool.and_true, Bool.and_false, Bool.true_and, Bool.false_and, Bool.not_true, Bool.not_false, if_true, if_false, List.nil_append, Bool.false_eq_true, List.append_assoc]
    · exact ih
    · exact ih
    · refine (ih.append_left (H x)).trans ?_
      classical rw [List.perm_iff_count]; intro a; simp only [List.count_append]; omega
    · exact ih.append_left (H x)
theorem fm_congr {H : Nat → Hp} {p q : Nat → Bool} : ∀ {l : List Nat}, (∀ j ∈ l, p j = q j) → (l.flatMap fun j => if p j then H j else []) = (l.flatMap fun j => if q j then H j else [])
  | [], _ => rfl
  | x :: l, h => by
    simp only [List.flatMap_cons]
    rw [h x List.mem_cons_self, fm_congr (fun j hj => h j (List.mem_cons_of_mem _ hj))]
theorem fm_list (H : Nat → Hp) (T l : List Nat) (hl : l.Nodup) (hT : T.Nodup) (hs : ∀ j ∈ T, j ∈ l) : (l.flatMap fun j => if decide (j ∈ T) then H j else []).Perm (T.flatMap H) := by
  have h1 : (l.flatMap fun j => if decide (j ∈ T) then H j else []) = (l.filter fun j => decide (j ∈ T)).flatMap H := by
    clear hl hs
    induction l with
    | nil => rfl
    | cons x l ih =>
      simp only [List.flatMap_cons, List.filter_cons]
      by_cases hx : x ∈ T <;> simp [hx] <;> simpa using ih
  rw [h1]
  refine List.Perm.flatMap_right _ ?_
  refine (List.perm_ext_iff_of_nodup (hl.filter _) hT).mpr (fun a => ?_)
  simp only [List.mem_filter, decide_eq_true_eq]
  exact ⟨fun h => h.2, fun h => ⟨hs a h, h⟩⟩
def ownB (ops : Array Oper) (m : Nat) (tk : Nat → List Nat) : Bool :=
  (List.range (m + 1)).all fun k => decide (tk k).Nodup && ((tk k).all fun j => decide (j < m) && (decide (k = m) || (ops[k]?).any fun o => o.after.any fun e => Region.binds .any e && e.on == j)) && ((List.range k).all fun k2 => (tk k2).all fun j => !(decide (j ∈ tk k)))
def upd' (H : Nat → Hp) (i : Nat) (h : Hp) : Nat → Hp := fun k => if k = i then h else H k
/-- What an operation leaves: its value and the memory that it bears; what it took is gone; all else stays. -/
def OwnBy (d : Option Tmp) (A : Act) (i : Nat) (L : Nat → Bool) (I : (Nat → Bool) → Hp → Prop) (V : Nat → Value → Hp → Prop) (w0 : World) (R : Hp) (a' : Act) (w2 : World) : Prop :=
  ∃ v hk hs, a' = A.put d v ∧ I (fun k => if k = i then true else L k) hs ∧ V i v hk ∧ Holds w0 (hs ++ (hk ++ R)) w2
theorem OwnBy.mk {d : Option Tmp} {A : Act} {i : Nat} {L : Nat → Bool} {I : (Nat → Bool) → Hp → Prop} {V : Nat → Value → Hp → Prop} {w0 : World} {R : Hp} {a' : Act} {w2 : World} (v : Value) (hk hs : Hp)
    (h1 : a' = A.put d v) (h2 : I (fun k => if k = i then true else L k) hs) (h3 : V i v hk) (h4 : Holds w0 (hs ++ (hk ++ R)) w2) : OwnBy d A i L I V w0 R a' w2 := ⟨v, hk, hs, h1, h2, h3, h4⟩
def liveB (m : Nat) (tk : Nat → List Nat) (L : Nat → Bool) (j : Nat) : Bool := L j && (List.range m).all fun k => !(L k) || !(decide (j ∈ tk k))
theorem wp_region_ownf {P : Program} {id : Nat} {l : List Oper} {Q : Exit → Act → World → Prop} {a : Act} {w : World} (m : Nat) (tk : Nat → List Nat) (hm : P.follows .mixedOrders = true) (hB : tailB3 l.toArray m = true) (hD : dstB (l.take m) = true) (hO : ownB l.toArray m tk = true) (hml : m ≤ l.length)
    (w0 : World) (I : (Nat → Bool) → Hp → Prop) (V : Nat → (Nat → Value) → Value → Hp → Prop)
    (hloc : ∀ i j f x v h, i < m → (∀ o, l[i]? = some o → ∀ e ∈ o.after, Region.binds .any e = true → e.on ≠ j) → V i f v h → V i (upd f j x) v h) (hs0 : Hp) (h0 : I (fun _ => false) hs0) (H0 : Holds w0 hs0 w.drew)
    (hstep : ∀ i o, i < m → l[i]? = some o → ∀ (L : Nat → Bool) (f : Nat → Value) (Hf : Nat → Hp) (hs R : Hp) (w1 : World), I L hs → L i = false → (∀ e ∈ o.after, Region.binds .any e = true → L e.on = true ∧ V e.on f (f e.on) (Hf e.on)) → Holds w0 (hs ++ ((tk i).flatMap Hf ++ R)) w1 →
      wpOp P l.toArray Q i (OwnBy o.dst (fill (l.take m) f 0 a) i L I (fun i v h => V i f v h) w0 R) (fill (l.take m) f 0 a) w1)
    (hfin : ∀ (L : Nat → Bool) (f : Nat → Value) (Hf : Nat → Hp) (hs : Hp) (w1 : World), I L hs → (∀ i, i < m → L i = true) → (∀ i, i < m → V i f (f i) (Hf i)) → Holds w0 (hs ++ (tk m).flatMap Hf) w1 → wpList P l.toArray Q (l.drop m) (fill (l.take m) f 0 a) w1) : (Code.region id l.toArray true).wp P Q a w := by
  unfold ownB at hO
  rw [List.all_eq_true] at hO
  have hO1 : ∀ k, k ≤ m → (tk k).Nodup := fun k hk => by
    have := hO k (List.mem_range.mpr (by omega))
    simp only [Bool.and_eq_true, decide_eq_true_eq] at this
    exact this.1.1
  have hO2 : ∀ k, k ≤ m → ∀ j ∈ tk k, j < m ∧ (k = m ∨ ∃ o, l[k]? = some o ∧ ∃ e ∈ o.after, Region.binds .any e = true ∧ e.on = j) := fun k hk j hj => by
    have := hO k (List.mem_range.mpr (by omega))
    simp only [Bool.and_eq_true, List.all_eq_true, Bool.or_eq_true, decide_eq_true_eq] at this
    obtain ⟨h1, h2⟩ := this.1.2 j hj
    refine ⟨h1, h2.imp (fun h => h) (fun h => ?_)⟩
    cases hq : l[k]? with
    | none => simp [hq] at h
    | some o =>
      simp only [List.getElem?_toArray, hq, Option.any_some, Array.any_eq_true'] at h
      obtain ⟨e, he, hb⟩ := h
      simp only [Bool.and_eq_true, beq_iff_eq] at hb
      exact ⟨o, rfl, e, he, hb.1, hb.2⟩
  have hO3 : ∀ k k2, k ≤ m → k2 < k → ∀ j ∈ tk k2, j ∉ tk k := fun k k2 hk hk2 j hj => by
    have := hO k (List.mem_range.mpr (by omega))
    simp only [Bool.and_eq_true, List.all_eq_true, Bool.not_eq_true', decide_eq_false_iff_not] at this
    exact this.2 k2 (List.mem_range.mpr hk2) j hj
  have hO4 : ∀ k k2, k ≤ m → k2 ≤ m → k ≠ k2 → ∀ j ∈ tk k2, j ∉ tk k := fun k k2 hk hk2 hne j hj hj2 => by
    rcases Nat.lt_or_ge k2 k with h | h
    · exact hO3 k k2 hk h j hj hj2
    · exact hO3 k2 k hk2 (by omega) j hj2 hj
  refine wp_region_st m hm hB hD (fun L f w' => (∀ k o, k < m → l[k]? = some o → L k = true → ∀ e ∈ o.after, Region.binds .any e = true → L e.on = true) ∧
      ∃ (Hf : Nat → Hp) (hs : Hp), I L hs ∧ (∀ i, i < m → L i = true → V i f (f i) (Hf i)) ∧ Holds w0 (hs ++ ((List.range m).flatMap fun j => if liveB m tk L j then Hf j else [])) w') ?_ ?_ ?_
  · intro f
    refine ⟨fun k o _ _ h => (by cases h), fun _ => [], hs0, h0, fun i _ h => (by cases h), ?_⟩
    have e : ((List.range m).flatMap fun j => if liveB m tk (fun _ => false) j then ([] : Hp) else []) = [] := by
      rw [List.flatMap_eq_nil_iff]
      intro x _
      split <;> rfl
    rw [e, List.append_nil]
    exact H0
  · rintro i o him ho L f w1 ⟨hL, Hf, hs, hI, hV, hH⟩ hLi hd
    have hlive : ∀ j ∈ tk i, liveB m tk L j = true := by
      intro j hj
      obtain ⟨h1, h2⟩ := hO2 i (by omega) j hj
      have hLj : L j = true := by
        rcases h2 with h2 | ⟨o2, ho2, e, he, hb, hej⟩
        · omega
        · obtain rfl : o2 = o := Option.some.inj (ho2.symm.trans ho)
          rw [← hej]
          exact (hd e he hb).1
      unfold liveB
      rw [hLj, Bool.true_and, List.all_eq_true]
      intro k hk
      have hk := List.mem_range.mp hk
      by_cases hki : k = i
      · subst hki; rw [hLi]; rfl
      · rw [show decide (j ∈ tk k) = false from decide_eq_false (hO4 k i (by omega) (by omega) hki j hj)]
        simp
    obtain ⟨R, hR⟩ : ∃ R, R = (List.range m).flatMap fun j => if liveB m tk L j && !(decide (j ∈ tk i)) then Hf j else [] := ⟨_, rfl⟩
    have hp : ((List.range m).flatMap fun j => if liveB m tk L j then Hf j else []).Perm ((tk i).flatMap Hf ++ R) := by
      refine (fm_split (fun j => decide (j ∈ tk i)) Hf (liveB m tk L) (List.range m)).trans ?_
      rw [← hR]
      refine List.Perm.append_right _ ?_
      rw [fm_congr (q := fun j => decide (j ∈ tk i)) (fun j _ => by
        by_cases h : j ∈ tk i
        · simp [h, hlive j h]
        · simp [h])]
      exact fm_list Hf (tk i) (List.range m) List.nodup_range (hO1 i (by omega)) (fun j hj => List.mem_range.mpr (hO2 i (by omega) j hj).1)
    refine wpOp_mono ?_ (hstep i o him ho L f Hf hs R w1 hI hLi (fun e he hb => ⟨(hd e he hb).1, hV _ (by have := (hd e he hb).2; omega) (hd e he hb).1⟩) (hH.perm (hp.append_left hs)))
    rintro a2 w2 ⟨v, hk, hs2, ha, hI2, hv, hH2⟩
    refine ⟨v, ha, ?_, upd' Hf i hk, hs2, hI2, ?_, ?_⟩
    · intro k o2 hkm ho2 hLk e he hb
      by_cases hki : k = i
      · subst hki
        obtain rfl : o2 = o := Option.some.inj (ho2.symm.trans ho)
        have := (hd e he hb).1
        simp [this]
      · simp only [hki, if_false] at hLk
        have := hL k o2 hkm ho2 hLk e he hb
        simp [this]
    · intro j hj hLj
      by_cases hji : j = i
      · subst hji
        have hv2 := hloc j j f v v hk hj (fun o2 ho2 e he hb => by
          obtain rfl : o2 = o := Option.some.inj (ho2.symm.trans ho)
          have := (hd e he hb).2
          omega) hv
        simpa [upd, upd'] using hv2
      · simp only [hji, if_false] at hLj
        have h2 := hloc j i f v (f j) (Hf j) hj (fun o2 ho2 e he hb hei => by
          have := hL j o2 hj ho2 hLj e he hb
          rw [hei, hLi] at this
          cases this) (hV j hj hLj)
        have e1 : upd f i v j = f j := by simp [upd, hji]
        have e2 : upd' Hf i hk j = Hf j := by simp [upd', hji]
        rw [e1, e2]
        exact h2
    · refine hH2.perm (List.Perm.append_left _ ?_)
      have hnot : ∀ k o2, k < m → l[k]? = some o2 → i ∈ tk k → L k = false ∧ k ≠ i := by
        intro k o2 hkm ho2 hik
        obtain ⟨_, h2⟩ := hO2 k (by omega) i hik
        rcases h2 with h2 | ⟨o3, ho3, e, he, hb, hej⟩
        · omega
        obtain rfl : o3 = o2 := Option.some.inj (ho3.symm.trans ho2)
        constructor
        · cases hLk : L k with
          | false => rfl
          | true =>
            have := hL k o3 hkm ho2 hLk e he hb
            rw [hej, hLi] at this
            cases this
        · rintro rfl
          obtain rfl : o3 = o := Option.some.inj (ho2.symm.trans ho)
          have := (hd e he hb).2
          omega
      have hl' : ∀ j ∈ List.range m, liveB m tk (fun k => if k = i then true else L k) j = (decide (j = i) || (liveB m tk L j && !(decide (j ∈ tk i)))) := by
        intro j hj
        have hj := List.mem_range.mp hj
        by_cases hji : j = i
        · subst hji
          rw [decide_eq_true rfl, Bool.true_or]
          unfold liveB
          simp only [if_true, Bool.true_and]
          rw [List.all_eq_true]
          intro k hk
          have hk := List.mem_range.mp hk
          by_cases hik : j ∈ tk k
          · obtain ⟨h1, h2⟩ := hnot k l[k] hk (List.getElem?_eq_getElem (by omega)) hik
            rw [if_neg h2, h1]; rfl
          · simp [hik]
        · rw [decide_eq_false hji, Bool.false_or]
          unfold liveB
          simp only [hji, if_false]
          rw [Bool.eq_iff_iff]
          simp only [Bool.and_eq_true, List.all_eq_true, List.mem_range, Bool.or_eq_true, Bool.not_eq_true', decide_eq_false_iff_not]
          constructor
          · rintro ⟨h1, h2⟩
            refine ⟨⟨h1, fun k hk => ?_⟩, ?_⟩
            · rcases h2 k hk with h | h
              · by_cases hki : k = i
                · rw [if_pos hki] at h; cases h
                · rw [if_neg hki] at h; exact .inl h
              · exact .inr h
            · rcases h2 i him with h | h
              · simp at h
              · exact h
          · rintro ⟨⟨h1, h2⟩, h3⟩
            refine ⟨h1, fun k hk => ?_⟩
            by_cases hki : k = i
            · subst hki; exact .inr h3
            · rw [if_neg hki]; exact h2 k hk
      rw [fm_congr hl']
      refine List.Perm.symm ((fm_split (fun j => decide (j = i)) (upd' Hf i hk) _ (List.range m)).trans ?_)
      have hi0 : liveB m tk L i = false := by unfold liveB; rw [hLi]; rfl
      refine List.Perm.append ?_ (List.Perm.of_eq ?_)
      · rw [fm_congr (q := fun j => decide (j ∈ [i])) (fun j _ => by by_cases h : j = i <;> simp [h])]
        refine (fm_list (upd' Hf i hk) [i] (List.range m) List.nodup_range (by simp) (fun j hj => by
          rw [List.mem_singleton] at hj
          subst hj
          exact List.mem_range.mpr him)).trans ?_
        simp [upd']
      · rw [hR]
        clear hp hH hH2 hl' hR
        induction List.range m with
        | nil => rfl
        | cons x l ih =>
          simp only [List.flatMap_cons]
          rw [ih]
          congr 1
          by_cases hx : x = i
          · subst hx; simp [hi0]
          · simp [hx, upd']
  · rintro L f w1 ⟨hL, Hf, hs, hI, hV, hH⟩ hall
    have hall2 : ∀ i, i < m → L i = true := fun i hi => hall i hi (by omega)
    have hlive : ∀ j ∈ tk m, liveB m tk L j = true := by
      intro j hj
      obtain ⟨h1, _⟩ := hO2 m (Nat.le_refl _) j hj
      unfold liveB
      rw [hall2 j h1, Bool.true_and, List.all_eq_true]
      intro k hk
      have hk := List.mem_range.mp hk
      rw [show decide (j ∈ tk k) = false from decide_eq_false (hO4 k m (by omega) (Nat.le_refl _) (by omega) j hj)]
      simp
    refine hfin L f Hf hs w1 hI hall2 (fun i hi => hV i hi (hall2 i hi)) ?_
    have hp := fm_split (fun j => decide (j ∈ tk m)) Hf (liveB m tk L) (List.range m)
    have h2 := hH.perm (hp.append_left hs)
    rw [← List.append_assoc] at h2
    refine h2.left.perm (List.Perm.append_left _ ?_)
    rw [fm_congr (q := fun j => decide (j ∈ tk m)) (fun j _ => by
        by_cases h : j ∈ tk m
        · simp [h, hlive j h]
        · simp [h])]
    exact fm_list Hf (tk m) (List.range m) List.nodup_range (hO1 m (Nat.le_refl _)) (fun j hj => List.mem_range.mpr (hO2 m (Nat.le_refl _) j hj).1)
theorem wp_region_own {P : Program} {id : Nat} {l : List Oper} {Q : Exit → Act → World → Prop} {a : Act} {w : World} (m : Nat) (tk : Nat → List Nat) (hm : P.follows .mixedOrders = true) (hB : tailB3 l.toArray m = true) (hD : dstB (l.take m) = true) (hO : ownB l.toArray m tk = true) (hml : m ≤ l.length)
    (w0 : World) (I : (Nat → Bool) → Hp → Prop) (V : Nat → Value → Hp → Prop) (hs0 : Hp) (h0 : I (fun _ => false) hs0) (H0 : Holds w0 hs0 w.drew)
    (hstep : ∀ i o, i < m → l[i]? = some o → ∀ (L : Nat → Bool) (f : Nat → Value) (Hf : Nat → Hp) (hs R : Hp) (w1 : World), I L hs → L i = false → (∀ e ∈ o.after, Region.binds .any e = true → L e.on = true ∧ V e.on (f e.on) (Hf e.on)) → Holds w0 (hs ++ ((tk i).flatMap Hf ++ R)) w1 →
      wpOp P l.toArray Q i (OwnBy o.dst (fill (l.take m) f 0 a) i L I V w0 R) (fill (l.take m) f 0 a) w1)
    (hfin : ∀ (L : Nat → Bool) (f : Nat → Value) (Hf : Nat → Hp) (hs : Hp) (w1 : World), I L hs → (∀ i, i < m → L i = true) → (∀ i, i < m → V i (f i) (Hf i)) → Holds w0 (hs ++ (tk m).flatMap Hf) w1 → wpList P l.toArray Q (l.drop m) (fill (l.take m) f 0 a) w1) : (Code.region id l.toArray true).wp P Q a w :=
  wp_region_ownf m tk hm hB hD hO hml w0 I (fun i _ v h => V i v h) (fun _ _ _ _ _ _ _ _ h => h) hs0 h0 H0 hstep hfin
end Go.Proofs.Ytocpelkgiebkjaa.Sp
