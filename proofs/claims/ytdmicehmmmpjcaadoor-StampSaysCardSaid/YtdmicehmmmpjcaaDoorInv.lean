/- A statement whose order is open, by an invariant: each operation that may come up keeps it. No condition. -/
import Derived.Orders
namespace Go.Proofs.YtdmicehmmmpjcaaDoor
theorem count_of_ready {md : Region.Mode} {ops : Array Oper} {listed : Array Bool} {i : Nat} (h : i ∈ Region.ready md ops listed) :
    (listed.setIfInBounds i true).toList.count false + 1 = listed.toList.count false := by
  have h0 := (mem_ready.1 h).1
  have hlt : i < listed.size := by
    rcases Nat.lt_or_ge i listed.size with h' | h'
    · exact h'
    · simp [Array.getElem?_eq_none h'] at h0
  have hf : listed.toList[i]'(by simpa using hlt) = false := by simpa [hlt] using h0
  have hc := List.count_set (l := listed.toList) (i := i) (a := true) (b := false) (by simpa using hlt)
  have hpos : 0 < listed.toList.count false := List.count_pos_iff.2 (hf ▸ List.getElem_mem _)
  have e1 : (listed.toList[i]'(by simpa using hlt) == false) = true := by rw [hf]; rfl
  rw [if_pos e1, if_neg (by decide)] at hc
  rw [Array.toList_setIfInBounds, hc]
  omega
theorem wpAny_inv {P : Program} {md : Region.Mode} {ops : Array Oper} {Q : Exit → Act → World → Prop} (J : Array Bool → Act → World → Prop)
    (hend : ∀ listed a w, J listed a w → Region.ready md ops listed = [] → Q .normal a w)
    (hstep : ∀ listed a w i, J listed a w → i ∈ Region.ready md ops listed → wpOp P ops Q i (J (listed.setIfInBounds i true)) a w) :
    ∀ fuel listed a w, listed.toList.count false ≤ fuel → J listed a w → wpAny P md ops Q fuel listed a w
  | 0, listed, a, w, hc, hJ => by
    have hr : Region.ready md ops listed = [] := by
      cases hq : Region.ready md ops listed with
      | nil => rfl
      | cons i l =>
        have := count_of_ready (md := md) (ops := ops) (listed := listed) (i := i) (by rw [hq]; exact List.mem_cons_self)
        omega
    exact ⟨hr, hend _ _ _ hJ hr⟩
  | fuel + 1, listed, a, w, hc, hJ => by
    refine ⟨hend _ _ _ hJ, fun i hi => wpOp_mono (fun a' w' h' => wpAny_inv J hend hstep fuel _ a' w' ?_ h') (hstep _ _ _ i hJ hi)⟩
    have := count_of_ready hi
    omega
theorem wp_region_inv {P : Program} {id : Nat} {ops : Array Oper} {Q : Exit → Act → World → Prop} {a : Act} {w : World} (hm : P.follows .mixedOrders = true) (J : Array Bool → Act → World → Prop)
    (h0 : J (Array.replicate ops.size false) a { w with drawn := w.drawn + 1 })
    (hend : ∀ listed a w, J listed a w → Region.ready .any ops listed = [] → Q .normal a w)
    (hstep : ∀ listed a w i, J listed a w → i ∈ Region.ready .any ops listed → wpOp P ops Q i (J (listed.setIfInBounds i true)) a w) : (Code.region id ops true).wp P Q a w :=
  wp_region_any hm (wpAny_inv J hend hstep _ _ _ _ (by simp) h0)
end Go.Proofs.YtdmicehmmmpjcaaDoor
