/- Whatever comes in as data of a type is read by that type's kind: openers for whole numbers, bools, texts, structs, slices, arrays of any depth. Conditions: each theorem's own. -/
import Derived.Test.YtfebebjopjopcaaWMore
import Derived.OpenShut
import Derived.ProofKit
import Derived.Deep.Slices
import Derived.WideShapes
namespace Go.Proofs.Ytfebebjopjopcaa.Op
open Go.ChangeShapes Go.WideShapes Go.ChangeAt Go.RowKit Go.Deep Go.Proofs.YtfebebjopjopcaaW.PrintWords
set_option linter.unusedVariables false
set_option linter.unusedSimpArgs false
variable {α β : Type} {P : Program}
/-- What is read at type t is of kind d, and Pr holds of it. -/
def Opens (P : Program) (t : TypeId) (d : Kd α) (Pr : α → Prop) : Prop :=
  ∀ {H : Type} {enc : TypeId × Value → H} {w : World} {base : Nat} {held : Bool} {fuel : Nat} {cs : List Value} {x : DataW H × List MemPlace},
    DataW.trod enc P w base (fun _ => true) held fuel t cs = some x → ∃ y : α, Pr y ∧ d.K w y cs
/-- The same, field behind field. -/
def OpensF (P : Program) (fs : List Field) (off : Nat) (d : Kd α) (Pr : α → Prop) : Prop :=
  ∀ {H : Type} {enc : TypeId × Value → H} {w : World} {base : Nat} {held : Bool} {fuel : Nat} {cs : List Value} {xs : List (DataW H × List MemPlace)},
    (fs.mapM fun f => DataW.trod enc P w base (fun _ => true) held fuel f.type ((cs.drop f.offset).take (P.cellsOf f.type))) = some xs → (cs.drop off).length = d.sz → ∃ y : α, Pr y ∧ d.K w y (cs.drop off)
theorem opens_int {t : TypeId} {k : IntKind} (ht : P.underlying t = some (.int k)) : Opens P t (Kd.int k) (fun n => (Lit.int k n).wf = true) := by
  intro H enc w base held fuel cs x h
  cases fuel with
  | zero => simp [DataW.trod] at h
  | succ n =>
    unfold DataW.trod at h
    rw [ht] at h
    split at h <;> simp_all
    obtain ⟨⟨rfl, hw⟩, _⟩ := h
    exact ⟨_, hw, rfl⟩
theorem opens_bool {t : TypeId} (ht : P.underlying t = some .bool) : Opens P t Kd.bool (fun _ => True) := by
  intro H enc w base held fuel cs x h
  cases fuel with
  | zero => simp [DataW.trod] at h
  | succ n =>
    unfold DataW.trod at h
    rw [ht] at h
    split at h <;> first | exact ⟨_, trivial, rfl⟩ | simp_all
theorem opens_string {t : TypeId} (ht : P.underlying t = some .string) : Opens P t Kd.string (fun s => s.size ≤ maxLen) := by
  intro H enc w base held fuel cs x h
  cases fuel with
  | zero => simp [DataW.trod] at h
  | succ n =>
    unfold DataW.trod at h
    rw [ht] at h
    split at h <;> simp_all
    exact ⟨_, h.1, rfl⟩
theorem opensF_last {f : Field} {off : Nat} {d : Kd α} {Pr : α → Prop} (h : Opens P f.type d Pr) (ho : f.offset = off) (hs : P.cellsOf f.type = d.sz) : OpensF P [f] off d Pr := by
  intro H enc w base held fuel cs xs hm hl
  simp only [List.mapM_cons, List.mapM_nil] at hm
  rw [ho, hs, List.take_of_length_le (by omega)] at hm
  cases hx : DataW.trod enc P w base (fun _ => true) held fuel f.type (cs.drop off) with
  | none => rw [hx] at hm; simp at hm
  | some y => exact h hx
theorem opensF_cons {f : Field} {fs : List Field} {off : Nat} {a : Kd α} {b : Kd β} {Pa : α → Prop} {Pb : β → Prop} (h : Opens P f.type a Pa) (ho : f.offset = off) (hs : P.cellsOf f.type = a.sz)
    (hr : OpensF P fs (off + a.sz) b Pb) : OpensF P (f :: fs) off (Kd.pair a b) (fun y => Pa y.1 ∧ Pb y.2) := by
  intro H enc w base held fuel cs xs hm hl
  have hl' : (cs.drop off).length = a.sz + b.sz := hl
  rw [List.mapM_cons, ho, hs] at hm
  cases hx : DataW.trod enc P w base (fun _ => true) held fuel f.type ((cs.drop off).take a.sz) with
  | none => rw [hx] at hm; simp at hm
  | some y =>
    rw [hx] at hm
    cases hy : (fs.mapM fun f => DataW.trod enc P w base (fun _ => true) held fuel f.type ((cs.drop f.offset).take (P.cellsOf f.type))) with
    | none => rw [hy] at hm; simp at hm
    | some ys =>
      obtain ⟨u, hu, ku⟩ := h hx
      obtain ⟨v, hv, kv⟩ := hr hy (by rw [List.length_drop] at *; omega)
      refine ⟨(u, v), ⟨hu, hv⟩, _, _, ?_, ku, kv⟩
      rw [← List.drop_drop, List.take_append_drop]
theorem opens_struct {t : TypeId} {fs : Array Field} {d : Kd α} {Pr : α → Prop} (ht : P.underlying t = some (.struct fs)) (hs : P.cellsOf t = d.sz) (h : OpensF P fs.toList 0 d Pr) : Opens P t d Pr := by
  intro H enc w base held fuel cs x hx
  cases fuel with
  | zero => simp [DataW.trod] at hx
  | succ n =>
    unfold DataW.trod at hx
    rw [ht] at hx
    simp only at hx
    split at hx
    · rename_i hl
      obtain ⟨xs, hm, _⟩ := Option.map_eq_some_iff.mp hx
      have := h hm (by rw [List.drop_zero]; omega)
      rwa [List.drop_zero] at this
    · simp at hx
theorem opens_iso {t : TypeId} {d : Kd α} {Pr : α → Prop} (h : Opens P t d Pr) (f : β → α) (g : α → β) (hfg : ∀ a, f (g a) = a) : Opens P t (Kd.iso d f) (fun b => Pr (f b)) := by
  intro H enc w base held fuel cs x hx
  obtain ⟨y, hy, hk⟩ := h hx
  refine ⟨g y, ?_, ?_⟩
  · show Pr (f (g y))
    rw [hfg]; exact hy
  · show d.K w (f (g y)) cs
    rw [hfg]; exact hk
theorem opens_imp {t : TypeId} {d : Kd α} {Pr Qr : α → Prop} (h : Opens P t d Pr) (hi : ∀ a, Pr a → Qr a) : Opens P t d Qr := fun hx => by
  obtain ⟨y, hy, hk⟩ := h hx
  exact ⟨y, hi y hy, hk⟩
theorem rows_of {R : Nat → α → Prop} : ∀ (n : Nat), (∀ i, i < n → ∃ y, R i y) → ∃ l : List α, l.length = n ∧ ∀ i y, l[i]? = some y → R i y
  | 0, _ => ⟨[], rfl, fun i y h => by simp at h⟩
  | n + 1, h => by
    obtain ⟨l, hl, hr⟩ := rows_of n (fun i hi => h i (by omega))
    obtain ⟨y, hy⟩ := h n (by omega)
    refine ⟨l ++ [y], by simp [hl], fun i z hz => ?_⟩
    rcases Nat.lt_or_ge i n with hi | hi
    · exact hr i z (by rwa [List.getElem?_append_left (by omega)] at hz)
    · rw [List.getElem?_append_right (by omega)] at hz
      have : i = n := by
        have := (List.getElem?_eq_some_iff.mp hz).1
        simp at this
        omega
      subst this
      rw [hl, Nat.sub_self] at hz
      obtain rfl : y = z := by simpa using hz
      exact hy
theorem opens_slice {t e e' : TypeId} {d : Kd α} {Pr : α → Prop} (ht : P.underlying t = some (.slice e)) (hs : P.cellsOf e = d.sz) (h : Opens P e d Pr) : Opens P t (Kd.slice e' d) (fun l => ∀ x ∈ l, Pr x) := by
  intro H enc w base held fuel cs x hx
  rcases open_slice ht hx with ⟨rfl, _⟩ | ⟨a, len, cap, m, n, D, Pl, rfl, hb, hl, hm, hmm, _, hel⟩
  · exact ⟨[], by simp, none, 0, rfl, Nat.le_refl _, rfl, by simp, fun h => absurd h (by simp)⟩
  · have hmm' : m = cap := by simpa using hmm
    subst hmm'
    obtain ⟨l, hlen, hl2⟩ := rows_of (R := fun i y => ∃ cs', w.cells? base (a.add (i * P.cellsOf e)) (P.cellsOf e) = some cs' ∧ Pr y ∧ d.K w y cs') len (fun i hi => by
      obtain ⟨cs', h1, h2⟩ := hel i (by omega)
      obtain ⟨y, hy, hk⟩ := h h2
      exact ⟨y, cs', h1, hy, hk⟩)
    have hmx : maxLen = 9223372036854775807 := rfl
    refine ⟨l, ?_, some a, m, by rw [hlen], by omega, rfl, by omega, fun _ => ⟨a, rfl, fun j p hj => ?_⟩⟩
    · intro y hy
      obtain ⟨i, hi, rfl⟩ := List.mem_iff_getElem.mp hy
      obtain ⟨_, _, h2, _⟩ := hl2 i _ (List.getElem?_eq_getElem hi)
      exact h2
    · obtain ⟨cs', h1, _, h3⟩ := hl2 j p hj
      obtain ⟨_, h4, h5⟩ := World.cells?_some h1
      refine ⟨cs', by rw [h4, hs], h3, fun i u hu => ?_⟩
      have hi : i < P.cellsOf e := by
        have := (List.getElem?_eq_some_iff.mp hu).1
        omega
      rw [← hs, ← Go.Proofs.YtfebebjopjopcaaW.PrintWords.add_add, h5 i hi, hu]
/-- An argument that is a slice: told as shared. -/
theorem came_slice {t e e' : TypeId} {d : Kd α} {Pr : α → Prop} (ht : P.underlying t = some (.slice e)) (h : Opens P t (Kd.slice e' d) (fun l => ∀ x ∈ l, Pr x)) {H : Type} {enc : TypeId × Value → H} {W : World} {r : Reach} {b0 base : Nat} {held : Bool} {v : Value} {x : DataW H} {p : List MemPlace}
    (hv : Value.okWide P W r b0 t v) (hx : DataW.Trod enc P W base (fun _ => true) held t v x p) :
    ∃ a : Option Addr × Nat × List α, v = .slice a.1 a.2.2.length a.2.1 ∧ (a.2.2.length ≤ a.2.1 ∧ Kd.C d W a.1 a.2.2.length a.2.2) ∧ ∀ y ∈ a.2.2, Pr y := by
  obtain ⟨a, len, cap, rfl⟩ := okWide_slice ht hv
  obtain ⟨fuel, hf⟩ := hx
  obtain ⟨l, hl, A, c, e, h1, h2⟩ := h hf
  simp [Value.cells] at e
  obtain ⟨rfl, rfl, rfl⟩ := e
  exact ⟨(a, cap, l), rfl, ⟨h1, h2⟩, hl⟩
end Go.Proofs.Ytfebebjopjopcaa.Op
