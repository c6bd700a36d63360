/- A map in a block, told as a list of keys and what they lead to (a number for the block that a pointer leads to, nil for none). Conditions: each theorem's own. -/
import Derived.Test.YtocpelkgiebkjaaSep
import Derived.Maps.OwnSet
import Derived.Maps.Ext
namespace Go.Proofs.Ytocpelkgiebkjaa.Sp
open Go.RowKit Go.ChangeMaps Go.Maps
open Go.WideElems (Fit rg)
variable {P : Program} {k e t : TypeId} {R : Value → Option (DataW Unit × List MemPlace)} {w : World} {b : Nat} {o : Obj} {E : List (Lit × DataW Unit)}
/-- A pointer to a block's first cell, told by the block's number. -/
def ptrR : Value → Option (DataW Unit × List MemPlace)
  | .pointer none => some (.nil, [])
  | .pointer (some ⟨c, 0, none⟩) => some (.lit (.int .i64 c), [])
  | _ => none
theorem ptrR_nil {v : Value} {ps : List MemPlace} (h : ptrR v = some (.nil, ps)) : v = .pointer none := by
  unfold ptrR at h
  split at h <;> simp_all
theorem ptrR_at {v : Value} {c : Nat} {ps : List MemPlace} (h : ptrR v = some (.lit (.int .i64 c), ps)) : v = .pointer (some ⟨c, 0, none⟩) := by
  unfold ptrR at h
  split at h <;> simp_all
  have := h.1
  omega
def MapB (P : Program) (k : TypeId) (R : Value → Option (DataW Unit × List MemPlace)) (o : Obj) (E : List (Lit × DataW Unit)) : Prop :=
  ∃ es clock, o = .map es clock ∧ Fit P k R es clock ∧ E = (es.toList.map (rg P k R)).foldr DataW.insert []
theorem MapB.empty (P : Program) (k : TypeId) (R : Value → Option (DataW Unit × List MemPlace)) : MapB P k R (.map #[] 0) [] :=
  ⟨#[], 0, rfl, ⟨by simp, Go.MapKept.stamped_empty 0, by simp⟩, rfl⟩
theorem MapB.owns (H : w.heap[b]? = some o) (M : MapB P k R o E) : w.ownsMap P k R b E.length (.map E) := by
  obtain ⟨es, clock, rfl, F, rfl⟩ := M
  exact ⟨es, clock, H, F, by rw [length_sorted]; simp, rfl⟩
theorem MapB.of_owns {n : Nat} {D : DataW Unit} (h : w.ownsMap P k R b n D) : ∃ o E, w.heap[b]? = some o ∧ MapB P k R o E ∧ D = .map E := by
  obtain ⟨es, clock, hb, F, _, rfl⟩ := h
  exact ⟨_, _, hb, ⟨es, clock, rfl, F, rfl⟩, rfl⟩
theorem mp_look (H : w.heap[b]? = some o) (M : MapB P k R o E) (K : Keyed P k) (ht : P.underlying t = some (.map k e)) {z : Value} (hz : (zeroValue e).run P w = .ok z w) {zd : DataW Unit} {zp : List MemPlace} (hzd : R z = some (zd, zp))
    {key : Value} {kl : Lit} (hkey : keyOf P k key = some kl) : ∃ v ps, (Instr.lookup t (.map (some b)) key false).run P w = .ok v w ∧ R v = some ((DataW.map E).atKey kl zd, ps) :=
  (MapB.owns H M).lookup K ht hz hzd hkey
theorem mp_put (H : w.heap[b]? = some o) (M : MapB P k R o E) (K : Keyed P k) (ht : P.underlying t = some (.map k e)) (hn : E.length < maxLen) {key val : Value} {kl : Lit} {d : DataW Unit} {ps : List MemPlace}
    (hkey : keyOf P k key = some kl) (hv : R val = some (d, ps)) : ∃ w' o', (Instr.mapUpdate t (.map (some b)) key val).run P w = .ok () w' ∧ w'.heap[b]? = some o' ∧ MapB P k R o' (putKey kl d E) ∧ w.grownBy w' (some b) := by
  obtain ⟨w', h1, h2, h3⟩ := (MapB.owns H M).update K ht hn hkey hv
  obtain ⟨o', E', a1, a2, a3⟩ := MapB.of_owns h2
  rw [DataW.put_eq] at a3
  injection a3 with a3
  exact ⟨w', o', h1, a1, a3 ▸ a2, h3⟩
theorem mp_del (H : w.heap[b]? = some o) (M : MapB P k R o E) (K : Keyed P k) (ht : P.underlying t = some (.map k e)) {key : Value} {kl : Lit}
    (hkey : keyOf P k key = some kl) (ty : TypeId) : ∃ w' o', (Builtin.delete_ #[t, k] ty #[.map (some b), key]).run P w = .ok (.tuple #[]) w' ∧ w'.heap[b]? = some o' ∧ MapB P k R o' (delKey kl E) ∧ w.grownBy w' (some b) := by
  obtain ⟨w', h1, h2, h3⟩ := (MapB.owns H M).drop K ht hkey ty
  obtain ⟨o', E', a1, a2, a3⟩ := MapB.of_owns h2
  rw [DataW.del_eq] at a3
  injection a3 with a3
  exact ⟨w', o', h1, a1, a3 ▸ a2, h3.grown⟩
theorem mp_len (H : w.heap[b]? = some o) (M : MapB P k R o E) (ht : P.underlying t = some (.map k e)) (ty : TypeId) : (Builtin.len_ #[t] ty #[.map (some b)]).run P w = .ok (.int .i64 E.length) w :=
  (MapB.owns H M).len ht ty
theorem mp_room (M : MapB P k R o E) : E.length ≤ maxLen := by
  obtain ⟨es, clock, rfl, F, rfl⟩ := M
  rw [length_sorted]
  simpa using F.size
end Go.Proofs.Ytocpelkgiebkjaa.Sp
