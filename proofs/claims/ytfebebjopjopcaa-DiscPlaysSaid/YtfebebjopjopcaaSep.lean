/- What a call has of its own, block by block, beside all that was there before: it stays through whatever is laid and written elsewhere. Conditions: each theorem's own. -/
import Derived.Below
import Derived.RowKit
import Derived.WalkKit
import Derived.Lib.Hide
import Derived.Deep.Draws
import Derived.Laws.Tables
import Derived.Maps.OwnSet
import Derived.Maps.Ext
namespace Go.Proofs.Ytfebebjopjopcaa.Sp
open Go.RowKit
abbrev Hp := List (Nat × Obj)
/-- Of the world w: what lay below w0's end is as it was; the blocks of h are where they are said to be, each once, all behind w0's end. -/
structure Holds (w0 : World) (h : Hp) (w : World) : Prop where
  below : Below w0.heap.size w0 w
  at_ : ∀ x, x ∈ h → w.heap[x.1]? = some x.2 ∧ w0.heap.size ≤ x.1
  nodup : (h.map (·.1)).Nodup
variable {w0 w w' : World} {h k F : Hp} {g : Nat} {o o' : Obj}
theorem Holds.nil (w : World) : Holds w [] w := ⟨Below.refl _ w, fun x hx => by simp at hx, List.nodup_nil⟩
theorem Holds.of_below (hb : Below w0.heap.size w0 w) : Holds w0 [] w := ⟨hb, fun x hx => by simp at hx, List.nodup_nil⟩
theorem Holds.perm (H : Holds w0 h w) (hp : h.Perm k) : Holds w0 k w := ⟨H.below, fun x hx => H.at_ x (hp.mem_iff.mpr hx), (hp.map _).nodup_iff.mp H.nodup⟩
theorem Holds.sub (H : Holds w0 h w) (hp : k.Sublist h) : Holds w0 k w := ⟨H.below, fun x hx => H.at_ x (hp.subset hx), (hp.map _).nodup H.nodup⟩
theorem Holds.tail {x : Nat × Obj} (H : Holds w0 (x :: h) w) : Holds w0 h w := H.sub (List.sublist_cons_self _ _)
theorem Holds.left (H : Holds w0 (h ++ k) w) : Holds w0 h w := H.sub (List.sublist_append_left _ _)
theorem Holds.right (H : Holds w0 (h ++ k) w) : Holds w0 k w := H.sub (List.sublist_append_right _ _)
theorem Holds.comm (H : Holds w0 (h ++ k) w) : Holds w0 (k ++ h) w := H.perm List.perm_append_comm
theorem Holds.get (H : Holds w0 ((g, o) :: h) w) : w.heap[g]? = some o := (H.at_ _ List.mem_cons_self).1
theorem Holds.ge (H : Holds w0 ((g, o) :: h) w) : w0.heap.size ≤ g := (H.at_ _ List.mem_cons_self).2
theorem Holds.lt (H : Holds w0 ((g, o) :: h) w) : g < w.heap.size := lt_of_block H.get
theorem Holds.size (H : Holds w0 h w) : w0.heap.size ≤ w.heap.size := H.below.size
theorem Holds.mem (H : Holds w0 h w) {x : Nat × Obj} (hx : x ∈ h) : w.heap[x.1]? = some x.2 := (H.at_ x hx).1
theorem Holds.mem_ne (H : Holds w0 ((g, o) :: h) w) {x : Nat × Obj} (hx : x ∈ h) : x.1 ≠ g := by
  have := H.nodup
  rw [List.map_cons, List.nodup_cons] at this
  intro e
  exact this.1 (List.mem_map.mpr ⟨x, hx, e⟩)
theorem Holds.cell {cs : Array Value} {t : TypeId} {z : Nat × Nat} (H : Holds w0 ((g, .cells cs t z) :: h) w) (i : Nat) : w.cell? ⟨g, i, none⟩ = cs[i]? := by
  simp [World.cell?, H.get]
theorem Holds.froz {cs : Array Value} {t : TypeId} (H : Holds w0 ((g, .cells cs t (0, 0)) :: h) w) (i : Nat) : w.frozen? ⟨g, i, none⟩ = false := by
  simp [World.frozen?, H.get]
theorem Holds.drew (H : Holds w0 h w) : Holds w0 h w.drew := ⟨⟨H.below.os, H.below.tape, H.below.output, H.below.size, H.below.block⟩, H.at_, H.nodup⟩
theorem Holds.drewN (H : Holds w0 h w) (n : Nat) : Holds w0 h (w.drewN n) := ⟨⟨H.below.os, H.below.tape, H.below.output, H.below.size, H.below.block⟩, H.at_, H.nodup⟩
/-- Where blocks below the end stay. -/
theorem Holds.grow (H : Holds w0 h w) (hb : Below w.heap.size w w') : Holds w0 h w' :=
  ⟨H.below.trans (hb.mono H.size), fun x hx => ⟨(hb.block _ (lt_of_block (H.at_ x hx).1)).trans (H.at_ x hx).1, (H.at_ x hx).2⟩, H.nodup⟩
theorem Holds.alloc (H : Holds w0 h w) (o : Obj) : Holds w0 ((w.heap.size, o) :: h) (w.alloc o) := by
  refine ⟨H.below.alloc H.size o, fun x hx => ?_, ?_⟩
  · rcases List.mem_cons.mp hx with rfl | hx
    · exact ⟨heap_alloc_new w o, H.size⟩
    · exact ⟨(Below.heap_alloc w o _ (lt_of_block (H.at_ x hx).1)).trans (H.at_ x hx).1, (H.at_ x hx).2⟩
  · rw [List.map_cons, List.nodup_cons]
    refine ⟨fun hm => ?_, H.nodup⟩
    obtain ⟨x, hx, e⟩ := List.mem_map.mp hm
    have := lt_of_block (H.at_ x hx).1
    have e : x.1 = w.heap.size := e
    omega
theorem Holds.alloc_ (H : Holds w0 h w) (o : Obj) : Holds w0 h (w.alloc o) := (H.alloc o).tail
/-- Where one block alone is turned. -/
theorem Holds.turn (H : Holds w0 ((g, o) :: h) w) (hg : w.grownBy w' (some g)) (ho : w'.heap[g]? = some o') : Holds w0 ((g, o') :: h) w' := by
  refine ⟨H.below.grown hg H.size (by rintro k hk; injection hk with hk; have := H.ge; omega), fun x hx => ?_, H.nodup⟩
  rcases List.mem_cons.mp hx with rfl | hx
  · exact ⟨ho, H.ge⟩
  · have h2 := H.at_ x (List.mem_cons_of_mem _ hx)
    exact ⟨(hg.block _ (lt_of_block h2.1) (by intro e; injection e with e; exact H.mem_ne hx e)).trans h2.1, h2.2⟩
theorem heap_set {cs : Array Value} {t : TypeId} {z : Nat × Nat} (H : w.heap[g]? = some (.cells cs t z)) (i : Nat) (v : Value) : (w.setCell ⟨g, i, none⟩ v).heap[g]? = some (.cells (cs.setIfInBounds i v) t z) := by
  have hlt := lt_of_block H
  have h' : w.heap[g] = .cells cs t z := by simpa [Array.getElem?_eq_getElem hlt] using H
  show (w.heap.modify g _)[g]? = _
  rw [Array.getElem?_eq_getElem (by simpa using hlt), Array.getElem_modify_self, h']
  simp
theorem set_grown (w : World) (p : Addr) (v : Value) : w.grownBy (w.setCell p v) (some p.block) :=
  ⟨rfl, rfl, rfl, by simp [World.setCell], fun i _ hne => Below.heap_setCell w p v i (fun e => hne (by rw [e]))⟩
theorem Holds.set {cs : Array Value} {t : TypeId} {z : Nat × Nat} (H : Holds w0 ((g, .cells cs t z) :: h) w) (i : Nat) (v : Value) : Holds w0 ((g, .cells (cs.setIfInBounds i v) t z) :: h) (w.setCell ⟨g, i, none⟩ v) :=
  H.turn (set_grown w _ v) (heap_set H.get i v)
theorem Holds.turn_mid (H : Holds w0 (h ++ (g, o) :: k) w) (hg : w.grownBy w' (some g)) (ho : w'.heap[g]? = some o') : Holds w0 (h ++ (g, o') :: k) w' :=
  ((H.perm List.perm_middle).turn hg ho).perm List.perm_middle.symm
theorem Holds.get_mid (H : Holds w0 (h ++ (g, o) :: k) w) : w.heap[g]? = some o := H.mem (x := (g, o)) (by simp)
theorem row_grown (w : World) (g : Nat) (cs : Array Value) : w.grownBy (w.setRow g cs) (some g) :=
  ⟨rfl, rfl, rfl, by simp, fun i _ hne => setRow_other w g i cs (fun e => hne (by rw [e]))⟩
theorem Holds.alloc2 (H : Holds w0 h w) (o o' : Obj) : Holds w0 ((w.heap.size + 1, o') :: (w.heap.size, o) :: h) ((w.alloc o).alloc o') := by
  have := (H.alloc o).alloc o'
  have e : (w.alloc o).heap.size = w.heap.size + 1 := by simp
  rwa [e] at this
theorem Holds.add {W : World} (H : Holds w0 h W) (hb : Below W.heap.size W w) (hg : W.heap.size ≤ g) (ho : w.heap[g]? = some o) : Holds w0 ((g, o) :: h) w := by
  have H2 := H.grow hb
  refine ⟨H2.below, fun x hx => ?_, ?_⟩
  · rcases List.mem_cons.mp hx with rfl | hx
    · exact ⟨ho, Nat.le_trans H.size hg⟩
    · exact H2.at_ x hx
  · rw [List.map_cons, List.nodup_cons]
    refine ⟨fun hm => ?_, H.nodup⟩
    obtain ⟨x, hx, e⟩ := List.mem_map.mp hm
    have := lt_of_block (H.at_ x hx).1
    have e : x.1 = g := e
    omega
theorem Holds.congr (H : Holds w0 h w) (e : h = k) : Holds w0 k w := e ▸ H
end Go.Proofs.Ytfebebjopjopcaa.Sp

/- A map in a block, told as a list of keys and what they lead to (a number for the block that a pointer leads to, nil for none). Conditions: each theorem's own. -/
namespace Go.Proofs.Ytfebebjopjopcaa.Sp
open Go.RowKit Go.ChangeMaps Go.Maps
open Go.WideElems (Fit rg)
variable {P : Program} {k e t : TypeId} {R : Value → Option (DataW Unit × List MemPlace)} {w : World} {b : Nat} {o : Obj} {E : List (Lit × DataW Unit)}
/-- A pointer to a block's first cell, told by the block's number. -/
def ptrR : Value → Option (DataW Unit × List MemPlace)
  | .pointer none => some (.nil, [])
  | .pointer (some ⟨c, 0, none⟩) => some (.lit (.int .i64 c), [])
  | _ => none
theorem ptrR_nil {v : Value} {ps : List MemPlace} (h : ptrR v = some (.nil, ps)) : v = .pointer none := by
  unfold ptrR at h
  split at h <;> simp_all
theorem ptrR_at {v : Value} {c : Nat} {ps : List MemPlace} (h : ptrR v = some (.lit (.int .i64 c), ps)) : v = .pointer (some ⟨c, 0, none⟩) := by
  unfold ptrR at h
  split at h <;> simp_all
  have := h.1
  omega
def MapB (P : Program) (k : TypeId) (R : Value → Option (DataW Unit × List MemPlace)) (o : Obj) (E : List (Lit × DataW Unit)) : Prop :=
  ∃ es clock, o = .map es clock ∧ Fit P k R es clock ∧ E = (es.toList.map (rg P k R)).foldr DataW.insert []
theorem MapB.empty (P : Program) (k : TypeId) (R : Value → Option (DataW Unit × List MemPlace)) : MapB P k R (.map #[] 0) [] :=
  ⟨#[], 0, rfl, ⟨by simp, Go.MapKept.stamped_empty 0, by simp⟩, rfl⟩
theorem MapB.owns (H : w.heap[b]? = some o) (M : MapB P k R o E) : w.ownsMap P k R b E.length (.map E) := by
  obtain ⟨es, clock, rfl, F, rfl⟩ := M
  exact ⟨es, clock, H, F, by rw [length_sorted]; simp, rfl⟩
theorem MapB.of_owns {n : Nat} {D : DataW Unit} (h : w.ownsMap P k R b n D) : ∃ o E, w.heap[b]? = some o ∧ MapB P k R o E ∧ D = .map E := by
  obtain ⟨es, clock, hb, F, _, rfl⟩ := h
  exact ⟨_, _, hb, ⟨es, clock, rfl, F, rfl⟩, rfl⟩
theorem mp_look (H : w.heap[b]? = some o) (M : MapB P k R o E) (K : Keyed P k) (ht : P.underlying t = some (.map k e)) {z : Value} (hz : (zeroValue e).run P w = .ok z w) {zd : DataW Unit} {zp : List MemPlace} (hzd : R z = some (zd, zp))
    {key : Value} {kl : Lit} (hkey : keyOf P k key = some kl) : ∃ v ps, (Instr.lookup t (.map (some b)) key false).run P w = .ok v w ∧ R v = some ((DataW.map E).atKey kl zd, ps) :=
  (MapB.owns H M).lookup K ht hz hzd hkey
theorem mp_put (H : w.heap[b]? = some o) (M : MapB P k R o E) (K : Keyed P k) (ht : P.underlying t = some (.map k e)) (hn : E.length < maxLen) {key val : Value} {kl : Lit} {d : DataW Unit} {ps : List MemPlace}
    (hkey : keyOf P k key = some kl) (hv : R val = some (d, ps)) : ∃ w' o', (Instr.mapUpdate t (.map (some b)) key val).run P w = .ok () w' ∧ w'.heap[b]? = some o' ∧ MapB P k R o' (putKey kl d E) ∧ w.grownBy w' (some b) := by
  obtain ⟨w', h1, h2, h3⟩ := (MapB.owns H M).update K ht hn hkey hv
  obtain ⟨o', E', a1, a2, a3⟩ := MapB.of_owns h2
  rw [DataW.put_eq] at a3
  injection a3 with a3
  exact ⟨w', o', h1, a1, a3 ▸ a2, h3⟩
theorem mp_del (H : w.heap[b]? = some o) (M : MapB P k R o E) (K : Keyed P k) (ht : P.underlying t = some (.map k e)) {key : Value} {kl : Lit}
    (hkey : keyOf P k key = some kl) (ty : TypeId) : ∃ w' o', (Builtin.delete_ #[t, k] ty #[.map (some b), key]).run P w = .ok (.tuple #[]) w' ∧ w'.heap[b]? = some o' ∧ MapB P k R o' (delKey kl E) ∧ w.grownBy w' (some b) := by
  obtain ⟨w', h1, h2, h3⟩ := (MapB.owns H M).drop K ht hkey ty
  obtain ⟨o', E', a1, a2, a3⟩ := MapB.of_owns h2
  rw [DataW.del_eq] at a3
  injection a3 with a3
  exact ⟨w', o', h1, a1, a3 ▸ a2, h3.grown⟩
theorem mp_len (H : w.heap[b]? = some o) (M : MapB P k R o E) (ht : P.underlying t = some (.map k e)) (ty : TypeId) : (Builtin.len_ #[t] ty #[.map (some b)]).run P w = .ok (.int .i64 E.length) w :=
  (MapB.owns H M).len ht ty
theorem mp_room (M : MapB P k R o E) : E.length ≤ maxLen := by
  obtain ⟨es, clock, rfl, F, rfl⟩ := M
  rw [length_sorted]
  simpa using F.size
end Go.Proofs.Ytfebebjopjopcaa.Sp
