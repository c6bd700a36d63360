/- What a call has of its own, block by block, beside all that was there before: it stays through whatever is laid and written elsewhere. Conditions: each theorem's own. -/
import Derived.Below
import Derived.RowKit
import Derived.WalkKit
import Derived.Lib.Hide
import Derived.Deep.Draws
import Derived.Laws.Tables
namespace Go.Proofs.Ytocpelkgiebkjaa.Sp
open Go.RowKit
abbrev Hp := List (Nat × Obj)
/-- Of the world w: what lay below w0's end is as it was; the blocks of h are where they are said to be, each once, all behind w0's end. -/
structure Holds (w0 : World) (h : Hp) (w : World) : Prop where
  below : Below w0.heap.size w0 w
  at_ : ∀ x, x ∈ h → w.heap[x.1]? = some x.2 ∧ w0.heap.size ≤ x.1
  nodup : (h.map (·.1)).Nodup
variable {w0 w w' : World} {h k F : Hp} {g : Nat} {o o' : Obj}
theorem Holds.nil (w : World) : Holds w [] w := ⟨Below.refl _ w, fun x hx => by simp at hx, List.nodup_nil⟩
theorem Holds.of_below (hb : Below w0.heap.size w0 w) : Holds w0 [] w := ⟨hb, fun x hx => by simp at hx, List.nodup_nil⟩
theorem Holds.perm (H : Holds w0 h w) (hp : h.Perm k) : Holds w0 k w := ⟨H.below, fun x hx => H.at_ x (hp.mem_iff.mpr hx), (hp.map _).nodup_iff.mp H.nodup⟩
theorem Holds.sub (H : Holds w0 h w) (hp : k.Sublist h) : Holds w0 k w := ⟨H.below, fun x hx => H.at_ x (hp.subset hx), (hp.map _).nodup H.nodup⟩
theorem Holds.tail {x : Nat × Obj} (H : Holds w0 (x :: h) w) : Holds w0 h w := H.sub (List.sublist_cons_self _ _)
theorem Holds.left (H : Holds w0 (h ++ k) w) : Holds w0 h w := H.sub (List.sublist_append_left _ _)
theorem Holds.right (H : Holds w0 (h ++ k) w) : Holds w0 k w := H.sub (List.sublist_append_right _ _)
theorem Holds.comm (H : Holds w0 (h ++ k) w) : Holds w0 (k ++ h) w := H.perm List.perm_append_comm
theorem Holds.get (H : Holds w0 ((g, o) :: h) w) : w.heap[g]? = some o := (H.at_ _ List.mem_cons_self).1
theorem Holds.ge (H : Holds w0 ((g, o) :: h) w) : w0.heap.size ≤ g := (H.at_ _ List.mem_cons_self).2
theorem Holds.lt (H : Holds w0 ((g, o) :: h) w) : g < w.heap.size := lt_of_block H.get
theorem Holds.size (H : Holds w0 h w) : w0.heap.size ≤ w.heap.size := H.below.size
theorem Holds.mem (H : Holds w0 h w) {x : Nat × Obj} (hx : x ∈ h) : w.heap[x.1]? = some x.2 := (H.at_ x hx).1
theorem Holds.mem_ne (H : Holds w0 ((g, o) :: h) w) {x : Nat × Obj} (hx : x ∈ h) : x.1 ≠ g := by
  have := H.nodup
  rw [List.map_cons, List.nodup_cons] at this
  intro e
  exact this.1 (List.mem_map.mpr ⟨x, hx, e⟩)
theorem Holds.cell {cs : Array Value} {t : TypeId} {z : Nat × Nat} (H : Holds w0 ((g, .cells cs t z) :: h) w) (i : Nat) : w.cell? ⟨g, i, none⟩ = cs[i]? := by
  simp [World.cell?, H.get]
theorem Holds.froz {cs : Array Value} {t : TypeId} (H : Holds w0 ((g, .cells cs t (0, 0)) :: h) w) (i : Nat) : w.frozen? ⟨g, i, none⟩ = false := by
  simp [World.frozen?, H.get]
theorem Holds.drew (H : Holds w0 h w) : Holds w0 h w.drew := ⟨⟨H.below.os, H.below.tape, H.below.output, H.below.size, H.below.block⟩, H.at_, H.nodup⟩
theorem Holds.drewN (H : Holds w0 h w) (n : Nat) : Holds w0 h (w.drewN n) := ⟨⟨H.below.os, H.below.tape, H.below.output, H.below.size, H.below.block⟩, H.at_, H.nodup⟩
/-- Where blocks below the end stay. -/
theorem Holds.grow (H : Holds w0 h w) (hb : Below w.heap.size w w') : Holds w0 h w' :=
  ⟨H.below.trans (hb.mono H.size), fun x hx => ⟨(hb.block _ (lt_of_block (H.at_ x hx).1)).trans (H.at_ x hx).1, (H.at_ x hx).2⟩, H.nodup⟩
theorem Holds.alloc (H : Holds w0 h w) (o : Obj) : Holds w0 ((w.heap.size, o) :: h) (w.alloc o) := by
  refine ⟨H.below.alloc H.size o, fun x hx => ?_, ?_⟩
  · rcases List.mem_cons.mp hx with rfl | hx
    · exact ⟨heap_alloc_new w o, H.size⟩
    · exact ⟨(Below.heap_alloc w o _ (lt_of_block (H.at_ x hx).1)).trans (H.at_ x hx).1, (H.at_ x hx).2⟩
  · rw [List.map_cons, List.nodup_cons]
    refine ⟨fun hm => ?_, H.nodup⟩
    obtain ⟨x, hx, e⟩ := List.mem_map.mp hm
    have := lt_of_block (H.at_ x hx).1
    have e : x.1 = w.heap.size := e
    omega
theorem Holds.alloc_ (H : Holds w0 h w) (o : Obj) : Holds w0 h (w.alloc o) := (H.alloc o).tail
/-- Where one block alone is turned. -/
theorem Holds.turn (H : Holds w0 ((g, o) :: h) w) (hg : w.grownBy w' (some g)) (ho : w'.heap[g]? = some o') : Holds w0 ((g, o') :: h) w' := by
  refine ⟨H.below.grown hg H.size (by rintro k hk; injection hk with hk; have := H.ge; omega), fun x hx => ?_, H.nodup⟩
  rcases List.mem_cons.mp hx with rfl | hx
  · exact ⟨ho, H.ge⟩
  · have h2 := H.at_ x (List.mem_cons_of_mem _ hx)
    exact ⟨(hg.block _ (lt_of_block h2.1) (by intro e; injection e with e; exact H.mem_ne hx e)).trans h2.1, h2.2⟩
theorem heap_set {cs : Array Value} {t : TypeId} {z : Nat × Nat} (H : w.heap[g]? = some (.cells cs t z)) (i : Nat) (v : Value) : (w.setCell ⟨g, i, none⟩ v).heap[g]? = some (.cells (cs.setIfInBounds i v) t z) := by
  have hlt := lt_of_block H
  have h' : w.heap[g] = .cells cs t z := by simpa [Array.getElem?_eq_getElem hlt] using H
  show (w.heap.modify g _)[g]? = _
  rw [Array.getElem?_eq_getElem (by simpa using hlt), Array.getElem_modify_self, h']
  simp
theorem set_grown (w : World) (p : Addr) (v : Value) : w.grownBy (w.setCell p v) (some p.block) :=
  ⟨rfl, rfl, rfl, by simp [World.setCell], fun i _ hne => Below.heap_setCell w p v i (fun e => hne (by rw [e]))⟩
theorem Holds.set {cs : Array Value} {t : TypeId} {z : Nat × Nat} (H : Holds w0 ((g, .cells cs t z) :: h) w) (i : Nat) (v : Value) : Holds w0 ((g, .cells (cs.setIfInBounds i v) t z) :: h) (w.setCell ⟨g, i, none⟩ v) :=
  H.turn (set_grown w _ v) (heap_set H.get i v)
theorem Holds.turn_mid (H : Holds w0 (h ++ (g, o) :: k) w) (hg : w.grownBy w' (some g)) (ho : w'.heap[g]? = some o') : Holds w0 (h ++ (g, o') :: k) w' :=
  ((H.perm List.perm_middle).turn hg ho).perm List.perm_middle.symm
theorem Holds.get_mid (H : Holds w0 (h ++ (g, o) :: k) w) : w.heap[g]? = some o := H.mem (x := (g, o)) (by simp)
theorem row_grown (w : World) (g : Nat) (cs : Array Value) : w.grownBy (w.setRow g cs) (some g) :=
  ⟨rfl, rfl, rfl, by simp, fun i _ hne => setRow_other w g i cs (fun e => hne (by rw [e]))⟩
theorem Holds.alloc2 (H : Holds w0 h w) (o o' : Obj) : Holds w0 ((w.heap.size + 1, o') :: (w.heap.size, o) :: h) ((w.alloc o).alloc o') := by
  have := (H.alloc o).alloc o'
  have e : (w.alloc o).heap.size = w.heap.size + 1 := by simp
  rwa [e] at this
theorem Holds.add {W : World} (H : Holds w0 h W) (hb : Below W.heap.size W w) (hg : W.heap.size ≤ g) (ho : w.heap[g]? = some o) : Holds w0 ((g, o) :: h) w := by
  have H2 := H.grow hb
  refine ⟨H2.below, fun x hx => ?_, ?_⟩
  · rcases List.mem_cons.mp hx with rfl | hx
    · exact ⟨ho, Nat.le_trans H.size hg⟩
    · exact H2.at_ x hx
  · rw [List.map_cons, List.nodup_cons]
    refine ⟨fun hm => ?_, H.nodup⟩
    obtain ⟨x, hx, e⟩ := List.mem_map.mp hm
    have := lt_of_block (H.at_ x hx).1
    have e : x.1 = g := e
    omega
theorem Holds.congr (H : Holds w0 h w) (e : h = k) : Holds w0 k w := e ▸ H
end Go.Proofs.Ytocpelkgiebkjaa.Sp
