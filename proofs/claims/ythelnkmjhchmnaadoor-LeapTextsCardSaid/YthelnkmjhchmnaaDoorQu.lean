/- Steps of a statement whose order is open: a value, a call that makes new memory only. No condition. -/
import Derived.Test.YthelnkmjhchmnaaDoorProg
import Derived.WalkKit
import Derived.KernelRfl
import Derived.Deep.QuietTactic
import Derived.BigQuiet
import Derived.Lib.Hide
namespace Go.Proofs.YthelnkmjhchmnaaDoor
open Go.RowKit
section
variable {P : Program} {C : World → Prop} {K : Act → Prop} {o : Oper} {a : Act}
theorem quiet_call (f : FuncId) (args : Array Value) (v : Value) (hrun : ∀ w, (execOp a.eval o).run P w = .ok (.enter f args) w) (hc : ∀ w, C w → Calls P f args w fun e w' => e = .returned v ∧ C w') (hk : K (a.put o.dst v)) : o.quiet P a C K :=
  ⟨v, fun w hw => by unfold Oper.quietAt; rw [hrun w]; exact ⟨rfl, hc w hw⟩, hk⟩
theorem quiet_val (v : Value) (hrun : ∀ w, C w → (execOp a.eval o).run P w = .ok (.value v) w) (hk : K (a.put o.dst v)) : o.quiet P a C K :=
  ⟨v, fun w hw => by unfold Oper.quietAt; rw [hrun w hw]; exact ⟨rfl, rfl⟩, hk⟩
end
theorem region_quiet_lit {P : Program} {C : World → Prop} {id : Nat} {Q : Exit → Act → World → Prop} {a : Act} {w : World} {l : List Oper} (hm : P.follows .mixedOrders = true) (hB : Region.lexB .any l.toArray = true) (hC : C w.drew)
    (hh : wpQuiet P l.toArray C (fun a' => ∀ w', C w' → Q .normal a' w') l a) : (Code.region id l.toArray true).wp P Q a w :=
  wp_region_quiet hm hB hC (by simpa using hh)
def IsB (w : World) (g : Nat) (cs : Array Value) (t : TypeId) : Prop := w.heap[g]? = some (.cells cs t (0, 0))
theorem IsB.to {w w' : World} {b g : Nat} {cs : Array Value} {t : TypeId} (H : IsB w g cs t) (hb : Below b w w') (hg : g < b) : IsB w' g cs t := (hb.block g hg).trans H
theorem IsB.lt {w : World} {g : Nat} {cs : Array Value} {t : TypeId} (H : IsB w g cs t) : g < w.heap.size := lt_of_block H
theorem IsB.at {w : World} {g : Nat} {cs : Array Value} {t : TypeId} (H : IsB w g cs t) (i : Nat) : w.cell? ⟨g, i, none⟩ = cs[i]? := by unfold IsB at H; simp [World.cell?, H]
theorem isB_new (w : World) (cs : Array Value) (t : TypeId) : IsB (w.alloc (.cells cs t)) w.heap.size cs t := heap_alloc_new w _
theorem below_drewN (w : World) (n : Nat) : Below w.heap.size w (w.drewN n) := by
  induction n with
  | zero => exact Below.refl _ _
  | succ n ih => exact ih.drew
end Go.Proofs.YthelnkmjhchmnaaDoor
