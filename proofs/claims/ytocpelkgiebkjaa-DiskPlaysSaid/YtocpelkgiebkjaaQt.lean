/- In a statement whose order is open, operations that read, or call what makes memory at the most. Conditions: each theorem's own. -/
import Derived.Test.YtocpelkgiebkjaaSep
import Derived.BigQuiet
import Derived.Deep.QuietTactic
namespace Go.Proofs.Ytocpelkgiebkjaa.Sp
open Go.RowKit
section
variable {P : Program} {C : World → Prop} {K : Act → Prop} {o : Oper} {a : Act}
/-- In a statement whose order is open: a call whose answer is known in every world of the class. -/
theorem quiet_call (f : FuncId) (args : Array Value) (v : Value) (hrun : ∀ w, (execOp a.eval o).run P w = .ok (.enter f args) w) (hc : ∀ w, C w → Calls P f args w fun e w' => e = .returned v ∧ C w') (hk : K (a.put o.dst v)) : o.quiet P a C K :=
  ⟨v, fun w hw => by unfold Oper.quietAt; rw [hrun w]; exact ⟨rfl, hc w hw⟩, hk⟩
theorem quiet_val (v : Value) (hrun : ∀ w, C w → (execOp a.eval o).run P w = .ok (.value v) w) (hk : K (a.put o.dst v)) : o.quiet P a C K :=
  ⟨v, fun w hw => by unfold Oper.quietAt; rw [hrun w hw]; exact ⟨rfl, rfl⟩, hk⟩
end
theorem region_quiet_lit {P : Program} {C : World → Prop} {id : Nat} {Q : Exit → Act → World → Prop} {a : Act} {w : World} {l : List Oper} (hm : P.follows .mixedOrders = true) (hB : Region.lexB .any l.toArray = true) (hC : C w.drew)
    (hh : wpQuiet P l.toArray C (fun a' => ∀ w', C w' → Q .normal a' w') l a) : (Code.region id l.toArray true).wp P Q a w :=
  wp_region_quiet hm hB hC (by simpa using hh)
end Go.Proofs.Ytocpelkgiebkjaa.Sp
