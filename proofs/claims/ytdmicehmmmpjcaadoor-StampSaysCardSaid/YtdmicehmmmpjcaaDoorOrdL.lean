/- Operations of a statement whose order is open, at stamps. No condition. -/
import Derived.Test.YtdmicehmmmpjcaaDoorAwake
namespace Go.Proofs.YtdmicehmmmpjcaaDoor
open Go.RowKit
set_option linter.unusedVariables false
set_option linter.unusedSimpArgs false
section
variable {P : Program} {C : World → Prop} {K : Act → Prop} {o : Oper} {a : Act}
theorem quiet_call (f : FuncId) (args : Array Value) (v : Value) (hrun : ∀ w, (execOp a.eval o).run P w = .ok (.enter f args) w) (hc : ∀ w, C w → Calls P f args w fun e w' => e = .returned v ∧ C w') (hk : K (a.put o.dst v)) : o.quiet P a C K :=
  ⟨v, fun w hw => by unfold Oper.quietAt; rw [hrun w]; exact ⟨rfl, hc w hw⟩, hk⟩
theorem quiet_val (v : Value) (hrun : ∀ w, C w → (execOp a.eval o).run P w = .ok (.value v) w) (hk : K (a.put o.dst v)) : o.quiet P a C K :=
  ⟨v, fun w hw => by unfold Oper.quietAt; rw [hrun w hw]; exact ⟨rfl, rfl⟩, hk⟩
end
theorem region_quiet_lit {P : Program} {C : World → Prop} {id : Nat} {Q : Exit → Act → World → Prop} {a : Act} {w : World} {l : List Oper} (hm : P.follows .mixedOrders = true) (hB : Region.lexB .any l.toArray = true) (hC : C w.drew)
    (hh : wpQuiet P l.toArray C (fun a' => ∀ w', C w' → Q .normal a' w') l a) : (Code.region id l.toArray true).wp P Q a w :=
  wp_region_quiet hm hB hC (by simpa using hh)
theorem quiet_ld23 {C : World → Prop} {K : Act → Prop} {o : Oper} {a : Act} (x : Operand) (ho : o.op = .load 23 x) (g : Nat) (hx : a.eval x = .pointer (some ⟨g, 0, none⟩)) (t n : Int)
    (hg : ∀ w, C w → IsSt w g t n) (hk : K (a.put o.dst (.agg (st2 t n)))) : o.quiet Tryd.prog a C K :=
  quiet_val _ (fun w hw => by
    unfold execOp
    simp only [ho, hx, Instr.loadAt, Instr.sureAddr, Sem.run_bind, Sem.run_pure, Result.andThen_ok, (hg w hw).load]) hk
end Go.Proofs.YtdmicehmmmpjcaaDoor
