/- What the laws of package key share: a key that came in is sixteen bytes; operations of a statement whose order is open. No condition. -/
import Derived.Test.YtnmnniknklfemaaKeyC
import Derived.OpenShut
import Derived.ProofKit
namespace Go.Proofs.Ytnmnniknklfemaa
open Go.ChangeShapes Go.WideShapes Go.ChangeAt Go.RowKit
set_option linter.unusedVariables false
set_option linter.unusedSimpArgs false

theorem cells5 : Try.prog.cellsOf 5 = 1 := by kernel_rfl
theorem cells23 : Try.prog.cellsOf 23 = 16 := by kernel_rfl
theorem open_key {H : Type} {enc : TypeId × Value → H} {W : World} {r : Reach} {b0 base : Nat} {spare : Nat → Bool} {held : Bool} {v : Value} {d : DataW H} {p : List MemPlace}
    (hv : Value.okWide Try.prog W r b0 23 v) (h : DataW.Trod enc Try.prog W base spare held 23 v d p) : ∃ l : List UInt8, v = .agg (kv l) ∧ l.length = 16 := by
  have hv' : ∃ cs, v = .agg cs ∧ cs.size = Try.prog.cellsOf 23 := by
    simp only [Value.okWide, und23] at hv
    obtain ⟨cs, h1, h2, _⟩ := hv
    exact ⟨cs, h1, h2⟩
  obtain ⟨cs, rfl, hsz⟩ := hv'
  obtain ⟨fuel, hf⟩ := h
  obtain ⟨xs, m, _, hx, hlen, hxl, hel⟩ := DataW.trod_array und23 hf
  rw [cells23] at hsz
  have hcell : ∀ i, i < 16 → ∃ b : UInt8, cs[i]? = some (.int .u8 b.toNat) := fun i hi => by
    have h1 := hel i hi
    have hxi : xs[i]? = some (xs[i]'(by omega)) := List.getElem?_eq_getElem (by omega)
    rw [hxi, cells5, Nat.mul_one] at h1
    obtain ⟨z, hz, _, hw⟩ := DataW.trod_int Try.underlying5 h1
    have hz' : (Value.agg cs).cells.toList[i]? = some (.int .u8 z) := by
      have := congrArg (·[0]?) hz
      simpa using this
    have hb := bounds_u8 hw
    refine ⟨UInt8.ofNat z.toNat, ?_⟩
    have e : ((UInt8.ofNat z.toNat).toNat : Int) = z := by
      rw [UInt8.toNat_ofNat']
      omega
    rw [e]
    simpa [Value.cells] using hz'
  refine ⟨(List.range 16).map fun i => match cs[i]? with | some (Value.int _ b) => UInt8.ofNat b.toNat | _ => 0, ?_, by simp⟩
  congr 1
  apply Array.ext_getElem?
  intro i
  rcases Nat.lt_or_ge i 16 with hi | hi
  · obtain ⟨b, hb⟩ := hcell i hi
    rw [kv_get _ i hi, hb]
    simp [kb, List.getD_eq_getElem?_getD, hi, hb]
  · rw [Array.getElem?_eq_none (by omega), Array.getElem?_eq_none (by rw [kv_size]; exact hi)]

/-! The load and the store, the operation written out: so that what does not fit fails at once. -/
theorem stL {ops : Array Oper} {rest : List Oper} {dst : Option Tmp} {ty : TypeId} {pos : String} {af : Array Edge} {a : Act} {w : World} {Q : Exit → Act → World → Prop} (x y : Operand) (g : Nat) (l m : List UInt8)
    (hx : a.eval x = .pointer (some ⟨g, 0, none⟩)) (hy : a.eval y = .agg (kv l)) (hg : w.heap[g]? = some (.cells (kv m) 23 (0, 0)))
    (hh : wpList Try.prog ops Q rest (a.put dst undef) (w.setRow g (kv l))) : wpList Try.prog ops Q ({ dst := dst, op := .store 23 x y, type := ty, pos := pos, after := af, guard := none } :: rest) a w :=
  st x y rfl rfl g l m hx hy hg hh
theorem ldL {ops : Array Oper} {rest : List Oper} {dst : Option Tmp} {ty : TypeId} {pos : String} {af : Array Edge} {gd : Option (Nat × Bool)} {a : Act} {w : World} {Q : Exit → Act → World → Prop} (x : Operand) (g : Nat) (l : List UInt8)
    (hw : Region.wanted { dst := dst, op := .load 23 x, type := ty, pos := pos, after := af, guard := gd } (yielded ops a.tmps) = true) (hx : a.eval x = .pointer (some ⟨g, 0, none⟩)) (hg : w.heap[g]? = some (.cells (kv l) 23 (0, 0)))
    (hh : wpList Try.prog ops Q rest (a.put dst (.agg (kv l))) w) : wpList Try.prog ops Q ({ dst := dst, op := .load 23 x, type := ty, pos := pos, after := af, guard := gd } :: rest) a w :=
  ldg x hw rfl g hx l hg hh

section
variable {P : Program} {C : World → Prop} {K : Act → Prop} {o : Oper} {a : Act}
/-- In a statement whose order is open: a call whose answer is known in every world of the class. -/
theorem quiet_call (f : FuncId) (args : Array Value) (v : Value) (hrun : ∀ w, (execOp a.eval o).run P w = .ok (.enter f args) w) (hc : ∀ w, C w → Calls P f args w fun e w' => e = .returned v ∧ C w') (hk : K (a.put o.dst v)) : o.quiet P a C K :=
  ⟨v, fun w hw => by unfold Oper.quietAt; rw [hrun w]; exact ⟨rfl, hc w hw⟩, hk⟩
theorem quiet_val (v : Value) (hrun : ∀ w, C w → (execOp a.eval o).run P w = .ok (.value v) w) (hk : K (a.put o.dst v)) : o.quiet P a C K :=
  ⟨v, fun w hw => by unfold Oper.quietAt; rw [hrun w hw]; exact ⟨rfl, rfl⟩, hk⟩
end
theorem region_quiet_lit {P : Program} {C : World → Prop} {id : Nat} {Q : Exit → Act → World → Prop} {a : Act} {w : World} {l : List Oper} (hm : P.follows .mixedOrders = true) (hB : Region.lexB .any l.toArray = true) (hC : C w.drew)
    (hh : wpQuiet P l.toArray C (fun a' => ∀ w', C w' → Q .normal a' w') l a) : (Code.region id l.toArray true).wp P Q a w :=
  wp_region_quiet hm hB hC (by simpa using hh)
theorem quiet_ld {C : World → Prop} {K : Act → Prop} {o : Oper} {a : Act} (x : Operand) (ho : o.op = .load 23 x) (g : Nat) (hx : a.eval x = .pointer (some ⟨g, 0, none⟩)) (l : List UInt8)
    (hg : ∀ w, C w → w.heap[g]? = some (.cells (kv l) 23 (0, 0))) (hk : K (a.put o.dst (.agg (kv l)))) : o.quiet Try.prog a C K :=
  quiet_val _ (fun w hw => by
    unfold execOp
    simp only [ho, hx, Instr.loadAt, Instr.sureAddr, Sem.run_bind, Sem.run_pure, Result.andThen_ok, run_loadVar_row w g 23 23 (kv l) (0, 0) _ (hg w hw) und23 rfl (info23 l)]) hk
end Go.Proofs.Ytnmnniknklfemaa
