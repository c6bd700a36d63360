/- Cells laid into a block: what stands there then; copy of elements of any size; a block shaped. Conditions: each theorem's own. -/
import Derived.Test.YtnmnniknklfemaaRw
import Derived.Lib.SlicesCompact
import Derived.Lib.AppendZerosOnto
import Derived.Lib.Overlaps
import Derived.Deep.RegionLaw
import Derived.Deep.Upon
namespace Go.Proofs.Ytnmnniknklfemaa.Sp
open Go.RowKit
set_option linter.unusedVariables false
set_option linter.unusedSimpArgs false
theorem lay_sz : ∀ (vs : List Value) (d : Array Value) (k : Nat), (Lib.lay d k vs).size = d.size
  | [], _, _ => rfl
  | x :: r, d, k => by rw [Lib.lay, lay_sz r]; simp
theorem Holds.lay {w0 : World} {h : Hp} {g : Nat} {t : TypeId} {z : Nat × Nat} : ∀ (vs : List Value) (o : Nat) (cs : Array Value) (w : World), Holds w0 ((g, .cells cs t z) :: h) w → Holds w0 ((g, .cells (Lib.lay cs o vs) t z) :: h) (w.setCells g o vs)
  | [], _, _, _, H => H
  | v :: r, o, cs, w, H => Holds.lay r (o + 1) _ _ (H.set o v)
theorem cell_some {w0 w : World} {h : Hp} {g : Nat} {cs : Array Value} {t : TypeId} (H : Holds w0 ((g, .cells cs t (0, 0)) :: h) w) {i : Nat} (hi : i < cs.size) : (w.cell? ⟨g, i, none⟩).isSome = true := by
  rw [H.cell i, Array.getElem?_eq_getElem hi]
  rfl
/-- Two stretches laid side by side behind a beginning. -/
theorem lay_two {D : Array Value} {A V B : List Value} {a : Nat} (hA : A.length = a) (hD : ∀ t, t < a → D[t]? = A[t]?) (hs : a + V.length + B.length ≤ D.size) :
    (Lib.lay (Lib.lay D a V) (a + V.length) B).toList.take (a + V.length + B.length) = A ++ V ++ B ∧ (Lib.lay (Lib.lay D (a + V.length) B) a V).toList.take (a + V.length + B.length) = A ++ V ++ B := by
  constructor
  · apply List.ext_getElem?
    intro t
    rw [List.getElem?_take]
    by_cases ht : t < a + V.length + B.length
    · rw [if_pos ht, Array.getElem?_toList, Lib.lay_get? _ _ _ _ (by rw [lay_sz]; omega)]
      by_cases h1 : t < a
      · rw [if_neg (by omega), Lib.lay_get? _ _ _ _ (by omega), if_neg (by omega), hD t h1, List.append_assoc, List.getElem?_append_left (by omega)]
      · by_cases h2 : t < a + V.length
        · rw [if_neg (by omega), Lib.lay_get? _ _ _ _ (by omega), if_pos (by omega), List.append_assoc, List.getElem?_append_right (by omega), List.getElem?_append_left (by omega), hA]
        · rw [if_pos (by omega), List.getElem?_append_right (by rw [List.length_append]; omega), List.length_append, hA]
    · rw [if_neg ht, List.getElem?_eq_none (by rw [List.length_append, List.length_append, hA]; omega)]
  · apply List.ext_getElem?
    intro t
    rw [List.getElem?_take]
    by_cases ht : t < a + V.length + B.length
    · rw [if_pos ht, Array.getElem?_toList, Lib.lay_get? _ _ _ _ (by rw [lay_sz]; omega)]
      by_cases h1 : t < a
      · rw [if_neg (by omega), Lib.lay_get? _ _ _ _ (by omega), if_neg (by omega), hD t h1, List.append_assoc, List.getElem?_append_left (by omega)]
      · by_cases h2 : t < a + V.length
        · rw [if_pos (by omega), List.append_assoc, List.getElem?_append_right (by omega), List.getElem?_append_left (by omega), hA]
        · rw [if_neg (by omega), Lib.lay_get? _ _ _ _ (by omega), if_pos (by omega), List.getElem?_append_right (by rw [List.length_append]; omega), List.length_append, hA]
    · rw [if_neg ht, List.getElem?_eq_none (by rw [List.length_append, List.length_append, hA]; omega)]
/-- copy, of elements of any size. -/
theorem run_copy_sized {P : Program} (w : World) (dT sT ty elem : TypeId) (sz : Nat) (b o dLen dCap : Nat) (a : Addr) (sLen sCap : Nat) (cs : List Value)
    (hu : P.underlying dT = some (.slice elem)) (hs : (P.info? elem).map (·.size) = some sz) (hn : cs.length = Nat.min sLen dLen * sz)
    (hsrc : ∀ j v, cs[j]? = some v → w.cell? (a.add j) = some v) (hc : ∀ j, j < cs.length → (w.cell? ⟨b, o + j, none⟩).isSome = true) (hf : ∀ j, j < cs.length → w.frozen? ⟨b, o + j, none⟩ = false) (h1 : ∀ v ∈ cs, v.oneCell' = true) :
    (Builtin.copy_ #[dT, sT] ty #[.slice (some ⟨b, o, none⟩) dLen dCap, .slice (some a) sLen sCap]).run P w = .ok (goInt (Nat.min sLen dLen)) (w.setCells b o cs) := by
  have hl := run_loadCells_list (P := P) w a cs hsrc
  have hst := run_storeCells_cells (P := P) b o cs 0 w (by simpa using hc) (by simpa using hf) h1
  cases hq : P.info? elem with
  | none => simp [hq] at hs
  | some i =>
    have hi : i.size = sz := by simpa [hq] using hs
    simp [Builtin.copy_, run_underlying hu, Builtin.lenOf, Builtin.firstCells, sizeOf, typeInfo, hq, hi, ← hn, hl, hst]
/-- copy, at the operation; at a step of a statement whose order is open. -/
theorem cpL {P : Program} {ops : Array Oper} {rest : List Oper} {dst : Option Tmp} {ty : TypeId} {pos : String} {af : Array Edge} {a : Act} {w w' : World} {Q : Exit → Act → World → Prop} (s x : Operand) {t u : TypeId} {v v1 v' : Value}
    (hs : a.eval s = v) (hx : a.eval x = v1) (hrun : (Builtin.copy_ #[t, u] ty #[v, v1]).run P w = .ok v' w')
    (hh : wpList P ops Q rest (a.put dst v') w') : wpList P ops Q ({ dst := dst, op := .call { callee := .builtin .copy, args := #[s, x], argTypes := #[t, u] }, type := ty, pos := pos, after := af, guard := none } :: rest) a w := by
  refine wpList_plain rfl fun K' hK' => ?_
  unfold Oper.wp execOp
  simp only [resolve, invoke, builtin, Sem.run_bind, Sem.run_pure, Result.andThen_ok, List.map_toArray, List.map_cons, List.map_nil, hs, hx, hrun]
  exact hK' _ _ hh
theorem stepC {P : Program} {ops : Array Oper} {o : Oper} {a : Act} {w : World} {K : Act → World → Prop} {Q : Exit → Act → World → Prop} {E : Prop}
    (hg : o.guard = none) (d x : Operand) (dT sT : TypeId) (hop : o.op = Op.call { callee := Callee.builtin Builtin.copy, args := #[d, x], argTypes := #[dT, sT] })
    (v u : Value) (hd : a.eval d = v) (hx : a.eval x = u) {v' : Value} {w' : World} (hr : (Builtin.copy_ #[dT, sT] o.type #[v, u]).run P w = .ok v' w') (hK : K (a.put o.dst v') w') :
    if Region.wanted o (yielded ops a.tmps) = true then Oper.wp P o a w K Q else E := by
  have hw : Region.wanted o (yielded ops a.tmps) = true := by simp [Region.wanted, hg]
  rw [if_pos hw]
  unfold Oper.wp execOp
  simp only [hop, resolve, invoke, builtin, Sem.run_bind, Sem.run_pure, Result.andThen_ok, List.map_toArray, List.map_cons, List.map_nil, hd, hx, hr]
  exact hK
end Go.Proofs.Ytnmnniknklfemaa.Sp
