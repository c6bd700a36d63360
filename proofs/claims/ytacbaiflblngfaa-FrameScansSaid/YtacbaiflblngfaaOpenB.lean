/- A slice of byte slices that came in is a list of lists of bytes, told as shared. No condition. -/
import Derived.Test.YtacbaiflblngfaaWMore
import Derived.Test.YtacbaiflblngfaaProg
import Derived.OpenShut
import Derived.ProofKit
import Derived.Deep.Matrix
namespace Go.Proofs.Ytacbaiflblngfaa
open Go.ChangeShapes Go.WideShapes Go.ChangeAt Go.RowKit Go.Proofs.YtacbaiflblngfaaW.PrintWords
set_option linter.unusedVariables false
theorem cells23 : Try.prog.cellsOf 23 = 1 := by kernel_rfl
theorem cells5 : Try.prog.cellsOf 5 = 1 := by kernel_rfl
/-- What is known of such a slice. -/
def IsRows (W : World) (A : Option Addr) (c : Nat) (l : List (List Int)) : Prop := Kd.V (Kd.slice 5 (Kd.int .u8)) 23 W W.heap.size (fun k => k < W.heap.size) (.slice A l.length c) l
theorem IsRows.reads {W : World} {A : Option Addr} {c : Nat} {l : List (List Int)} (h : IsRows W A c l) : Kd.C (Kd.slice 5 (Kd.int .u8)) W A l.length l ∧ l.length ≤ c := by
  obtain ⟨A', c', e, hl, hf⟩ := h
  injection e with e1 _ e2
  subst e1
  subst e2
  exact ⟨hf W (fun _ _ _ => rfl), hl⟩
theorem open_bytes {H : Type} {enc : TypeId × Value → H} {W : World} {r : Reach} {b0 base : Nat} {held : Bool} {v : Value} {d : DataW H} {p : List MemPlace}
    (hv : Value.okWide Try.prog W r b0 27 v) (h : DataW.Trod enc Try.prog W base (fun _ => true) held 27 v d p) :
    ∃ x : Option Addr × Nat × List (List Int), v = .slice x.1 x.2.2.length x.2.1 ∧ IsRows W x.1 x.2.1 x.2.2 ∧ ∀ q ∈ x.2.2, ∀ n ∈ q, 0 ≤ n ∧ n < 256 := by
  obtain ⟨a, len, cap, rfl⟩ := okWide_slice Try.underlying27 hv
  obtain ⟨fuel, hf⟩ := h
  rcases Go.Deep.open_int_rows Try.underlying27 Try.underlying23 Try.underlying5 cells23 cells5 hf with ⟨hcs, _⟩ | ⟨ad, n, c, A, L, C, Z, hcs, _, hl, hm, _, hr⟩
  · simp [Value.cells] at hcs
    obtain ⟨rfl, rfl, rfl⟩ := hcs
    exact ⟨(none, 0, []), rfl, Kd.V_nil _ _ _ _ _, by simp⟩
  · simp [Value.cells] at hcs
    obtain ⟨rfl, rfl, rfl⟩ := hcs
    refine ⟨(some ad, cap, (List.range len).map fun r => (Z r).take (L r)), by simp, ?_, ?_⟩
    rotate_left
    · intro q hq n hn
      obtain ⟨j, hj, rfl⟩ := List.mem_map.mp hq
      have hj2 : j < len := List.mem_range.mp hj
      have := bounds_u8 ((hr j (by omega)).2.2.2.2.1 n (List.mem_of_mem_take hn))
      omega
    refine ⟨some ad, cap, by simp, by simpa using hl, ?_⟩
    intro W' hW'
    have hW : ∀ k, k < W.heap.size → W'.heap[k]? = W.heap[k]? := fun k hk => hW' k hk hk
    unfold maxLen at hm
    refine ⟨rfl, by simp; omega, fun hn => ⟨ad, rfl, fun j q hj => ?_⟩⟩
    obtain ⟨hj1, hq⟩ := List.getElem?_eq_some_iff.1 hj
    have hj2 : j < len := by simpa using hj1
    simp only [List.getElem_map, List.getElem_range] at hq
    obtain ⟨r1, r2, r3, r4, r5, r6, r7⟩ := hr j (by omega)
    unfold maxLen at r3
    have ql : q.length = L j := by rw [← hq, List.length_take]; omega
    refine ⟨[.slice (A j) q.length (C j)], rfl, ⟨A j, C j, rfl, by omega, ?_⟩, ?_⟩
    · have R : ReadsInt W' .u8 (A j) q.length q := by
        refine ⟨rfl, by omega, fun h0 => ?_⟩
        cases hA : A j with
        | none => have := r6 hA; omega
        | some a' =>
          refine ⟨a', rfl, fun i hi => ?_⟩
          have := (r7 a' hA).2 i (by omega)
          have e : (Z j).getD i 0 = q.getD i 0 := by
            rw [← hq, List.getD_eq_getElem?_getD, List.getD_eq_getElem?_getD, List.getElem?_take, if_pos (by omega)]
          rw [e] at this
          exact Kd.cell_heap hW this
      exact Kd.C_of_reads (d := (0 : Int)) (h1 := fun _ => rfl) R
    · intro i u hu
      have hi : i = 0 := by
        rcases i with _ | i
        · rfl
        · simp at hu
      subst hi
      obtain rfl := Option.some.inj hu
      have := Kd.cell_heap hW r1
      rw [← ql] at this
      rw [show j * (Kd.slice 5 (Kd.int .u8)).sz + 0 = j by show j * 1 + 0 = j; omega]
      exact this
end Go.Proofs.Ytacbaiflblngfaa
