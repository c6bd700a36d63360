/- Slices of rows cut, and what is read of them. Conditions: each theorem's own. -/
import Derived.Test.YtocpelkgiebkjaaRw
namespace Go.Proofs.Ytocpelkgiebkjaa.Sp
open Go.RowKit
set_option linter.unusedVariables false
set_option linter.unusedSimpArgs false
variable {P : Program} {w0 w w' : World} {h F : Hp} {e t : TypeId} {sz n : Nat} {v : Value} {xs : List Value}
theorem cutHi (hu : P.underlying t = some (.slice e)) (hs : (P.info? e).map (·.size) = some sz) (A : Option Addr) (n c p : Nat) (hp : p ≤ n) (hn : n ≤ c) (W : World) : (Instr.slice t (.slice A n c) none (some (.int .i64 (p : Int))) none).run P W = .ok (.slice A p c) W := by
  obtain ⟨i, hi, q1⟩ := Option.map_eq_some_iff.1 hs
  have hel : P.elem t = e := by simp [Program.elem, hu]
  have hu2 : P.underlying t = some (.slice (P.elem t)) := by rw [hel]; exact hu
  have ha : (A.map fun x => x.add 0) = A := by cases A <;> simp [Addr.add]
  rw [run_slice_h W t A n c hu2 .i64 (p : Int) (by omega) (by omega), hel]
  simp [sizeOf, typeInfo, hi, q1, sliced, Result.andThen, ha]
theorem cutLo (hu : P.underlying t = some (.slice e)) (hs : (P.info? e).map (·.size) = some sz) (A : Option Addr) (n c p : Nat) (hp : p ≤ n) (hn : n ≤ c) (W : World) : (Instr.slice t (.slice A n c) (some (.int .i64 (p : Int))) none none).run P W = .ok (.slice (if c = p then A else A.map fun a => a.add (p * sz)) (n - p) (c - p)) W := by
  obtain ⟨i, hi, q1⟩ := Option.map_eq_some_iff.1 hs
  have hel : P.elem t = e := by simp [Program.elem, hu]
  have hu2 : P.underlying t = some (.slice (P.elem t)) := by rw [hel]; exact hu
  rw [run_slice_l W t A n c hu2 .i64 (p : Int) (by omega) (by omega), hel]
  simp [sizeOf, typeInfo, hi, q1, sliced, Result.andThen]
theorem addr_add2 (a : Addr) (i j : Nat) : (a.add i).add j = a.add (i + j) := by
  unfold Addr.add
  by_cases h1 : i = 0 <;> by_cases h2 : j = 0 <;> simp [h1, h2, Nat.add_assoc]
theorem Reads.drop {A : Option Addr} {c k : Nat} (R : Reads w A n sz xs) (hk : k ≤ n) (hc : n ≤ c) : Reads w (if c = k then A else A.map fun a => a.add (k * sz)) (n - k) sz (xs.drop (k * sz)) := by
  refine ⟨by rw [List.length_drop, R.1, Nat.sub_mul], fun h => ?_, fun ad had j u hj => ?_⟩
  · by_cases hck : c = k
    · omega
    · rw [if_neg hck] at h
      have := R.2.1 (by simpa using h)
      omega
  · rw [List.getElem?_drop] at hj
    have hlt : k * sz + j < n * sz := by rw [← R.1]; exact (List.getElem?_eq_some_iff.mp hj).1
    have hkn : k < n := by
      rcases Nat.lt_or_ge k n with h | h
      · exact h
      · have := Nat.mul_le_mul_right sz h; omega
    rw [if_neg (by omega)] at had
    cases A with
    | none => simp at had
    | some a =>
      have had : a.add (k * sz) = ad := by simpa using had
      rw [← had, addr_add2]
      exact R.2.2 a rfl _ u hj
theorem cut_none {A : Option Addr} {c k : Nat} (hA : A = none → c = 0) : (if c = k then A else A.map fun a => a.add (k * sz)) = none → c - k = 0 := fun h => by
  by_cases hc : c = k
  · omega
  · rw [if_neg hc] at h
    have := hA (by simpa using h)
    omega
end Go.Proofs.Ytocpelkgiebkjaa.Sp
