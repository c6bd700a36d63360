/- Slices of bytes, and slices of such, that come in: read as lists of bytes. No condition. -/
import Derived.Test.YtocpelkgiebkjaaFl
import Derived.OpenShut
import Derived.ProofKit
import Derived.Deep.Matrix
import Derived.ChangeSlices
namespace Go.Proofs.Ytocpelkgiebkjaa
open Go.ChangeShapes Go.WideShapes Go.ChangeAt Go.RowKit Go.Proofs.Ytocpelkgiebkjaa.Sp
set_option linter.unusedVariables false
theorem cells28 : Try.prog.cellsOf 28 = 1 := by kernel_rfl
theorem cells5 : Try.prog.cellsOf 5 = 1 := by kernel_rfl
def InB (W : World) (A : Option Addr) (c : Nat) (d : List UInt8) : Prop := (A = none → c = 0) ∧ d.length ≤ c ∧ c ≤ maxLen ∧ Reads W A d.length 1 (bv d)
theorem InB.at_ {W w : World} {F : Hp} {A : Option Addr} {c : Nat} {d : List UInt8} (h : InB W A c d) (H : Holds W F w) : Reads w A d.length 1 (bv d) := h.2.2.2.below H.below
def toB (zs : List Int) : List UInt8 := zs.map fun n => UInt8.ofNat n.toNat
theorem InB.of {W : World} {A : Option Addr} {len cap : Nat} {zs : List Int} (h0 : A = none → cap = 0) (h1 : len ≤ cap) (h2 : cap ≤ maxLen) (hl : zs.length = cap) (hw : ∀ n ∈ zs, (Lit.int .u8 n).wf = true)
    (hc : ∀ a, A = some a → ∀ i, i < cap → W.cell? (a.add i) = some (.int .u8 (zs.getD i 0))) : (toB (zs.take len)).length = len ∧ InB W A cap (toB (zs.take len)) := by
  have e : (toB (zs.take len)).length = len := by simp [toB]; omega
  refine ⟨e, h0, by omega, h2, by simp [bv], fun h => by have := h0 h; omega, fun ad had j u hj => ?_⟩
  have hj2 : j < len := by
    have := (List.getElem?_eq_some_iff.mp hj).1
    simp [bv] at this
    omega
  rw [hc ad had j (by omega), ← hj]
  have hz : zs[j]? = some (zs.getD j 0) := by
    rw [List.getD_eq_getElem?_getD, List.getElem?_eq_getElem (by omega)]
    rfl
  have hb := bounds_u8 (hw _ (List.mem_of_getElem? hz))
  simp only [bv, toB, List.getElem?_map, List.getElem?_take, if_pos hj2, hz, Option.map_some]
  congr 2
  simp only [UInt8.toNat_ofNat']
  omega
theorem open_b {H : Type} {enc : TypeId × Value → H} {W : World} {r : Reach} {b0 base : Nat} {held : Bool} {v : Value} {d : DataW H} {p : List MemPlace}
    (hv : Value.okWide Try.prog W r b0 28 v) (h : DataW.Trod enc Try.prog W base (fun _ => true) held 28 v d p) :
    ∃ x : Option Addr × Nat × List UInt8, v = .slice x.1 x.2.2.length x.2.1 ∧ InB W x.1 x.2.1 x.2.2 := by
  obtain ⟨a, len, cap, rfl⟩ := okWide_slice Try.underlying28 hv
  obtain ⟨fuel, hf⟩ := h
  rcases open_ints Try.underlying28 Try.underlying5 cells5 hf with ⟨hcs, _⟩ | ⟨ad, n, c, zs, hcs, _, hl, hm, hz, _, hc, hw⟩
  · simp [Value.cells] at hcs
    obtain ⟨rfl, rfl, rfl⟩ := hcs
    exact ⟨(none, 0, []), rfl, fun _ => rfl, Nat.le_refl _, by decide, rfl, fun _ => rfl, fun _ h => by cases h⟩
  · simp [Value.cells] at hcs
    obtain ⟨rfl, rfl, rfl⟩ := hcs
    have hz2 : zs.length = cap := hz
    obtain ⟨e, hI⟩ := InB.of (W := W) (A := some ad) (len := len) (cap := cap) (zs := zs) (fun h => by cases h) hl hm hz2 hw (fun a ha i hi => by injection ha with ha; subst ha; exact hc i (by omega))
    exact ⟨(some ad, cap, toB (zs.take len)), by simp [e], hI⟩
def InBs (W : World) (A : Option Addr) (L : List (List UInt8)) : Prop := ∀ j b, L[j]? = some b → ∃ ad Aj Cj, A = some ad ∧ W.cell? (ad.add j) = some (.slice Aj b.length Cj) ∧ InB W Aj Cj b
theorem open_bb {H : Type} {enc : TypeId × Value → H} {W : World} {r : Reach} {b0 base : Nat} {held : Bool} {v : Value} {d : DataW H} {p : List MemPlace}
    (hv : Value.okWide Try.prog W r b0 22 v) (h : DataW.Trod enc Try.prog W base (fun _ => true) held 22 v d p) :
    ∃ x : Option Addr × Nat × List (List UInt8), v = .slice x.1 x.2.2.length x.2.1 ∧ (x.2.2.length ≤ maxLen ∧ InBs W x.1 x.2.2) := by
  obtain ⟨a, len, cap, rfl⟩ := okWide_slice Try.underlying22 hv
  obtain ⟨fuel, hf⟩ := h
  rcases Go.Deep.open_int_rows Try.underlying22 Try.underlying28 Try.underlying5 cells28 cells5 hf with ⟨hcs, _⟩ | ⟨ad, n, c, A, L, C, Z, hcs, _, hl, hm, _, hr⟩
  · simp [Value.cells] at hcs
    obtain ⟨rfl, rfl, rfl⟩ := hcs
    exact ⟨(none, 0, []), rfl, by decide, fun j b h => by simp at h⟩
  · simp [Value.cells] at hcs
    obtain ⟨rfl, rfl, rfl⟩ := hcs
    refine ⟨(some ad, cap, (List.range len).map fun r => toB ((Z r).take (L r))), by simp, by simp; omega, fun j b hj => ?_⟩
    obtain ⟨hj1, hq⟩ := List.getElem?_eq_some_iff.1 hj
    have hj2 : j < len := by simpa using hj1
    simp only [List.getElem_map, List.getElem_range] at hq
    subst hq
    obtain ⟨r1, r2, r3, r4, r5, r6, r7⟩ := hr j (by omega)
    obtain ⟨e, hI⟩ := InB.of (W := W) (A := A j) (len := L j) (cap := C j) (zs := Z j) r6 r2 r3 r4 r5 (fun a ha i hi => (r7 a ha).2 i hi)
    exact ⟨ad, A j, C j, rfl, by rw [e]; exact r1, hI⟩
end Go.Proofs.Ytocpelkgiebkjaa
