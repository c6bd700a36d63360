/- A slice of keys that came in is a list of keys; a key that came in is one. No condition. -/
import Derived.Test.YtnmnniknklfemaaFk
import Derived.Test.YtnmnniknklfemaaKeyD
import Derived.OpenShut
import Derived.ProofKit
import Derived.Deep.Slices
import Derived.WideShapes
namespace Go.Proofs.Ytnmnniknklfemaa
open Go.ChangeShapes Go.WideShapes Go.ChangeAt Go.RowKit Go.Deep
set_option linter.unusedVariables false
set_option linter.unusedSimpArgs false
theorem addr_add (b off t : Nat) : (⟨b, off, none⟩ : Addr).add t = ⟨b, off + t, none⟩ := by unfold Addr.add; split <;> simp_all
theorem open_k {H : Type} {enc : TypeId × Value → H} {W : World} {r : Reach} {b0 base : Nat} {spare : Nat → Bool} {held : Bool} {v : Value} {d : DataW H} {p : List MemPlace}
    (hv : Value.okWide Try.prog W r b0 23 v) (h : DataW.Trod enc Try.prog W base spare held 23 v d p) : ∃ x : K16, v = .agg (kv x.1) ∧ True := by
  obtain ⟨l, e, hl⟩ := open_key hv h
  exact ⟨⟨l, hl⟩, e, trivial⟩
theorem key_cells {H : Type} {enc : TypeId × Value → H} {w : World} {base : Nat} {spare : Nat → Bool} {held : Bool} {fuel : Nat} {cs : List Value} {x : DataW H × List MemPlace} (hl : cs.length = 16)
    (h : DataW.trod enc Try.prog w base spare held fuel 23 cs = some x) : ∃ k : K16, ∀ j, j < 16 → cs[j]? = some (.int .u8 (kb k.1 j)) := by
  obtain ⟨xs, m, _, hx, hlen, hxl, hel⟩ := DataW.trod_array und23 h
  have hcell : ∀ i, i < 16 → ∃ b : UInt8, cs[i]? = some (.int .u8 b.toNat) := fun i hi => by
    have h1 := hel i hi
    have hxi : xs[i]? = some (xs[i]'(by omega)) := List.getElem?_eq_getElem (by omega)
    rw [hxi, cells5, Nat.mul_one] at h1
    obtain ⟨z, hz, _, hw⟩ := DataW.trod_int Try.underlying5 h1
    have hz' : cs[i]? = some (.int .u8 z) := by
      have := congrArg (·[0]?) hz
      simpa using this
    have hb := bounds_u8 hw
    refine ⟨UInt8.ofNat z.toNat, ?_⟩
    have e : ((UInt8.ofNat z.toNat).toNat : Int) = z := by
      rw [UInt8.toNat_ofNat']
      omega
    rw [e]
    exact hz'
  refine ⟨⟨(List.range 16).map fun i => match cs[i]? with | some (Value.int _ b) => UInt8.ofNat b.toNat | _ => 0, by simp⟩, fun j hj => ?_⟩
  obtain ⟨b, hb⟩ := hcell j hj
  rw [hb]
  simp [kb, List.getD_eq_getElem?_getD, hj, hb]
theorem rows_k {R : Nat → K16 → Prop} : ∀ (n : Nat), (∀ i, i < n → ∃ y, R i y) → ∃ l : List K16, l.length = n ∧ ∀ i y, l[i]? = some y → R i y
  | 0, _ => ⟨[], rfl, fun i y h => by simp at h⟩
  | n + 1, h => by
    obtain ⟨l, hl, hr⟩ := rows_k n (fun i hi => h i (by omega))
    obtain ⟨y, hy⟩ := h n (by omega)
    refine ⟨l ++ [y], by simp [hl], fun i z hz => ?_⟩
    rcases Nat.lt_or_ge i n with hi | hi
    · exact hr i z (by rwa [List.getElem?_append_left (by omega)] at hz)
    · rw [List.getElem?_append_right (by omega)] at hz
      have : i = n := by
        have := (List.getElem?_eq_some_iff.mp hz).1
        simp at this
        omega
      subst this
      rw [hl, Nat.sub_self] at hz
      obtain rfl : y = z := by simpa using hz
      exact hy
theorem open_keys {H : Type} {enc : TypeId × Value → H} {W : World} {r : Reach} {b0 base : Nat} {held : Bool} {v : Value} {x : DataW H} {p : List MemPlace}
    (hv : Value.okWide Try.prog W r b0 35 v) (hx : DataW.Trod enc Try.prog W base (fun _ => true) held 35 v x p) :
    ∃ a : Option Addr × Nat × List K16, v = .slice a.1 a.2.2.length a.2.1 ∧ a.2.2.length ≤ a.2.1 ∧ KAt W a.1 a.2.2 := by
  obtain ⟨a, len, cap, rfl⟩ := okWide_slice Try.underlying35 hv
  obtain ⟨fuel, hf⟩ := hx
  rcases open_slice Try.underlying35 hf with ⟨hc, _⟩ | ⟨ad, len2, cap2, m, n, D, Pl, hc, hb, hl, hm, hmm, _, hel⟩
  · simp [Value.cells] at hc
    obtain ⟨rfl, rfl, rfl⟩ := hc
    exact ⟨(none, 0, []), rfl, Nat.le_refl _, fun h => absurd h (by simp)⟩
  · simp [Value.cells] at hc
    obtain ⟨rfl, rfl, rfl⟩ := hc
    have hmm' : m = cap := by simpa using hmm
    subst hmm'
    obtain ⟨l, hlen, hl2⟩ := rows_k (R := fun i y => ∀ j, j < 16 → W.cell? (ad.add (i * 16 + j)) = some (.int .u8 (kb y.1 j))) len (fun i hi => by
      obtain ⟨cs', h1, h2⟩ := hel i (by omega)
      rw [cells23] at h1
      obtain ⟨_, h4, h5⟩ := World.cells?_some h1
      obtain ⟨y, hy⟩ := key_cells h4 h2
      refine ⟨y, fun j hj => ?_⟩
      rw [← add_add, h5 j hj]
      exact hy j hj)
    refine ⟨(some ad, m, l), by rw [← hlen], by show l.length ≤ m; omega, fun hpos => ?_⟩
    have hpos : 0 < l.length := hpos
    have h0 := hl2 0 l[0] (List.getElem?_eq_getElem hpos) 0 (by omega)
    have e0 : ad.add (0 * 16 + 0) = ad := rfl
    rw [e0] at h0
    have hs : ad.spot = none := by
      cases hs : ad.spot with
      | none => rfl
      | some z =>
        unfold World.cell? at h0
        split at h0
        · rw [hs] at h0; simp at h0
        · cases h0
    obtain ⟨b, off, sp⟩ := ad
    subst hs
    refine ⟨b, off, rfl, World.block_lt_of_cell? W _ h0, fun t u ht => ?_⟩
    have hm16 : t % 16 < 16 := Nat.mod_lt _ (by omega)
    have et : t = t / 16 * 16 + t % 16 := by omega
    have hf2 := flat_get l (t / 16) (t % 16) hm16
    rw [← et, ht] at hf2
    have htl : t / 16 < l.length := by
      have : t < (flat l).length := (List.getElem?_eq_some_iff.mp ht).1
      rw [flat_len] at this
      omega
    rw [List.getElem?_eq_getElem htl] at hf2
    simp only [Option.bind_some] at hf2
    have h1 := hl2 (t / 16) _ (List.getElem?_eq_getElem htl) (t % 16) hm16
    rw [← et] at h1
    have h2 := kv_get l[t / 16].1 (t % 16) hm16
    rw [← Array.getElem?_toList] at h2
    have h3 : (encK l[t / 16])[t % 16]? = some (.int .u8 (kb l[t / 16].1 (t % 16))) := h2
    rw [h3] at hf2
    injection hf2 with hf2
    rw [hf2]
    rw [← addr_add]
    exact h1
end Go.Proofs.Ytnmnniknklfemaa
