/- A slice of acts that came in is a list of them. No condition. -/
import Derived.Test.YtocpelkgiebkjaaOb
import Derived.Deep.Slices
namespace Go.Proofs.Ytocpelkgiebkjaa
open Go.ChangeShapes Go.WideShapes Go.ChangeAt Go.RowKit Go.Deep Go.Proofs.Ytocpelkgiebkjaa.Sp
set_option linter.unusedVariables false
set_option linter.unusedSimpArgs false
structure Act8 where
  op : Int
  n : Int
  bt : UInt8
  s : ByteArray
  t : ByteArray
  b : List UInt8
def actC (a : Act8) (A : Option Addr) (c : Nat) : Array Value := #[.int .i64 a.op, .int .i64 a.n, .int .u8 (a.bt.toNat : Nat), .string a.s, .string a.t, .slice A a.b.length c]
theorem cells48 : Try.prog.cellsOf 48 = 6 := by kernel_rfl
theorem cells3 : Try.prog.cellsOf 3 = 1 := by kernel_rfl
theorem cells9 : Try.prog.cellsOf 9 = 1 := by kernel_rfl
theorem trod_string' {H : Type} {enc : TypeId × Value → H} {w : World} {base : Nat} {held : Bool} {fuel : Nat} {cs : List Value} {x : DataW H × List MemPlace} (h : DataW.trod enc Try.prog w base (fun _ => true) held fuel 9 cs = some x) : ∃ s : ByteArray, cs = [.string s] ∧ s.size ≤ maxLen := by
  cases fuel with
  | zero => simp [DataW.trod] at h
  | succ n =>
    unfold DataW.trod at h
    rw [Try.underlying9] at h
    split at h <;> simp_all
theorem trod_bytes {H : Type} {enc : TypeId × Value → H} {w : World} {base : Nat} {held : Bool} {fuel : Nat} {cs : List Value} {x : DataW H × List MemPlace} (h : DataW.trod enc Try.prog w base (fun _ => true) held fuel 28 cs = some x) : ∃ (A : Option Addr) (c : Nat) (b : List UInt8), cs = [.slice A b.length c] ∧ InB w A c b := by
  rcases open_ints Try.underlying28 Try.underlying5 cells5 h with ⟨hcs, _⟩ | ⟨ad, n, c, zs, hcs, _, hl, hm, hz, _, hc, hw⟩
  · exact ⟨none, 0, [], hcs, fun _ => rfl, Nat.le_refl _, by decide, rfl, fun _ => rfl, fun _ h => by cases h⟩
  · have hz2 : zs.length = c := hz
    obtain ⟨e, hI⟩ := InB.of (W := w) (A := some ad) (len := n) (cap := c) (zs := zs) (fun h => by cases h) hl hm hz2 hw (fun a ha i hi => by injection ha with ha; subst ha; exact hc i (by omega))
    exact ⟨some ad, c, toB (zs.take n), by rw [hcs, e], hI⟩
theorem trod_act {H : Type} {enc : TypeId × Value → H} {w : World} {base : Nat} {held : Bool} {fuel : Nat} {cs : List Value} {x : DataW H × List MemPlace} (hl : cs.length = 6) (h : DataW.trod enc Try.prog w base (fun _ => true) held fuel 48 cs = some x) :
    ∃ (a : Act8) (A : Option Addr) (c : Nat), cs = (actC a A c).toList ∧ a.s.size ≤ maxLen ∧ a.t.size ≤ maxLen ∧ InB w A c a.b := by
  cases fuel with
  | zero => simp [DataW.trod] at h
  | succ n =>
    unfold DataW.trod at h
    rw [Try.underlying48] at h
    simp only at h
    split at h
    · obtain ⟨xs, hm, _⟩ := Option.map_eq_some_iff.mp h
      clear h
      obtain ⟨c0, c1, c2, c3, c4, c5, rfl⟩ : ∃ c0 c1 c2 c3 c4 c5, cs = [c0, c1, c2, c3, c4, c5] := by
        match cs, hl with
        | [a, b, c, d, e, f], _ => exact ⟨a, b, c, d, e, f, rfl⟩
      simp only [List.mapM_cons, List.mapM_nil, cells3, cells5, cells9, cells28, List.drop_zero, List.drop_succ_cons, List.take_succ_cons, List.take_zero, Option.bind_eq_bind, Option.bind_eq_some_iff] at hm
      obtain ⟨y0, h0, l0, ⟨y1, h1, l1, ⟨y2, h2, l2, ⟨y3, h3, l3, ⟨y4, h4, l4, ⟨y5, h5, _⟩, _⟩, _⟩, _⟩, _⟩, _⟩ := hm
      obtain ⟨z0, e0, _, _⟩ := DataW.trod_int Try.underlying3 h0
      obtain ⟨z1, e1, _, _⟩ := DataW.trod_int Try.underlying3 h1
      obtain ⟨z2, e2, _, w2⟩ := DataW.trod_int Try.underlying5 h2
      obtain ⟨s3, e3, w3⟩ := trod_string' h3
      obtain ⟨s4, e4, w4⟩ := trod_string' h4
      obtain ⟨A, c, b, e5, w5⟩ := trod_bytes h5
      have hb := bounds_u8 w2
      injection e0 with e0; injection e1 with e1; injection e2 with e2; injection e3 with e3; injection e4 with e4; injection e5 with e5
      subst e0; subst e1; subst e2; subst e3; subst e4; subst e5
      refine ⟨⟨z0, z1, UInt8.ofNat z2.toNat, s3, s4, b⟩, A, c, ?_, w3, w4, w5⟩
      have e : (((UInt8.ofNat z2.toNat).toNat : Nat) : Int) = z2 := by
        rw [UInt8.toNat_ofNat']
        omega
      simp only [actC, e]
    · cases h
def ActAt (W : World) (A : Option Addr) (l : List Act8) : Prop := ∀ j a, l[j]? = some a → ∃ ad B c, A = some ad ∧ (∀ i v, (actC a B c)[i]? = some v → W.cell? (ad.add (j * 6 + i)) = some v) ∧ a.s.size ≤ maxLen ∧ a.t.size ≤ maxLen ∧ InB W B c a.b
theorem rows_a {R : Nat → Act8 → Prop} : ∀ (n : Nat), (∀ i, i < n → ∃ y, R i y) → ∃ l : List Act8, l.length = n ∧ ∀ i y, l[i]? = some y → R i y
  | 0, _ => ⟨[], rfl, fun i y h => by simp at h⟩
  | n + 1, h => by
    obtain ⟨l, hl, hr⟩ := rows_a n (fun i hi => h i (by omega))
    obtain ⟨y, hy⟩ := h n (by omega)
    refine ⟨l ++ [y], by simp [hl], fun i z hz => ?_⟩
    rcases Nat.lt_or_ge i n with hi | hi
    · exact hr i z (by rwa [List.getElem?_append_left (by omega)] at hz)
    · rw [List.getElem?_append_right (by omega)] at hz
      have : i = n := by
        have := (List.getElem?_eq_some_iff.mp hz).1
        simp at this
        omega
      subst this
      rw [hl, Nat.sub_self] at hz
      obtain rfl : y = z := by simpa using hz
      exact hy
theorem open_acts {H : Type} {enc : TypeId × Value → H} {W : World} {r : Reach} {b0 base : Nat} {held : Bool} {v : Value} {x : DataW H} {p : List MemPlace}
    (hv : Value.okWide Try.prog W r b0 42 v) (hx : DataW.Trod enc Try.prog W base (fun _ => true) held 42 v x p) :
    ∃ a : Option Addr × Nat × List Act8, v = .slice a.1 a.2.2.length a.2.1 ∧ a.2.2.length ≤ a.2.1 ∧ ActAt W a.1 a.2.2 := by
  obtain ⟨a, len, cap, rfl⟩ := okWide_slice Try.underlying42 hv
  obtain ⟨fuel, hf⟩ := hx
  rcases open_slice Try.underlying42 hf with ⟨hc, _⟩ | ⟨ad, len2, cap2, m, n, D, Pl, hc, hb, hl, hm, hmm, _, hel⟩
  · simp [Value.cells] at hc
    obtain ⟨rfl, rfl, rfl⟩ := hc
    exact ⟨(none, 0, []), rfl, Nat.le_refl _, fun j a h => by simp at h⟩
  · simp [Value.cells] at hc
    obtain ⟨rfl, rfl, rfl⟩ := hc
    have hmm' : m = cap := by simpa using hmm
    subst hmm'
    obtain ⟨l, hlen, hl2⟩ := rows_a (R := fun i y => ∃ B c, (∀ j v, (actC y B c)[j]? = some v → W.cell? (ad.add (i * 6 + j)) = some v) ∧ y.s.size ≤ maxLen ∧ y.t.size ≤ maxLen ∧ InB W B c y.b) len (fun i hi => by
      obtain ⟨cs', h1, h2⟩ := hel i (by omega)
      rw [cells48] at h1
      obtain ⟨_, h4, h5⟩ := World.cells?_some h1
      obtain ⟨y, B, c, e, w1, w2, w3⟩ := trod_act h4 h2
      refine ⟨y, B, c, fun j v hj => ?_, w1, w2, w3⟩
      have hj6 : j < 6 := (Array.getElem?_eq_some_iff.mp hj).1
      rw [← add_add, h5 j hj6, e, Array.getElem?_toList]
      exact hj)
    refine ⟨(some ad, m, l), by rw [← hlen], by show l.length ≤ m; omega, fun j a hj => ?_⟩
    obtain ⟨B, c, r1, r2, r3, r4⟩ := hl2 j a hj
    exact ⟨ad, B, c, rfl, r1, r2, r3, r4⟩
end Go.Proofs.Ytocpelkgiebkjaa
