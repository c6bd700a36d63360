/- A slice of structs that came in is a list of them, told as shared. No condition. -/
import Derived.Test.YtgkigcobaimccaaOp
import Derived.Test.YtgkigcobaimccaaProg
import Derived.KernelRfl
namespace Go.Proofs.Ytgkigcobaimccaa.K2
open Go.ChangeShapes Go.WideShapes Go.ChangeAt Go.RowKit Go.Proofs.Ytgkigcobaimccaa.Op Go.Proofs.YtgkigcobaimccaaW.PrintWords
set_option linter.unusedVariables false
/-! #### struct type 24 -/
structure S24 where
  f0 : Int
  f1 : Int
def z24 : S24 := ⟨(0 : Int), (0 : Int)⟩
def k24 : Kd S24 := Kd.iso (Kd.pair (Kd.int .i64) (Kd.int .u8)) (fun x : S24 => (x.f0, x.f1))
theorem k24_open {w : World} {x : S24} {cs : List Value} (h : k24.K w x cs) : cs = [.int .i64 x.f0, .int .u8 x.f1] := by
  obtain ⟨_, _, rfl, rfl, rfl⟩ := h
  exact rfl
theorem k24_openM {w : World} {base : Nat} {ok : Nat → Prop} {x : S24} {cs : List Value} (h : k24.M w base ok x cs) : cs = [.int .i64 x.f0, .int .u8 x.f1] := by
  obtain ⟨_, _, rfl, rfl, rfl⟩ := h
  exact rfl
theorem k24_mk (w : World) (x : S24)  : k24.K w x [.int .i64 x.f0, .int .u8 x.f1] := ⟨[.int .i64 x.f0], [.int .u8 x.f1], rfl, rfl, rfl⟩
theorem k24_mkM (w : World) (base : Nat) (ok : Nat → Prop) (x : S24)  : k24.M w base ok x [.int .i64 x.f0, .int .u8 x.f1] := ⟨[.int .i64 x.f0], [.int .u8 x.f1], rfl, rfl, rfl⟩
def rd_T24 (xs : List S24) (i : Int) : S24 := xs.getD i.toNat z24
theorem at_T24 {w : World} {A : Option Addr} {n : Nat} {xs : List S24} (h : Kd.C k24 w A n xs) (i : Int) (h0 : 0 ≤ i) (h1 : i < n) : ∃ ad , A = some ad ∧ w.cell? (ad.add (i.toNat * 2)) = some (.int .i64 (rd_T24 xs i).f0) ∧ w.cell? ⟨(ad.add (i.toNat * 2)).block, (ad.add (i.toNat * 2)).off + 1, none⟩ = some (.int .u8 (rd_T24 xs i).f1) := by
  obtain ⟨ad, c, e, _, hK, hc0⟩ := Kd.C_get h z24 i h0 h1
  have hc : ∀ j u, c[j]? = some u → w.cell? (ad.add (i.toNat * 2 + j)) = some u := hc0
  obtain rfl := k24_open hK
  exact ⟨ad, e, hc 0 _ rfl, by rw [← add_field _ _ 1 (by omega)]; exact hc 1 _ rfl⟩

/-! #### struct type 30 -/
structure S30 where
  f0 : S24
  f1 : ByteArray
  f2 : Bool
def z30 : S30 := ⟨z24, (⟨#[]⟩ : ByteArray), false⟩
def k30 : Kd S30 := Kd.iso (Kd.pair k24 (Kd.pair Kd.string Kd.bool)) (fun x : S30 => (x.f0, x.f1, x.f2))
theorem k30_open {w : World} {x : S30} {cs : List Value} (h : k30.K w x cs) : cs = [.int .i64 x.f0.f0, .int .u8 x.f0.f1, .string x.f1, .bool x.f2] := by
  obtain ⟨_, _, rfl, s0, ⟨_, _, rfl, rfl, rfl⟩⟩ := h
  obtain rfl := k24_open s0
  exact rfl
theorem k30_openM {w : World} {base : Nat} {ok : Nat → Prop} {x : S30} {cs : List Value} (h : k30.M w base ok x cs) : cs = [.int .i64 x.f0.f0, .int .u8 x.f0.f1, .string x.f1, .bool x.f2] := by
  obtain ⟨_, _, rfl, s0, ⟨_, _, rfl, rfl, rfl⟩⟩ := h
  obtain rfl := k24_openM s0
  exact rfl
theorem k30_mk (w : World) (x : S30)  : k30.K w x [.int .i64 x.f0.f0, .int .u8 x.f0.f1, .string x.f1, .bool x.f2] := ⟨[.int .i64 x.f0.f0, .int .u8 x.f0.f1], [.string x.f1, .bool x.f2], rfl, (k24_mk w x.f0 ), ⟨[.string x.f1], [.bool x.f2], rfl, rfl, rfl⟩⟩
theorem k30_mkM (w : World) (base : Nat) (ok : Nat → Prop) (x : S30)  : k30.M w base ok x [.int .i64 x.f0.f0, .int .u8 x.f0.f1, .string x.f1, .bool x.f2] := ⟨[.int .i64 x.f0.f0, .int .u8 x.f0.f1], [.string x.f1, .bool x.f2], rfl, (k24_mkM w base ok x.f0 ), ⟨[.string x.f1], [.bool x.f2], rfl, rfl, rfl⟩⟩
def rd_T30 (xs : List S30) (i : Int) : S30 := xs.getD i.toNat z30
theorem at_T30 {w : World} {A : Option Addr} {n : Nat} {xs : List S30} (h : Kd.C k30 w A n xs) (i : Int) (h0 : 0 ≤ i) (h1 : i < n) : ∃ ad , A = some ad ∧ w.cell? (ad.add (i.toNat * 4)) = some (.int .i64 (rd_T30 xs i).f0.f0) ∧ w.cell? ⟨(ad.add (i.toNat * 4)).block, (ad.add (i.toNat * 4)).off + 1, none⟩ = some (.int .u8 (rd_T30 xs i).f0.f1) ∧ w.cell? ⟨(ad.add (i.toNat * 4)).block, (ad.add (i.toNat * 4)).off + 2, none⟩ = some (.string (rd_T30 xs i).f1) ∧ w.cell? ⟨(ad.add (i.toNat * 4)).block, (ad.add (i.toNat * 4)).off + 3, none⟩ = some (.bool (rd_T30 xs i).f2) := by
  obtain ⟨ad, c, e, _, hK, hc0⟩ := Kd.C_get h z30 i h0 h1
  have hc : ∀ j u, c[j]? = some u → w.cell? (ad.add (i.toNat * 4 + j)) = some u := hc0
  obtain rfl := k30_open hK
  exact ⟨ad, e, hc 0 _ rfl, by rw [← add_field _ _ 1 (by omega)]; exact hc 1 _ rfl, by rw [← add_field _ _ 2 (by omega)]; exact hc 2 _ rfl, by rw [← add_field _ _ 3 (by omega)]; exact hc 3 _ rfl⟩

/-! #### struct type 55 -/
structure S55 where
  f0 : Int
  f1 : S30
def z55 : S55 := ⟨(0 : Int), z30⟩
def k55 : Kd S55 := Kd.iso (Kd.pair (Kd.int .i64) k30) (fun x : S55 => (x.f0, x.f1))
theorem k55_open {w : World} {x : S55} {cs : List Value} (h : k55.K w x cs) : cs = [.int .i64 x.f0, .int .i64 x.f1.f0.f0, .int .u8 x.f1.f0.f1, .string x.f1.f1, .bool x.f1.f2] := by
  obtain ⟨_, _, rfl, rfl, s1⟩ := h
  obtain rfl := k30_open s1
  exact rfl
theorem k55_openM {w : World} {base : Nat} {ok : Nat → Prop} {x : S55} {cs : List Value} (h : k55.M w base ok x cs) : cs = [.int .i64 x.f0, .int .i64 x.f1.f0.f0, .int .u8 x.f1.f0.f1, .string x.f1.f1, .bool x.f1.f2] := by
  obtain ⟨_, _, rfl, rfl, s1⟩ := h
  obtain rfl := k30_openM s1
  exact rfl
theorem k55_mk (w : World) (x : S55)  : k55.K w x [.int .i64 x.f0, .int .i64 x.f1.f0.f0, .int .u8 x.f1.f0.f1, .string x.f1.f1, .bool x.f1.f2] := ⟨[.int .i64 x.f0], [.int .i64 x.f1.f0.f0, .int .u8 x.f1.f0.f1, .string x.f1.f1, .bool x.f1.f2], rfl, rfl, (k30_mk w x.f1 )⟩
theorem k55_mkM (w : World) (base : Nat) (ok : Nat → Prop) (x : S55)  : k55.M w base ok x [.int .i64 x.f0, .int .i64 x.f1.f0.f0, .int .u8 x.f1.f0.f1, .string x.f1.f1, .bool x.f1.f2] := ⟨[.int .i64 x.f0], [.int .i64 x.f1.f0.f0, .int .u8 x.f1.f0.f1, .string x.f1.f1, .bool x.f1.f2], rfl, rfl, (k30_mkM w base ok x.f1 )⟩
def rd_T55 (xs : List S55) (i : Int) : S55 := xs.getD i.toNat z55
theorem at_T55 {w : World} {A : Option Addr} {n : Nat} {xs : List S55} (h : Kd.C k55 w A n xs) (i : Int) (h0 : 0 ≤ i) (h1 : i < n) : ∃ ad , A = some ad ∧ w.cell? (ad.add (i.toNat * 5)) = some (.int .i64 (rd_T55 xs i).f0) ∧ w.cell? ⟨(ad.add (i.toNat * 5)).block, (ad.add (i.toNat * 5)).off + 1, none⟩ = some (.int .i64 (rd_T55 xs i).f1.f0.f0) ∧ w.cell? ⟨(ad.add (i.toNat * 5)).block, (ad.add (i.toNat * 5)).off + 2, none⟩ = some (.int .u8 (rd_T55 xs i).f1.f0.f1) ∧ w.cell? ⟨(ad.add (i.toNat * 5)).block, (ad.add (i.toNat * 5)).off + 3, none⟩ = some (.string (rd_T55 xs i).f1.f1) ∧ w.cell? ⟨(ad.add (i.toNat * 5)).block, (ad.add (i.toNat * 5)).off + 4, none⟩ = some (.bool (rd_T55 xs i).f1.f2) := by
  obtain ⟨ad, c, e, _, hK, hc0⟩ := Kd.C_get h z55 i h0 h1
  have hc : ∀ j u, c[j]? = some u → w.cell? (ad.add (i.toNat * 5 + j)) = some u := hc0
  obtain rfl := k55_open hK
  exact ⟨ad, e, hc 0 _ rfl, by rw [← add_field _ _ 1 (by omega)]; exact hc 1 _ rfl, by rw [← add_field _ _ 2 (by omega)]; exact hc 2 _ rfl, by rw [← add_field _ _ 3 (by omega)]; exact hc 3 _ rfl, by rw [← add_field _ _ 4 (by omega)]; exact hc 4 _ rfl⟩

abbrev P24 : S24 → Prop := fun x => (Lit.int .i64 x.f0).wf = true ∧ (Lit.int .u8 x.f1).wf = true
theorem op24 : Opens Try.prog 24 k24 P24 :=
  opens_imp (opens_iso (opens_struct Try.underlying24 (by kernel_rfl) (opensF_cons (opens_int Try.underlying2) rfl (by kernel_rfl) (opensF_last (opens_int Try.underlying5) rfl (by kernel_rfl)))) _ (fun y => ⟨y.1, y.2⟩) (fun _ => rfl)) (fun _ h => by simp_all [P24])
abbrev P30 : S30 → Prop := fun x => True ∧ x.f1.size ≤ maxLen ∧ True
theorem op30 : Opens Try.prog 30 k30 P30 :=
  opens_imp (opens_iso (opens_struct Try.underlying30 (by kernel_rfl) (opensF_cons op24 rfl (by kernel_rfl) (opensF_cons (opens_string Try.underlying9) rfl (by kernel_rfl) (opensF_last (opens_bool Try.underlying4) rfl (by kernel_rfl))))) _ (fun y => ⟨y.1, y.2.1, y.2.2⟩) (fun _ => rfl)) (fun _ h => by simp_all [P30])
abbrev P55 : S55 → Prop := fun x => (Lit.int .i64 x.f0).wf = true ∧ True
theorem op55 : Opens Try.prog 55 k55 P55 :=
  opens_imp (opens_iso (opens_struct Try.underlying55 (by kernel_rfl) (opensF_cons (opens_int Try.underlying3) rfl (by kernel_rfl) (opensF_last op30 rfl (by kernel_rfl)))) _ (fun y => ⟨y.1, y.2⟩) (fun _ => rfl)) (fun _ h => by simp_all [P55])
theorem open_acts {H : Type} {enc : TypeId × Value → H} {W : World} {r : Reach} {b0 base : Nat} {held : Bool} {v : Value} {x : DataW H} {p : List MemPlace}
    (hv : Value.okWide Try.prog W r b0 53 v) (hx : DataW.Trod enc Try.prog W base (fun _ => true) held 53 v x p) :
    ∃ a : Option Addr × Nat × List S55, v = .slice a.1 a.2.2.length a.2.1 ∧ (a.2.2.length ≤ a.2.1 ∧ Kd.C k55 W a.1 a.2.2.length a.2.2) ∧ ∀ y ∈ a.2.2, P55 y :=
  came_slice (e' := 55) Try.underlying53 (opens_slice Try.underlying53 (by kernel_rfl) op55) hv hx
end Go.Proofs.Ytgkigcobaimccaa.K2
