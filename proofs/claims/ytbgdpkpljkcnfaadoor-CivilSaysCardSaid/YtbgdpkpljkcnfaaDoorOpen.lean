/- A date that came in is its three numbers, each within its kind. No condition. -/
import Derived.Test.YtbgdpkpljkcnfaaDoorProg
import Derived.WalkKit
import Derived.OpenShut
import Derived.ProofKit
import Derived.Lib.SmallJoins
namespace Go.Proofs.YtbgdpkpljkcnfaaDoor
open Go.ChangeShapes Go.WideShapes Go.ChangeAt Go.RowKit Go.Joins
theorem cells23 : Tryd.prog.cellsOf 23 = 3 := by kernel_rfl
theorem open_date {H : Type} {enc : TypeId × Value → H} {W : World} {r : Reach} {b0 base : Nat} {spare : Nat → Bool} {held : Bool} {v : Value} {d : DataW H} {p : List MemPlace}
    (hv : Value.okWide Tryd.prog W r b0 23 v) (h : DataW.Trod enc Tryd.prog W base spare held 23 v d p) :
    ∃ x : Int × Int × Int, v = .agg #[.int .i64 x.1, .int .i64 x.2.1, .int .i64 x.2.2] ∧ (Lit.int .i64 x.1).wf = true ∧ (Lit.int .i64 x.2.1).wf = true ∧ (Lit.int .i64 x.2.2).wf = true := by
  obtain ⟨v0, v1, v2, y0, y1, y2, n, rfl, _, _, h0, h1, h2⟩ := open_agg3 Tryd.underlying23 (by kernel_rfl) cells23 hv h
  obtain ⟨z0, hz0, _, hw0⟩ := DataW.trod_int Tryd.underlying3 h0
  obtain ⟨z1, hz1, _, hw1⟩ := DataW.trod_int Tryd.underlying3 h1
  obtain ⟨z2, hz2, _, hw2⟩ := DataW.trod_int Tryd.underlying3 h2
  simp only [List.cons.injEq, and_true] at hz0 hz1 hz2
  subst hz0
  subst hz1
  subst hz2
  exact ⟨(z0, z1, z2), rfl, hw0, hw1, hw2⟩
end Go.Proofs.YtbgdpkpljkcnfaaDoor
