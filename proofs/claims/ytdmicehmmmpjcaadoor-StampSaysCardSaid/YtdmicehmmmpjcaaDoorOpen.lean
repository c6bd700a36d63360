/- A stamp that came in is its two numbers, each within its kind. No condition. -/
import Derived.Test.YtdmicehmmmpjcaaDoorCmp
import Derived.OpenShut
import Derived.ProofKit
import Derived.Lib.SmallJoins
namespace Go.Proofs.YtdmicehmmmpjcaaDoor
open Go.ChangeShapes Go.WideShapes Go.ChangeAt Go.RowKit Go.Joins
theorem cells23 : Tryd.prog.cellsOf 23 = 2 := by kernel_rfl
theorem open_stamp {H : Type} {enc : TypeId × Value → H} {W : World} {r : Reach} {b0 base : Nat} {spare : Nat → Bool} {held : Bool} {v : Value} {d : DataW H} {p : List MemPlace}
    (hv : Value.okWide Tryd.prog W r b0 23 v) (h : DataW.Trod enc Tryd.prog W base spare held 23 v d p) :
    ∃ x : Int × Int, v = .agg #[.int .i64 x.1, .int .u8 x.2] ∧ (-9223372036854775808 ≤ x.1 ∧ x.1 ≤ 9223372036854775807) ∧ (0 ≤ x.2 ∧ x.2 ≤ 255) := by
  obtain ⟨v0, v1, y0, y1, n, rfl, _, _, h0, h1⟩ := open_agg2 Tryd.underlying23 (by kernel_rfl) cells23 hv h
  obtain ⟨z0, hz0, _, hw0⟩ := DataW.trod_int Tryd.underlying2 h0
  obtain ⟨z1, hz1, _, hw1⟩ := DataW.trod_int Tryd.underlying5 h1
  simp only [List.cons.injEq, and_true] at hz0 hz1
  subst hz0
  subst hz1
  exact ⟨(z0, z1), rfl, bounds_i64 hw0, bounds_u8 hw1⟩
end Go.Proofs.YtdmicehmmmpjcaaDoor
