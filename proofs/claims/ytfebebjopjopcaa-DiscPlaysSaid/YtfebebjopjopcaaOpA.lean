/- A slice of acts that came in is a list of acts, told as shared. No condition. -/
import Derived.Test.YtfebebjopjopcaaOp
import Derived.Test.YtfebebjopjopcaaQRsx0
namespace Go.Proofs.Ytfebebjopjopcaa.QRs
open Go.ChangeShapes Go.WideShapes Go.ChangeAt Go.RowKit Go.Proofs.Ytfebebjopjopcaa.Op Go.Proofs.YtfebebjopjopcaaW.PrintWords
theorem op29 : Opens Try.prog 29 k29 (fun _ => True) :=
  opens_imp (opens_iso (opens_struct Try.underlying29 (by kernel_rfl) (opensF_cons (opens_int Try.underlying2) rfl (by kernel_rfl) (opensF_last (opens_int Try.underlying5) rfl (by kernel_rfl)))) _ (fun y => ⟨y.1, y.2⟩) (fun _ => rfl)) (fun _ _ => trivial)
theorem op40 : Opens Try.prog 40 k40 (fun _ => True) :=
  opens_imp (opens_iso (opens_struct Try.underlying40 (by kernel_rfl) (opensF_cons (opens_int Try.underlying3) rfl (by kernel_rfl) (opensF_cons (opens_int Try.underlying2) rfl (by kernel_rfl) (opensF_cons (opens_slice Try.underlying33 (by kernel_rfl) (opens_int Try.underlying2)) rfl (by kernel_rfl) (opensF_last op29 rfl (by kernel_rfl)))))) _ (fun y => ⟨y.1, y.2.1, y.2.2.1, y.2.2.2⟩) (fun _ => rfl)) (fun _ _ => trivial)
theorem open_acts {H : Type} {enc : TypeId × Value → H} {W : World} {r : Reach} {b0 base : Nat} {held : Bool} {v : Value} {x : DataW H} {p : List MemPlace}
    (hv : Value.okWide Try.prog W r b0 38 v) (hx : DataW.Trod enc Try.prog W base (fun _ => true) held 38 v x p) :
    ∃ a : Option Addr × Nat × List S40, v = .slice a.1 a.2.2.length a.2.1 ∧ (a.2.2.length ≤ a.2.1 ∧ Kd.C k40 W a.1 a.2.2.length a.2.2) := by
  obtain ⟨a, h1, h2, _⟩ := came_slice (e' := 40) Try.underlying38 (opens_slice Try.underlying38 (by kernel_rfl) op40) hv hx
  exact ⟨a, h1, h2⟩
end Go.Proofs.Ytfebebjopjopcaa.QRs
