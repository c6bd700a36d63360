/- The plain law of the examples. No condition. -/
import Derived.Test.YtbgdpkpljkcnfaaDoorQCivilx11
namespace Go.Proofs.YtbgdpkpljkcnfaaDoor.Cal
open Go.RowKit Go.Proofs.YtbgdpkpljkcnfaaDoor.QCivil
theorem known : hourglasslaw4_CivilKnown.Pure := ⟨200, by kernel_rfl⟩
end Go.Proofs.YtbgdpkpljkcnfaaDoor.Cal
