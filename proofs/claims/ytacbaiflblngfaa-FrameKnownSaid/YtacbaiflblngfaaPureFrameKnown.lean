/- The plain law of the examples. No condition. -/
import Derived.Test.YtacbaiflblngfaaPl
namespace Go.Proofs.Ytacbaiflblngfaa.Pure
open Go.RowKit Go.Proofs.Ytacbaiflblngfaa.QFrame
theorem FrameKnown : hourglasslaw3_FrameKnown.Pure := Pl.known
end Go.Proofs.Ytacbaiflblngfaa.Pure
