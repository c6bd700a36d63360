import Derived.Test.YtfebebjopjopcaaQMidx4
import Derived.Test.YtfebebjopjopcaaMiddle
namespace Go.Proofs.Ytfebebjopjopcaa.Pure
open Go.RowKit Go.Proofs.Ytfebebjopjopcaa.QMid Go.Proofs.YtfebebjopjopcaaW.PrintWords Go.Proofs.YtfebebjopjopcaaW.PrintLast

/-- DiscMiddle answers true for every l. -/
theorem DiscMiddle : hourglasslaw7_DiscMiddle.Pure := middle

end Go.Proofs.Ytfebebjopjopcaa.Pure
