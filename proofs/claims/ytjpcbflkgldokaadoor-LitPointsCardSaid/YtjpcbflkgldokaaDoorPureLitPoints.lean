/- The plain statement of the law LitPoints. -/
import Derived.Test.YtjpcbflkgldokaaDoorLitB
namespace Go.Proofs.YtjpcbflkgldokaaDoor.Pure
open Go.Proofs.YtjpcbflkgldokaaDoor.PA
theorem LitPoints : gudgeonlaw07_LitPoints.Pure := Go.Proofs.YtjpcbflkgldokaaDoor.S.LitPoints
end Go.Proofs.YtjpcbflkgldokaaDoor.Pure
