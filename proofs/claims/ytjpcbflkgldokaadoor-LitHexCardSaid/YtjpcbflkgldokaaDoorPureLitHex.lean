/- The plain statement of the law LitHex. -/
import Derived.Test.YtjpcbflkgldokaaDoorLitD
namespace Go.Proofs.YtjpcbflkgldokaaDoor.Pure
open Go.Proofs.YtjpcbflkgldokaaDoor.PA
theorem LitHex : gudgeonlaw07_LitHex.Pure := Go.Proofs.YtjpcbflkgldokaaDoor.S.LitHex
end Go.Proofs.YtjpcbflkgldokaaDoor.Pure
