/- The plain statement of the law LitBack. -/
import Derived.Test.YtjpcbflkgldokaaDoorLitA
namespace Go.Proofs.YtjpcbflkgldokaaDoor.Pure
open Go.Proofs.YtjpcbflkgldokaaDoor.PA
theorem LitBack : gudgeonlaw07_LitBack.Pure := Go.Proofs.YtjpcbflkgldokaaDoor.S.LitBack
end Go.Proofs.YtjpcbflkgldokaaDoor.Pure
