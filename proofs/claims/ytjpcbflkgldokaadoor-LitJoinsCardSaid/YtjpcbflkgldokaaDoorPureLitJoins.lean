/- The plain statement of the law LitJoins. -/
import Derived.Test.YtjpcbflkgldokaaDoorLitA
namespace Go.Proofs.YtjpcbflkgldokaaDoor.Pure
open Go.Proofs.YtjpcbflkgldokaaDoor.PA
theorem LitJoins : gudgeonlaw07_LitJoins.Pure := Go.Proofs.YtjpcbflkgldokaaDoor.S.LitJoins
end Go.Proofs.YtjpcbflkgldokaaDoor.Pure
