/- The plain statement of the law LitEscapes. -/
import Derived.Test.YtjpcbflkgldokaaDoorLitC
namespace Go.Proofs.YtjpcbflkgldokaaDoor.Pure
open Go.Proofs.YtjpcbflkgldokaaDoor.PA
theorem LitEscapes : gudgeonlaw07_LitEscapes.Pure := Go.Proofs.YtjpcbflkgldokaaDoor.S.LitEscapes
end Go.Proofs.YtjpcbflkgldokaaDoor.Pure
