/- The plain statement of the law LitTextBack. -/
import Derived.Test.YtjpcbflkgldokaaDoorLitE
namespace Go.Proofs.YtjpcbflkgldokaaDoor.Pure
open Go.Proofs.YtjpcbflkgldokaaDoor.PA
theorem LitTextBack : gudgeonlaw07_LitTextBack.Pure := Go.Proofs.YtjpcbflkgldokaaDoor.S.LitTextBack
end Go.Proofs.YtjpcbflkgldokaaDoor.Pure
