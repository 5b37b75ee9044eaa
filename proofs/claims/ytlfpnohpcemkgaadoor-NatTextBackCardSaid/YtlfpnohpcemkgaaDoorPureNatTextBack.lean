/- The plain statement of the law NatTextBack. -/
import Derived.Test.YtlfpnohpcemkgaaDoorNatLTextBack
namespace Go.Proofs.YtlfpnohpcemkgaaDoor.Pure
open Go.Proofs.YtlfpnohpcemkgaaDoor.PA
theorem NatTextBack : gudgeonlaw01_NatTextBack.Pure := Go.Proofs.YtlfpnohpcemkgaaDoor.S.NatTextBack
end Go.Proofs.YtlfpnohpcemkgaaDoor.Pure
