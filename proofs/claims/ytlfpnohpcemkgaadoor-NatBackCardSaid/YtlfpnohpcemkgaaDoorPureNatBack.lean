/- The plain statement of the law NatBack. -/
import Derived.Test.YtlfpnohpcemkgaaDoorNatLBack
namespace Go.Proofs.YtlfpnohpcemkgaaDoor.Pure
open Go.Proofs.YtlfpnohpcemkgaaDoor.PA
theorem NatBack : gudgeonlaw01_NatBack.Pure := Go.Proofs.YtlfpnohpcemkgaaDoor.S.NatBack
end Go.Proofs.YtlfpnohpcemkgaaDoor.Pure
