/- The plain statement of the law NatOrder. -/
import Derived.Test.YtlfpnohpcemkgaaDoorNatLOrder
namespace Go.Proofs.YtlfpnohpcemkgaaDoor.Pure
open Go.Proofs.YtlfpnohpcemkgaaDoor.PA
theorem NatOrder : gudgeonlaw01_NatOrder.Pure := Go.Proofs.YtlfpnohpcemkgaaDoor.S.NatOrder
end Go.Proofs.YtlfpnohpcemkgaaDoor.Pure
