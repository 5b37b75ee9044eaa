/- The plain statement of the law NatDivides. -/
import Derived.Test.YtlfpnohpcemkgaaDoorNatLDivides
namespace Go.Proofs.YtlfpnohpcemkgaaDoor.Pure
open Go.Proofs.YtlfpnohpcemkgaaDoor.PA
theorem NatDivides : gudgeonlaw01_NatDivides.Pure := Go.Proofs.YtlfpnohpcemkgaaDoor.S.NatDivides
end Go.Proofs.YtlfpnohpcemkgaaDoor.Pure
