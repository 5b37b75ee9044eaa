/- The plain statement of the law LexHeads. -/
import Derived.Test.YtnpmmhceiaedcaaLexE
namespace Go.Proofs.Ytnpmmhceiaedcaa.Pure
open Go.Proofs.Ytnpmmhceiaedcaa.PA
theorem LexHeads : gudgeonlaw05_LexHeads.Pure := Go.Proofs.Ytnpmmhceiaedcaa.X.LexHeads
end Go.Proofs.Ytnpmmhceiaedcaa.Pure
