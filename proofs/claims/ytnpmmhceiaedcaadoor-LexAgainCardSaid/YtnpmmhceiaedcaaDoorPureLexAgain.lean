/- The plain statement of the law LexAgain. -/
import Derived.Test.YtnpmmhceiaedcaaDoorLexH
namespace Go.Proofs.YtnpmmhceiaedcaaDoor.Pure
open Go.Proofs.YtnpmmhceiaedcaaDoor.PA
theorem LexAgain : gudgeonlaw05_LexAgain.Pure := Go.Proofs.YtnpmmhceiaedcaaDoor.X.LexAgain
end Go.Proofs.YtnpmmhceiaedcaaDoor.Pure
