/- The plain statement of the law LexRemarks. -/
import Derived.Test.YtnpmmhceiaedcaaLexE
namespace Go.Proofs.Ytnpmmhceiaedcaa.Pure
open Go.Proofs.Ytnpmmhceiaedcaa.PA
theorem LexRemarks : gudgeonlaw05_LexRemarks.Pure := Go.Proofs.Ytnpmmhceiaedcaa.X.LexRemarks
end Go.Proofs.Ytnpmmhceiaedcaa.Pure
