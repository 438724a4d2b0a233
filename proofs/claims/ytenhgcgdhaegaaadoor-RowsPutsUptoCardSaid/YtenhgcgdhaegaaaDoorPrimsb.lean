/- Walks over prims.length, Inet, GetInet, GetConsistency. Conditions: lengths up to 2^47. -/
import Derived.Test.YtenhgcgdhaegaaaDoorPrims
import Derived.Test.YtenhgcgdhaegaaaDoorRole
import Derived.Test.YtenhgcgdhaegaaaDoorConcat
set_option linter.unusedVariables false
set_option linter.unusedSimpArgs false
namespace Go.Proofs.Sb
open Go.RowKit _root_.Sb

end Go.Proofs.Sb
