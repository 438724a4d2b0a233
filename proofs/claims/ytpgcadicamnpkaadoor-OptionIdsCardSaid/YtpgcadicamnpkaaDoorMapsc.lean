/- Walks over the package maps: what reads one pair, one multi, one entry. Conditions: lengths up to 2^47. (written by gen_mapsget1.py) -/
import Derived.Test.YtpgcadicamnpkaaDoorMapsb
set_option linter.unusedVariables false
set_option linter.unusedSimpArgs false
namespace Go.Proofs.Sb
open Go.RowKit _root_.Sb

theorem str_nil : str [] = ⟨#[]⟩ := rfl

end Go.Proofs.Sb
