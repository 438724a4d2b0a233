/- Walks over the package maps. Conditions: lengths up to 2^47. -/
import Derived.Test.YtenhgcgdhaegaaaDoorArr
import Derived.Test.YtenhgcgdhaegaaaDoorPlain
import Derived.Test.YtenhgcgdhaegaaaDoorPrims
set_option linter.unusedVariables false
set_option linter.unusedSimpArgs false
namespace Go.Proofs.Sb
open Go.RowKit _root_.Sb

/-- a string's cell -/
def strP (s : B) (v : List Value) : Prop := v = [.string (str s)] ∧ s.length ≤ 9223372036854775807
theorem strP_one (s : B) (v : List Value) (h : strP s v) : ∀ u ∈ v, u.oneCell' = true := by
  rw [h.1]
  intro u hu
  simp at hu
  rw [hu]
  rfl
theorem tyStr : Ty 59 9 1 16 (.string ByteArray.empty) := ⟨Tryd.underlying59, by kernel_rfl, rfl, by decide⟩

end Go.Proofs.Sb
