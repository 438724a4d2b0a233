/- Walks over the package maps: lists, two parts, and what is done with one element. Conditions: lengths up to 2^47. -/
import Derived.Test.YtenhgcgdhaegaaaDoorMaps
set_option linter.unusedVariables false
set_option linter.unusedSimpArgs false
namespace Go.Proofs.Sb
open Go.RowKit _root_.Sb

end Go.Proofs.Sb

/- Walks over the package maps: put of structs. Conditions: the sum of the parts up to 2^47. (written by gen_mapsput.py) -/
namespace Go.Proofs.Sb
open Go.RowKit _root_.Sb

/-- the cells of a pair, a multi, an entry -/
def pairP (p : B × B) (v : List Value) : Prop := v = [.string (str p.1), .string (str p.2)] ∧ p.1.length ≤ 9223372036854775807 ∧ p.2.length ≤ 9223372036854775807
def multiP (S : Nat → Prop) (w : World) (p : B × List B) (v : List Value) : Prop := ∃ A n c, v = [.string (str p.1), .slice A n c] ∧ p.1.length ≤ 9223372036854775807 ∧ Arr 1 strP S w A n c p.2
def entryP (S : Nat → Prop) (w : World) (p : B × Val) (v : List Value) : Prop := ∃ A n c, v = [.string (str p.1), .int .i64 p.2.kind, .slice A n c] ∧ p.1.length ≤ 9223372036854775807 ∧ Sl S w A n c p.2.bytes

end Go.Proofs.Sb

/- Walks over the package maps: what reads one pair, one multi, one entry. Conditions: lengths up to 2^47. (written by gen_mapsget1.py) -/
namespace Go.Proofs.Sb
open Go.RowKit _root_.Sb

theorem str_nil : str [] = ⟨#[]⟩ := rfl

end Go.Proofs.Sb
