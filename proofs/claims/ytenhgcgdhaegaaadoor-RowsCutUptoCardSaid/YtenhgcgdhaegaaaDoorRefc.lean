/- Walks over signalboxref03.Put, kind by kind. Conditions: the sum of the parts up to 2^47. (written by gen_refput.py) -/
import Derived.Test.YtenhgcgdhaegaaaDoorPlaind
import Derived.Test.YtenhgcgdhaegaaaDoorRefb
set_option linter.unusedVariables false
set_option linter.unusedSimpArgs false
namespace Go.Proofs.Sb
open Go.RowKit _root_.Sb

theorem take_map_succ {l : List B} {j : Nat} {y : B} (h : l[j]? = some y) : (l.take (j + 1)).map Thing.ofText = (l.take j).map Thing.ofText ++ [Thing.ofText y] := by
  obtain ⟨hj, rfl⟩ := List.getElem?_eq_some_iff.1 h
  rw [List.take_succ_eq_append_getElem hj, List.map_append]
  rfl
theorem gcell {w w' : World} {row : Option Nat} (hg : w.grownBy w' row) {b o : Nat} {v : Value} (hr : some b ≠ row) (h : w.cell? ⟨b, o, none⟩ = some v) : w'.cell? ⟨b, o, none⟩ = some v :=
  (World.cell?_of_block (hg.block b (World.block_lt_of_cell? w ⟨b, o, none⟩ h) hr)).trans h

end Go.Proofs.Sb
