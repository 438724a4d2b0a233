/- Words for walks over the law's own rows. No conditions. (written by gen_law03.py) -/
import Derived.Test.YtfeeeighafflnaaGreatRefc
import Derived.Test.YtfeeeighafflnaaGreatRole
set_option linter.unusedVariables false
set_option linter.unusedSimpArgs false
namespace Go.Proofs.Sb
open Go.RowKit _root_.Sb

theorem Below.of_grown {w w' : World} {row : Option Nat} (hg : w.grownBy w' row) (hr : row = none) : Below w.heap.size w w' := Below.grown (Below.refl _ _) hg (Nat.le_refl _) fun k e => by rw [hr] at e; cases e
theorem tms {α β : Type} (f : α → β) {l : List α} {j : Nat} {y : α} (h : l[j]? = some y) : (l.take (j + 1)).map f = (l.take j).map f ++ [f y] := by
  obtain ⟨hj, rfl⟩ := List.getElem?_eq_some_iff.1 h
  rw [List.take_succ_eq_append_getElem hj, List.map_append]
  rfl
end Go.Proofs.Sb
