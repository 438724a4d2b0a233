/- Walks over option.name, option.kids. Conditions: the table of names reads as it was laid. -/
import Derived.Test.YtdgmkmadlnmhbaaOpts
set_option linter.unusedVariables false
set_option linter.unusedSimpArgs false
namespace Go.Proofs.Sb
open Go.RowKit _root_.Sb

/-- the table of the plain types' names reads as it was laid -/
def Pl (w : World) : Prop := ∀ i s, plainNames[i]? = some s → w.cell? ⟨0, i, none⟩ = some (.string (str s))
theorem Pl.pos {w : World} (h : Pl w) : 0 < w.heap.size := World.block_lt_of_cell? w ⟨0, 0, none⟩ (h 0 [] rfl)
theorem Pl.keep {w w' : World} (h : Pl w) (hk : w'.heap[0]? = w.heap[0]?) : Pl w' := fun i s hi => (World.cell?_of_block (a := ⟨0, i, none⟩) hk).trans (h i s hi)
theorem Pl.after {w w' : World} (h : Pl w) (hb : Below w.heap.size w w') : Pl w' := h.keep (hb.block 0 h.pos)
theorem Pl.grown {w w' : World} {row : Option Nat} (h : Pl w) (hg : w.grownBy w' row) (hr : row ≠ some 0) : Pl w' := h.keep (hg.block 0 h.pos fun e => hr e.symm)
theorem Pl.setCell {w : World} (h : Pl w) {p : Addr} (hp : p.block ≠ 0) (u : Value) : Pl (w.setCell p u) := h.keep (Below.heap_setCell w p u 0 fun e => hp e.symm)

def knP (id : Nat) : Int := if kn id = -2 then 3 else kn id
end Go.Proofs.Sb
