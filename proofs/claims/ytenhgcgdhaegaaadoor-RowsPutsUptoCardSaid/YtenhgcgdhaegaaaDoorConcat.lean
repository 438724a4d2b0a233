/- Walks over slices.Grow of a nil slice and slices.Concat, of bytes. Conditions: the sum of the lengths between 1 and 2^47. -/
import Derived.Test.YtenhgcgdhaegaaaDoorArr
import Derived.Lib.AppendZerosOnto
import Derived.Lib.Walk
import Derived.Lib.SliceRun
set_option linter.unusedVariables false
set_option linter.unusedSimpArgs false
namespace Go.Proofs.Sb
open Go.RowKit _root_.Sb

/-- the cells of a slice that reads as bytes -/
def bsP (S : Nat → Prop) (w : World) (bs : B) (v : List Value) : Prop := ∃ A n c, v = [.slice A n c] ∧ Sl S w A n c bs
theorem bsP.imp {S S' : Nat → Prop} {w w' : World} {p : B} {v : List Value} (h : bsP S w p v) (hi : ∀ A n c l, Sl S w A n c l → Sl S' w' A n c l) : bsP S' w' p v :=
  let ⟨A, n, c, h1, h2⟩ := h; ⟨A, n, c, h1, hi _ _ _ _ h2⟩
theorem bss_move {S T : Nat → Prop} {w w' : World} {A : Option Addr} {n c : Nat} {l : List B} (h : Arr 1 (bsP T w) S w A n c l) (hb : Below w.heap.size w w') : Arr 1 (bsP T w') S w' A n c l :=
  (h.after hb).imp fun _ _ _ h => h.imp fun _ _ _ _ h => h.after hb

theorem sum_takeC {ls : List B} {k : Nat} {x : B} (h : ls[k]? = some x) : ((ls.take (k + 1)).map List.length).sum = ((ls.take k).map List.length).sum + x.length := by
  obtain ⟨hk, rfl⟩ := List.getElem?_eq_some_iff.1 h
  rw [List.take_succ_eq_append_getElem hk, List.map_append, List.sum_append]
  simp
theorem flat_take {ls : List B} {k : Nat} {x : B} (h : ls[k]? = some x) : (ls.take (k + 1)).flatten = (ls.take k).flatten ++ x := by
  obtain ⟨hk, rfl⟩ := List.getElem?_eq_some_iff.1 h
  rw [List.take_succ_eq_append_getElem hk, List.flatten_append]
  simp
theorem sum_take_leC (ls : List B) (k : Nat) : ((ls.take k).map List.length).sum ≤ (ls.map List.length).sum := by
  have h := congrArg (fun l : List B => (l.map List.length).sum) (List.take_append_drop k ls)
  simp only [List.map_append, List.sum_append] at h
  omega
theorem flat_len (ls : List B) : ls.flatten.length = (ls.map List.length).sum := List.length_flatten

end Go.Proofs.Sb
