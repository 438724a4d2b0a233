/- A row of texts as an argument, opened, of bounded bulk. No conditions. -/
import Derived.Test.YtdgmkmadlnmhbaaArgsd
set_option linter.unusedVariables false
set_option linter.unusedSimpArgs false
namespace Go.Proofs.Sb
open Go.RowKit _root_.Sb
open Go.ChangeShapes Go.WideShapes Go.ChangeAt
open Go.Proofs.Ytdgmkmadlnmhbaa.Rows (uptoBulk uptoBulkAll uptoSmall)
set_option maxRecDepth 100000
section
variable {H : Type} {enc : TypeId × Value → H} {W : World} {r : Reach} {b0 : Nat} {v : Value} {d : DataW H} {p : List MemPlace} {Bd : Nat}
theorem textsA_ofB (hval : Value.okWide Try.prog W r b0 26 v) (h : DataW.Trod enc Try.prog W 0 (fun _ => true) true 26 v d p) (hB : uptoBulk d ≤ Bd) :
    ∃ A n c l, v = .slice A n c ∧ Arr 1 strP (fun _ => True) W A n c l ∧ n ≤ Bd ∧ ∀ t ∈ l, t.length ≤ Bd :=
  arr_of_argB Try.underlying26 (by kernel_rfl) (by decide) (fun _ _ _ hb h => str_eltB hb h) hval h hB
end
end Go.Proofs.Sb
