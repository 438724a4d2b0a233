/- What stands ahead of a body as an argument, opened, of bounded bulk. No conditions. -/
import Derived.Test.YtpgcadicamnpkaaArgsd
import Derived.Test.YtpgcadicamnpkaaPlainf
set_option linter.unusedVariables false
set_option linter.unusedSimpArgs false
namespace Go.Proofs.Sb
open Go.RowKit _root_.Sb
open Go.ChangeShapes Go.WideShapes Go.ChangeAt
open Go.Proofs.Ytpgcadicamnpkaa.Rows (uptoBulk uptoBulkAll uptoSmall)
set_option maxRecDepth 100000

section
variable {H : Type} {enc : TypeId × Value → H} {W : World} {r : Reach} {b0 : Nat} {v : Value} {d : DataW H} {p : List MemPlace} {Bd : Nat}
theorem prefix_ofB (hval : Value.okWide Try.prog W r b0 26 v) (h : DataW.Trod enc Try.prog W 0 (fun _ => true) true 26 v d p) (hB : uptoBulk d ≤ Bd) :
    ∃ A0 n0 c0 A1 n1 c1 A2 n2 c2, ∃ q : Pre, v = .agg #[.slice A0 n0 c0, .slice A1 n1 c1, .slice A2 n2 c2] ∧ Sl (fun _ => True) W A0 n0 c0 q.tracing ∧ Arr 1 strP (fun _ => True) W A1 n1 c1 q.warnings ∧ Arr 3 (entryP (fun _ => True) W) (fun _ => True) W A2 n2 c2 q.payload ∧ ∀ x ∈ q.payload, x.2.bytes.length ≤ Bd := by
  obtain ⟨v0, v1, v2, y0, y1, y2, m, rfl, rfl, rfl, h0, h1, h2⟩ := Joins.open_agg3 Try.underlying26 (by kernel_rfl) (by kernel_rfl) hval h
  have hB2 : uptoBulk y2.1 ≤ Bd := by
    simp only [uptoBulk, uptoBulkAll] at hB
    omega
  obtain ⟨A0, n0, c0, bs, rfl, hs⟩ := sl_of_trod h0
  obtain ⟨A1, n1, c1, l1, e1, ha1⟩ := arr_of_trod (P := strP) (k := 1) (e := 9) Try.underlying23 (by kernel_rfl) (by decide) (fun _ _ _ h => str_elt h) h1
  obtain ⟨A2, n2, c2, l2, e2, ha2, _⟩ := arr_of_trodB (P := fun y v => entryP (fun _ => True) W y v ∧ (y.1.length ≤ Bd ∧ y.2.bytes.length ≤ Bd)) (k := 3) (e := 31) Try.underlying24 (by kernel_rfl) (by decide) (fun _ _ _ hb h => by obtain ⟨y, q1, q2, q3⟩ := entry_eltB hb h; exact ⟨y, q1, q2, q3⟩) hB2 h2
  injection e1 with e1
  injection e2 with e2
  subst e1 e2
  exact ⟨A0, n0, c0, A1, n1, c1, A2, n2, c2, ⟨bs, l1, l2⟩, rfl, hs, ha1, ha2.imp fun _ _ _ h => h.1, fun x hx => by obtain ⟨v, _, h⟩ := ha2.mem x hx; exact h.2⟩
end
end Go.Proofs.Sb
