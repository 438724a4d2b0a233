/-
  NARROWER THAN 'FOR EVERY INPUT', by the rows' own cells (each row's printed sentence says how): RowsGets: laid · RowsMetas: laid · RowsPuts: loops, laid · RowsCells: loops, laid · RowsCut: loops, laid · RowsGrid: laid.
  DERIVED. THE GIVEN ROWS OF THIS SEAT. 6 by the template 'for every input the law returns true; each argument reads behind the call as it read before'; 0 by the template 'total and deterministic' (their statements: YtenhgcgdhaegaaaDoorTotals.lean).
  GIVEN WITH THE SEED: the statements are not yours to turn. If you find one false, say at which input.
  Laid BY PROGRAM, IN A SANDBOX (cutbox-rows.mjs): the forced cells as the released guide's own fill.sh prints them over the translation 58485dac209b8cb1… (all of the seat's roots in one cut). By AI agents, Wed Nov 11 2026. No macro, syntax, notation, axiom, sorry.
-/
import Derived.Test.YtenhgcgdhaegaaaDoorChecked
import GoSem.Claim
import GoSem.ClaimJoined
import GoSem.ClaimMapViews
import Derived.JoinedTies
import Derived.KernelRfl
namespace Go.Proofs.YtenhgcgdhaegaaaDoor
/- THE CELL 'sum', in the pinned program and in every row, IS THE sha256 OF THE DUMP (.gsa) THAT YtenhgcgdhaegaaaDoorProg.lean LOADS. Nothing in Lean hashes anything: it is a label: what it is worth is what the hold of that sum in a sandbox is worth. -/
noncomputable def Tryd.pinned : Pinned := { name := "ytenhgcgdhaegaaadoor", sum := "58485dac209b8cb1e230898c6e12abe67d2d792561fd40f0566b5017e0e20065", checked := Tryd.checked }
namespace Rows
def none {H : Type} : Left H := { results := [], args := [] }

/- WHAT THE LISTED PACKAGE-LEVEL VARIABLES READ AS WHEN THE CALL BEGINS. Each datum BY PROGRAM (the guide's laid-datum.mjs) off the statement by which the dump's own 'gosem.cut.vars' lays the variable. In a bare row this is a premise. The card (YtenhgcgdhaegaaaDoorCards.lean) ties it to the program's text. -/
def laid_signalbox_option_plain {H : Type} : DataW H := .agg [.lit (.string []), .lit (.string [97, 115, 99, 105, 105]), .lit (.string [98, 105, 103, 105, 110, 116]), .lit (.string [98, 108, 111, 98]), .lit (.string [98, 111, 111, 108, 101, 97, 110]), .lit (.string [99, 111, 117, 110, 116, 101, 114]), .lit (.string [100, 101, 99, 105, 109, 97, 108]), .lit (.string [100, 111, 117, 98, 108, 101]), .lit (.string [102, 108, 111, 97, 116]), .lit (.string [105, 110, 116]), .lit (.string []), .lit (.string [116, 105, 109, 101, 115, 116, 97, 109, 112]), .lit (.string [117, 117, 105, 100]), .lit (.string [118, 97, 114, 99, 104, 97, 114]), .lit (.string [118, 97, 114, 105, 110, 116]), .lit (.string [116, 105, 109, 101, 117, 117, 105, 100]), .lit (.string [105, 110, 101, 116]), .lit (.string [100, 97, 116, 101]), .lit (.string [116, 105, 109, 101]), .lit (.string [115, 109, 97, 108, 108, 105, 110, 116]), .lit (.string [116, 105, 110, 121, 105, 110, 116])]

/-- 'signalboxlaw10.RowsGets': WHATEVER THE INPUT: true; the input reads as it did. -/
def rowsGetsSpec : ChangeSpec := { name := "rowsGets", fn := fun _ => fun
  | [d] => { results := [.lit (.bool true)], args := [d] }
  | _ => none }
def rowsGetsRow : OpenClaim := { program := "ytenhgcgdhaegaaadoor", sum := "58485dac209b8cb1e230898c6e12abe67d2d792561fd40f0566b5017e0e20065", func := "signalbox/signalboxlaw10.RowsGets", spec := "rowsGets", unfollowed := true, recurses := true, named := ["signalbox/option.plain"], apart := false, laid := [("signalbox/option.plain", laid_signalbox_option_plain)] }
def RowsGetsSaid : Prop := rowsGetsRow.holds Tryd.pinned (OpenSpec.ofChange rowsGetsSpec)

/-- ITS FALSE NEIGHBOUR: 'it returns false'. Refute it at one input. -/
def rowsGetsWrong : ChangeSpec := { name := "rowsGets", fn := fun _ => fun
  | [d] => { results := [.lit (.bool false)], args := [d] }
  | _ => none }
def RowsGetsWrongFalsely : Prop := rowsGetsRow.holds Tryd.pinned (OpenSpec.ofChange rowsGetsWrong)

/-- 'signalboxlaw10.RowsMetas': WHATEVER THE INPUT: true; the input reads as it did. -/
def rowsMetasSpec : ChangeSpec := { name := "rowsMetas", fn := fun _ => fun
  | [d] => { results := [.lit (.bool true)], args := [d] }
  | _ => none }
def rowsMetasRow : OpenClaim := { program := "ytenhgcgdhaegaaadoor", sum := "58485dac209b8cb1e230898c6e12abe67d2d792561fd40f0566b5017e0e20065", func := "signalbox/signalboxlaw10.RowsMetas", spec := "rowsMetas", unfollowed := true, recurses := true, named := ["signalbox/option.plain"], apart := false, laid := [("signalbox/option.plain", laid_signalbox_option_plain)] }
def RowsMetasSaid : Prop := rowsMetasRow.holds Tryd.pinned (OpenSpec.ofChange rowsMetasSpec)

/-- ITS FALSE NEIGHBOUR: 'it returns false'. Refute it at one input. -/
def rowsMetasWrong : ChangeSpec := { name := "rowsMetas", fn := fun _ => fun
  | [d] => { results := [.lit (.bool false)], args := [d] }
  | _ => none }
def RowsMetasWrongFalsely : Prop := rowsMetasRow.holds Tryd.pinned (OpenSpec.ofChange rowsMetasWrong)

/-- 'signalboxlaw10.RowsPuts': WHATEVER THE INPUT: true; the input reads as it did. -/
def rowsPutsSpec : ChangeSpec := { name := "rowsPuts", fn := fun _ => fun
  | [d1, d2] => { results := [.lit (.bool true)], args := [d1, d2] }
  | _ => none }
def rowsPutsRow : OpenClaim := { program := "ytenhgcgdhaegaaadoor", sum := "58485dac209b8cb1e230898c6e12abe67d2d792561fd40f0566b5017e0e20065", func := "signalbox/signalboxlaw10.RowsPuts", spec := "rowsPuts", unfollowed := true, recurses := true, named := ["signalbox/option.plain"], loops := true, apart := false, laid := [("signalbox/option.plain", laid_signalbox_option_plain)] }
def RowsPutsSaid : Prop := rowsPutsRow.holds Tryd.pinned (OpenSpec.ofChange rowsPutsSpec)

/-- ITS FALSE NEIGHBOUR: 'it returns false'. Refute it at one input. -/
def rowsPutsWrong : ChangeSpec := { name := "rowsPuts", fn := fun _ => fun
  | [d1, d2] => { results := [.lit (.bool false)], args := [d1, d2] }
  | _ => none }
def RowsPutsWrongFalsely : Prop := rowsPutsRow.holds Tryd.pinned (OpenSpec.ofChange rowsPutsWrong)

/-- 'signalboxlaw10.RowsCells': WHATEVER THE INPUT: true; the input reads as it did. -/
def rowsCellsSpec : ChangeSpec := { name := "rowsCells", fn := fun _ => fun
  | [d1, d2, d3] => { results := [.lit (.bool true)], args := [d1, d2, d3] }
  | _ => none }
def rowsCellsRow : OpenClaim := { program := "ytenhgcgdhaegaaadoor", sum := "58485dac209b8cb1e230898c6e12abe67d2d792561fd40f0566b5017e0e20065", func := "signalbox/signalboxlaw10.RowsCells", spec := "rowsCells", unfollowed := true, recurses := true, named := ["signalbox/option.plain"], loops := true, apart := false, laid := [("signalbox/option.plain", laid_signalbox_option_plain)] }
def RowsCellsSaid : Prop := rowsCellsRow.holds Tryd.pinned (OpenSpec.ofChange rowsCellsSpec)

/-- ITS FALSE NEIGHBOUR: 'it returns false'. Refute it at one input. -/
def rowsCellsWrong : ChangeSpec := { name := "rowsCells", fn := fun _ => fun
  | [d1, d2, d3] => { results := [.lit (.bool false)], args := [d1, d2, d3] }
  | _ => none }
def RowsCellsWrongFalsely : Prop := rowsCellsRow.holds Tryd.pinned (OpenSpec.ofChange rowsCellsWrong)

/-- 'signalboxlaw10.RowsCut': WHATEVER THE INPUT: true; the input reads as it did. -/
def rowsCutSpec : ChangeSpec := { name := "rowsCut", fn := fun _ => fun
  | [d1, d2, d3, d4] => { results := [.lit (.bool true)], args := [d1, d2, d3, d4] }
  | _ => none }
def rowsCutRow : OpenClaim := { program := "ytenhgcgdhaegaaadoor", sum := "58485dac209b8cb1e230898c6e12abe67d2d792561fd40f0566b5017e0e20065", func := "signalbox/signalboxlaw10.RowsCut", spec := "rowsCut", unfollowed := true, recurses := true, named := ["signalbox/option.plain"], loops := true, apart := false, laid := [("signalbox/option.plain", laid_signalbox_option_plain)] }
def RowsCutSaid : Prop := rowsCutRow.holds Tryd.pinned (OpenSpec.ofChange rowsCutSpec)

/-- ITS FALSE NEIGHBOUR: 'it returns false'. Refute it at one input. -/
def rowsCutWrong : ChangeSpec := { name := "rowsCut", fn := fun _ => fun
  | [d1, d2, d3, d4] => { results := [.lit (.bool false)], args := [d1, d2, d3, d4] }
  | _ => none }
def RowsCutWrongFalsely : Prop := rowsCutRow.holds Tryd.pinned (OpenSpec.ofChange rowsCutWrong)

/-- 'signalboxlaw10.RowsGrid': WHATEVER THE INPUT: true; the input reads as it did. -/
def rowsGridSpec : ChangeSpec := { name := "rowsGrid", fn := fun _ => fun
  | [d1, d2, d3] => { results := [.lit (.bool true)], args := [d1, d2, d3] }
  | _ => none }
def rowsGridRow : OpenClaim := { program := "ytenhgcgdhaegaaadoor", sum := "58485dac209b8cb1e230898c6e12abe67d2d792561fd40f0566b5017e0e20065", func := "signalbox/signalboxlaw10.RowsGrid", spec := "rowsGrid", unfollowed := true, recurses := true, named := ["signalbox/option.plain"], apart := false, laid := [("signalbox/option.plain", laid_signalbox_option_plain)] }
def RowsGridSaid : Prop := rowsGridRow.holds Tryd.pinned (OpenSpec.ofChange rowsGridSpec)

/-- ITS FALSE NEIGHBOUR: 'it returns false'. Refute it at one input. -/
def rowsGridWrong : ChangeSpec := { name := "rowsGrid", fn := fun _ => fun
  | [d1, d2, d3] => { results := [.lit (.bool false)], args := [d1, d2, d3] }
  | _ => none }
def RowsGridWrongFalsely : Prop := rowsGridRow.holds Tryd.pinned (OpenSpec.ofChange rowsGridWrong)

/- THE SECOND FORM. 'bulk': how many values and letters a reading holds, each counted each time it is reached (what is shared counts as often as it is met; a slice's spare places count too). A statement '..UptoSaid' is the law's where the arguments, and the package variables that the reading takes, are together of bulk at most 1048576: NARROWER than '..Said'. Prove '..Said' where nothing that the law and all that it calls make is longer than what came in: it says more and counts as full. Else prove '..UptoSaid'. A law counts once. -/
mutual
def uptoBulk {H : Type} : DataW H → Nat
  | .lit (.string bytes) => bytes.length + 1
  | .lit _ => 1
  | .nil => 1
  | .ptr d => uptoBulk d + 1
  | .slice elems spare => uptoBulkAll elems + uptoBulkAll spare + 1
  | .agg parts => uptoBulkAll parts + 1
  | .iface _ d => uptoBulk d + 1
  | .map entries => uptoBulkEntries entries + 1
  | .held _ => 1
def uptoBulkAll {H : Type} : List (DataW H) → Nat
  | [] => 0
  | d :: r => uptoBulk d + uptoBulkAll r
def uptoBulkEntries {H : Type} : List (Lit × DataW H) → Nat
  | [] => 0
  | x :: r => uptoBulkEntry x + uptoBulkEntries r
def uptoBulkEntry {H : Type} : Lit × DataW H → Nat
  | (.string bytes, d) => bytes.length + uptoBulk d + 1
  | (_, d) => uptoBulk d + 1
 end
def uptoSmall : (H : Type) → List (DataW H) → Bool := fun _ ds => decide (uptoBulkAll ds ≤ 1048576)
def OpenSpec.upto (s : _root_.Go.ChangeSpec) : _root_.Go.OpenSpec := { _root_.Go.OpenSpec.ofChange s with cond := some uptoSmall }

/-- 'signalboxlaw10.RowsGets', WHERE WHAT IT READS IS OF BULK AT MOST 1048576: true; the input reads as it did. -/
def rowsGetsUptoRow : OpenClaim := { program := "ytenhgcgdhaegaaadoor", sum := "58485dac209b8cb1e230898c6e12abe67d2d792561fd40f0566b5017e0e20065", func := "signalbox/signalboxlaw10.RowsGets", spec := "rowsGets", unfollowed := true, recurses := true, named := ["signalbox/option.plain"], apart := false, laid := [("signalbox/option.plain", laid_signalbox_option_plain)], narrowed := true }
def RowsGetsUptoSaid : Prop := rowsGetsUptoRow.holds Tryd.pinned (OpenSpec.upto rowsGetsSpec)

/-- 'signalboxlaw10.RowsMetas', WHERE WHAT IT READS IS OF BULK AT MOST 1048576: true; the input reads as it did. -/
def rowsMetasUptoRow : OpenClaim := { program := "ytenhgcgdhaegaaadoor", sum := "58485dac209b8cb1e230898c6e12abe67d2d792561fd40f0566b5017e0e20065", func := "signalbox/signalboxlaw10.RowsMetas", spec := "rowsMetas", unfollowed := true, recurses := true, named := ["signalbox/option.plain"], apart := false, laid := [("signalbox/option.plain", laid_signalbox_option_plain)], narrowed := true }
def RowsMetasUptoSaid : Prop := rowsMetasUptoRow.holds Tryd.pinned (OpenSpec.upto rowsMetasSpec)

/-- 'signalboxlaw10.RowsPuts', WHERE WHAT IT READS IS OF BULK AT MOST 1048576: true; the input reads as it did. -/
def rowsPutsUptoRow : OpenClaim := { program := "ytenhgcgdhaegaaadoor", sum := "58485dac209b8cb1e230898c6e12abe67d2d792561fd40f0566b5017e0e20065", func := "signalbox/signalboxlaw10.RowsPuts", spec := "rowsPuts", unfollowed := true, recurses := true, named := ["signalbox/option.plain"], loops := true, apart := false, laid := [("signalbox/option.plain", laid_signalbox_option_plain)], narrowed := true }
def RowsPutsUptoSaid : Prop := rowsPutsUptoRow.holds Tryd.pinned (OpenSpec.upto rowsPutsSpec)

/-- 'signalboxlaw10.RowsCells', WHERE WHAT IT READS IS OF BULK AT MOST 1048576: true; the input reads as it did. -/
def rowsCellsUptoRow : OpenClaim := { program := "ytenhgcgdhaegaaadoor", sum := "58485dac209b8cb1e230898c6e12abe67d2d792561fd40f0566b5017e0e20065", func := "signalbox/signalboxlaw10.RowsCells", spec := "rowsCells", unfollowed := true, recurses := true, named := ["signalbox/option.plain"], loops := true, apart := false, laid := [("signalbox/option.plain", laid_signalbox_option_plain)], narrowed := true }
def RowsCellsUptoSaid : Prop := rowsCellsUptoRow.holds Tryd.pinned (OpenSpec.upto rowsCellsSpec)

/-- 'signalboxlaw10.RowsCut', WHERE WHAT IT READS IS OF BULK AT MOST 1048576: true; the input reads as it did. -/
def rowsCutUptoRow : OpenClaim := { program := "ytenhgcgdhaegaaadoor", sum := "58485dac209b8cb1e230898c6e12abe67d2d792561fd40f0566b5017e0e20065", func := "signalbox/signalboxlaw10.RowsCut", spec := "rowsCut", unfollowed := true, recurses := true, named := ["signalbox/option.plain"], loops := true, apart := false, laid := [("signalbox/option.plain", laid_signalbox_option_plain)], narrowed := true }
def RowsCutUptoSaid : Prop := rowsCutUptoRow.holds Tryd.pinned (OpenSpec.upto rowsCutSpec)

/-- 'signalboxlaw10.RowsGrid', WHERE WHAT IT READS IS OF BULK AT MOST 1048576: true; the input reads as it did. -/
def rowsGridUptoRow : OpenClaim := { program := "ytenhgcgdhaegaaadoor", sum := "58485dac209b8cb1e230898c6e12abe67d2d792561fd40f0566b5017e0e20065", func := "signalbox/signalboxlaw10.RowsGrid", spec := "rowsGrid", unfollowed := true, recurses := true, named := ["signalbox/option.plain"], apart := false, laid := [("signalbox/option.plain", laid_signalbox_option_plain)], narrowed := true }
def RowsGridUptoSaid : Prop := rowsGridUptoRow.holds Tryd.pinned (OpenSpec.upto rowsGridSpec)

end Rows
end Go.Proofs.YtenhgcgdhaegaaaDoor
