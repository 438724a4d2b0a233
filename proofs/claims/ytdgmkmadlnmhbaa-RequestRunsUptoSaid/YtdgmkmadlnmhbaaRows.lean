/-
  No cell of these rows narrows 'for every input' (looked for: loops, veiled, ifaces, maps, wideKeys, modest, calm, conditions, laid).
  DERIVED. THE GIVEN ROWS OF THIS SEAT. 6 by the template 'for every input the law returns true; each argument reads behind the call as it read before'; 0 by the template 'total and deterministic' (their statements: YtdgmkmadlnmhbaaTotals.lean).
  GIVEN WITH THE SEED: the statements are not yours to turn. If you find one false, say at which input.
  Laid BY PROGRAM, IN A SANDBOX (cutbox-rows.mjs): the forced cells as the released guide's own fill.sh prints them over the translation 4f7f88f93e7bd287… (all of the seat's roots in one cut). By AI agents, Wed Nov 11 2026. No macro, syntax, notation, axiom, sorry.
-/
import Derived.Test.YtdgmkmadlnmhbaaChecked
import GoSem.Claim
import GoSem.ClaimJoined
import GoSem.ClaimMapViews
import Derived.JoinedTies
import Derived.KernelRfl
namespace Go.Proofs.Ytdgmkmadlnmhbaa
/- THE CELL 'sum', in the pinned program and in every row, IS THE sha256 OF THE DUMP (.gsa) THAT YtdgmkmadlnmhbaaProg.lean LOADS. Nothing in Lean hashes anything: it is a label: what it is worth is what the hold of that sum in a sandbox is worth. -/
noncomputable def Try.pinned : Pinned := { name := "ytdgmkmadlnmhbaa", sum := "4f7f88f93e7bd287431f736fbf05762933140fcde468df01edc44f09cfb7542c", checked := Try.checked }
namespace Rows
def none {H : Type} : Left H := { results := [], args := [] }

/-- 'signalboxlaw08.RequestPuts': WHATEVER THE INPUT: true; the input reads as it did. -/
def requestPutsSpec : ChangeSpec := { name := "requestPuts", fn := fun _ => fun
  | [d] => { results := [.lit (.bool true)], args := [d] }
  | _ => none }
def requestPutsRow : OpenClaim := { program := "ytdgmkmadlnmhbaa", sum := "4f7f88f93e7bd287431f736fbf05762933140fcde468df01edc44f09cfb7542c", func := "signalbox/signalboxlaw08.RequestPuts", spec := "requestPuts", unfollowed := true, recurses := true, apart := false }
def RequestPutsSaid : Prop := requestPutsRow.holds Try.pinned (OpenSpec.ofChange requestPutsSpec)

/-- ITS FALSE NEIGHBOUR: 'it returns false'. Refute it at one input. -/
def requestPutsWrong : ChangeSpec := { name := "requestPuts", fn := fun _ => fun
  | [d] => { results := [.lit (.bool false)], args := [d] }
  | _ => none }
def RequestPutsWrongFalsely : Prop := requestPutsRow.holds Try.pinned (OpenSpec.ofChange requestPutsWrong)

/-- 'signalboxlaw08.RequestGets': WHATEVER THE INPUT: true; the input reads as it did. -/
def requestGetsSpec : ChangeSpec := { name := "requestGets", fn := fun _ => fun
  | [d1, d2] => { results := [.lit (.bool true)], args := [d1, d2] }
  | _ => none }
def requestGetsRow : OpenClaim := { program := "ytdgmkmadlnmhbaa", sum := "4f7f88f93e7bd287431f736fbf05762933140fcde468df01edc44f09cfb7542c", func := "signalbox/signalboxlaw08.RequestGets", spec := "requestGets", unfollowed := true, recurses := true, apart := false }
def RequestGetsSaid : Prop := requestGetsRow.holds Try.pinned (OpenSpec.ofChange requestGetsSpec)

/-- ITS FALSE NEIGHBOUR: 'it returns false'. Refute it at one input. -/
def requestGetsWrong : ChangeSpec := { name := "requestGets", fn := fun _ => fun
  | [d1, d2] => { results := [.lit (.bool false)], args := [d1, d2] }
  | _ => none }
def RequestGetsWrongFalsely : Prop := requestGetsRow.holds Try.pinned (OpenSpec.ofChange requestGetsWrong)

/-- 'signalboxlaw08.RequestBack': WHATEVER THE INPUT: true; the input reads as it did. -/
def requestBackSpec : ChangeSpec := { name := "requestBack", fn := fun _ => fun
  | [d1, d2] => { results := [.lit (.bool true)], args := [d1, d2] }
  | _ => none }
def requestBackRow : OpenClaim := { program := "ytdgmkmadlnmhbaa", sum := "4f7f88f93e7bd287431f736fbf05762933140fcde468df01edc44f09cfb7542c", func := "signalbox/signalboxlaw08.RequestBack", spec := "requestBack", unfollowed := true, recurses := true, apart := false }
def RequestBackSaid : Prop := requestBackRow.holds Try.pinned (OpenSpec.ofChange requestBackSpec)

/-- ITS FALSE NEIGHBOUR: 'it returns false'. Refute it at one input. -/
def requestBackWrong : ChangeSpec := { name := "requestBack", fn := fun _ => fun
  | [d1, d2] => { results := [.lit (.bool false)], args := [d1, d2] }
  | _ => none }
def RequestBackWrongFalsely : Prop := requestBackRow.holds Try.pinned (OpenSpec.ofChange requestBackWrong)

/-- 'signalboxlaw08.RequestRuns': WHATEVER THE INPUT: true; the input reads as it did. -/
def requestRunsSpec : ChangeSpec := { name := "requestRuns", fn := fun _ => fun
  | [d1, d2, d3] => { results := [.lit (.bool true)], args := [d1, d2, d3] }
  | _ => none }
def requestRunsRow : OpenClaim := { program := "ytdgmkmadlnmhbaa", sum := "4f7f88f93e7bd287431f736fbf05762933140fcde468df01edc44f09cfb7542c", func := "signalbox/signalboxlaw08.RequestRuns", spec := "requestRuns", unfollowed := true, recurses := true, apart := false }
def RequestRunsSaid : Prop := requestRunsRow.holds Try.pinned (OpenSpec.ofChange requestRunsSpec)

/-- ITS FALSE NEIGHBOUR: 'it returns false'. Refute it at one input. -/
def requestRunsWrong : ChangeSpec := { name := "requestRuns", fn := fun _ => fun
  | [d1, d2, d3] => { results := [.lit (.bool false)], args := [d1, d2, d3] }
  | _ => none }
def RequestRunsWrongFalsely : Prop := requestRunsRow.holds Try.pinned (OpenSpec.ofChange requestRunsWrong)

/-- 'signalboxlaw08.RequestCut': WHATEVER THE INPUT: true; the input reads as it did. -/
def requestCutSpec : ChangeSpec := { name := "requestCut", fn := fun _ => fun
  | [d1, d2, d3, d4] => { results := [.lit (.bool true)], args := [d1, d2, d3, d4] }
  | _ => none }
def requestCutRow : OpenClaim := { program := "ytdgmkmadlnmhbaa", sum := "4f7f88f93e7bd287431f736fbf05762933140fcde468df01edc44f09cfb7542c", func := "signalbox/signalboxlaw08.RequestCut", spec := "requestCut", unfollowed := true, recurses := true, apart := false }
def RequestCutSaid : Prop := requestCutRow.holds Try.pinned (OpenSpec.ofChange requestCutSpec)

/-- ITS FALSE NEIGHBOUR: 'it returns false'. Refute it at one input. -/
def requestCutWrong : ChangeSpec := { name := "requestCut", fn := fun _ => fun
  | [d1, d2, d3, d4] => { results := [.lit (.bool false)], args := [d1, d2, d3, d4] }
  | _ => none }
def RequestCutWrongFalsely : Prop := requestCutRow.holds Try.pinned (OpenSpec.ofChange requestCutWrong)

/-- 'signalboxlaw08.RequestBatches': WHATEVER THE INPUT: true; the input reads as it did. -/
def requestBatchesSpec : ChangeSpec := { name := "requestBatches", fn := fun _ => fun
  | [d1, d2, d3, d4] => { results := [.lit (.bool true)], args := [d1, d2, d3, d4] }
  | _ => none }
def requestBatchesRow : OpenClaim := { program := "ytdgmkmadlnmhbaa", sum := "4f7f88f93e7bd287431f736fbf05762933140fcde468df01edc44f09cfb7542c", func := "signalbox/signalboxlaw08.RequestBatches", spec := "requestBatches", unfollowed := true, recurses := true, apart := false }
def RequestBatchesSaid : Prop := requestBatchesRow.holds Try.pinned (OpenSpec.ofChange requestBatchesSpec)

/-- ITS FALSE NEIGHBOUR: 'it returns false'. Refute it at one input. -/
def requestBatchesWrong : ChangeSpec := { name := "requestBatches", fn := fun _ => fun
  | [d1, d2, d3, d4] => { results := [.lit (.bool false)], args := [d1, d2, d3, d4] }
  | _ => none }
def RequestBatchesWrongFalsely : Prop := requestBatchesRow.holds Try.pinned (OpenSpec.ofChange requestBatchesWrong)

/- THE SECOND FORM. 'bulk': how many values and letters a reading holds, each counted each time it is reached (what is shared counts as often as it is met; a slice's spare places count too). A statement '..UptoSaid' is the law's where the arguments, and the package variables that the reading takes, are together of bulk at most 1048576: NARROWER than '..Said'. Prove '..Said' where nothing that the law and all that it calls make is longer than what came in: it says more and counts as full. Else prove '..UptoSaid'. A law counts once. -/
mutual
def uptoBulk {H : Type} : DataW H → Nat
  | .lit (.string bytes) => bytes.length + 1
  | .lit _ => 1
  | .nil => 1
  | .ptr d => uptoBulk d + 1
  | .slice elems spare => uptoBulkAll elems + uptoBulkAll spare + 1
  | .agg parts => uptoBulkAll parts + 1
  | .iface _ d => uptoBulk d + 1
  | .map entries => uptoBulkEntries entries + 1
  | .held _ => 1
def uptoBulkAll {H : Type} : List (DataW H) → Nat
  | [] => 0
  | d :: r => uptoBulk d + uptoBulkAll r
def uptoBulkEntries {H : Type} : List (Lit × DataW H) → Nat
  | [] => 0
  | x :: r => uptoBulkEntry x + uptoBulkEntries r
def uptoBulkEntry {H : Type} : Lit × DataW H → Nat
  | (.string bytes, d) => bytes.length + uptoBulk d + 1
  | (_, d) => uptoBulk d + 1
 end
def uptoSmall : (H : Type) → List (DataW H) → Bool := fun _ ds => decide (uptoBulkAll ds ≤ 1048576)
def OpenSpec.upto (s : _root_.Go.ChangeSpec) : _root_.Go.OpenSpec := { _root_.Go.OpenSpec.ofChange s with cond := some uptoSmall }

/-- 'signalboxlaw08.RequestPuts', WHERE WHAT IT READS IS OF BULK AT MOST 1048576: true; the input reads as it did. -/
def requestPutsUptoRow : OpenClaim := { program := "ytdgmkmadlnmhbaa", sum := "4f7f88f93e7bd287431f736fbf05762933140fcde468df01edc44f09cfb7542c", func := "signalbox/signalboxlaw08.RequestPuts", spec := "requestPuts", unfollowed := true, recurses := true, apart := false, narrowed := true }
def RequestPutsUptoSaid : Prop := requestPutsUptoRow.holds Try.pinned (OpenSpec.upto requestPutsSpec)

/-- 'signalboxlaw08.RequestGets', WHERE WHAT IT READS IS OF BULK AT MOST 1048576: true; the input reads as it did. -/
def requestGetsUptoRow : OpenClaim := { program := "ytdgmkmadlnmhbaa", sum := "4f7f88f93e7bd287431f736fbf05762933140fcde468df01edc44f09cfb7542c", func := "signalbox/signalboxlaw08.RequestGets", spec := "requestGets", unfollowed := true, recurses := true, apart := false, narrowed := true }
def RequestGetsUptoSaid : Prop := requestGetsUptoRow.holds Try.pinned (OpenSpec.upto requestGetsSpec)

/-- 'signalboxlaw08.RequestBack', WHERE WHAT IT READS IS OF BULK AT MOST 1048576: true; the input reads as it did. -/
def requestBackUptoRow : OpenClaim := { program := "ytdgmkmadlnmhbaa", sum := "4f7f88f93e7bd287431f736fbf05762933140fcde468df01edc44f09cfb7542c", func := "signalbox/signalboxlaw08.RequestBack", spec := "requestBack", unfollowed := true, recurses := true, apart := false, narrowed := true }
def RequestBackUptoSaid : Prop := requestBackUptoRow.holds Try.pinned (OpenSpec.upto requestBackSpec)

/-- 'signalboxlaw08.RequestRuns', WHERE WHAT IT READS IS OF BULK AT MOST 1048576: true; the input reads as it did. -/
def requestRunsUptoRow : OpenClaim := { program := "ytdgmkmadlnmhbaa", sum := "4f7f88f93e7bd287431f736fbf05762933140fcde468df01edc44f09cfb7542c", func := "signalbox/signalboxlaw08.RequestRuns", spec := "requestRuns", unfollowed := true, recurses := true, apart := false, narrowed := true }
def RequestRunsUptoSaid : Prop := requestRunsUptoRow.holds Try.pinned (OpenSpec.upto requestRunsSpec)

/-- 'signalboxlaw08.RequestCut', WHERE WHAT IT READS IS OF BULK AT MOST 1048576: true; the input reads as it did. -/
def requestCutUptoRow : OpenClaim := { program := "ytdgmkmadlnmhbaa", sum := "4f7f88f93e7bd287431f736fbf05762933140fcde468df01edc44f09cfb7542c", func := "signalbox/signalboxlaw08.RequestCut", spec := "requestCut", unfollowed := true, recurses := true, apart := false, narrowed := true }
def RequestCutUptoSaid : Prop := requestCutUptoRow.holds Try.pinned (OpenSpec.upto requestCutSpec)

/-- 'signalboxlaw08.RequestBatches', WHERE WHAT IT READS IS OF BULK AT MOST 1048576: true; the input reads as it did. -/
def requestBatchesUptoRow : OpenClaim := { program := "ytdgmkmadlnmhbaa", sum := "4f7f88f93e7bd287431f736fbf05762933140fcde468df01edc44f09cfb7542c", func := "signalbox/signalboxlaw08.RequestBatches", spec := "requestBatches", unfollowed := true, recurses := true, apart := false, narrowed := true }
def RequestBatchesUptoSaid : Prop := requestBatchesUptoRow.holds Try.pinned (OpenSpec.upto requestBatchesSpec)

end Rows
end Go.Proofs.Ytdgmkmadlnmhbaa
