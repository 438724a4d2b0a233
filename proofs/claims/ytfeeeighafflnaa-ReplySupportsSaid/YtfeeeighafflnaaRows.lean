/-
  No cell of these rows narrows 'for every input' (looked for: loops, veiled, ifaces, maps, wideKeys, modest, calm, conditions, laid).
  DERIVED. THE GIVEN ROWS OF THIS SEAT. 5 by the template 'for every input the law returns true; each argument reads behind the call as it read before'; 0 by the template 'total and deterministic' (their statements: YtfeeeighafflnaaTotals.lean).
  GIVEN WITH THE SEED: the statements are not yours to turn. If you find one false, say at which input.
  Laid BY PROGRAM, IN A SANDBOX (cutbox-rows.mjs): the forced cells as the released guide's own fill.sh prints them over the translation 4fb8e7314f36d366… (all of the seat's roots in one cut). By AI agents, Wed Nov 11 2026. No macro, syntax, notation, axiom, sorry.
-/
import Derived.Test.YtfeeeighafflnaaChecked
import GoSem.Claim
import GoSem.ClaimJoined
import GoSem.ClaimMapViews
import Derived.JoinedTies
import Derived.KernelRfl
namespace Go.Proofs.Ytfeeeighafflnaa
/- THE CELL 'sum', in the pinned program and in every row, IS THE sha256 OF THE DUMP (.gsa) THAT YtfeeeighafflnaaProg.lean LOADS. Nothing in Lean hashes anything: it is a label: what it is worth is what the hold of that sum in a sandbox is worth. -/
noncomputable def Try.pinned : Pinned := { name := "ytfeeeighafflnaa", sum := "4fb8e7314f36d366085a682ab9a1b0f2e47f6d13129560176951a012eb3384b1", checked := Try.checked }
namespace Rows
def none {H : Type} : Left H := { results := [], args := [] }

/-- 'signalboxlaw09.ReplyGets': WHATEVER THE INPUT: true; the input reads as it did. -/
def replyGetsSpec : ChangeSpec := { name := "replyGets", fn := fun _ => fun
  | [d1, d2] => { results := [.lit (.bool true)], args := [d1, d2] }
  | _ => none }
def replyGetsRow : OpenClaim := { program := "ytfeeeighafflnaa", sum := "4fb8e7314f36d366085a682ab9a1b0f2e47f6d13129560176951a012eb3384b1", func := "signalbox/signalboxlaw09.ReplyGets", spec := "replyGets", unfollowed := true, recurses := true, apart := false }
def ReplyGetsSaid : Prop := replyGetsRow.holds Try.pinned (OpenSpec.ofChange replyGetsSpec)

/-- ITS FALSE NEIGHBOUR: 'it returns false'. Refute it at one input. -/
def replyGetsWrong : ChangeSpec := { name := "replyGets", fn := fun _ => fun
  | [d1, d2] => { results := [.lit (.bool false)], args := [d1, d2] }
  | _ => none }
def ReplyGetsWrongFalsely : Prop := replyGetsRow.holds Try.pinned (OpenSpec.ofChange replyGetsWrong)

/-- 'signalboxlaw09.ReplyPuts': WHATEVER THE INPUT: true; the input reads as it did. -/
def replyPutsSpec : ChangeSpec := { name := "replyPuts", fn := fun _ => fun
  | [d] => { results := [.lit (.bool true)], args := [d] }
  | _ => none }
def replyPutsRow : OpenClaim := { program := "ytfeeeighafflnaa", sum := "4fb8e7314f36d366085a682ab9a1b0f2e47f6d13129560176951a012eb3384b1", func := "signalbox/signalboxlaw09.ReplyPuts", spec := "replyPuts", unfollowed := true, recurses := true, apart := false }
def ReplyPutsSaid : Prop := replyPutsRow.holds Try.pinned (OpenSpec.ofChange replyPutsSpec)

/-- ITS FALSE NEIGHBOUR: 'it returns false'. Refute it at one input. -/
def replyPutsWrong : ChangeSpec := { name := "replyPuts", fn := fun _ => fun
  | [d] => { results := [.lit (.bool false)], args := [d] }
  | _ => none }
def ReplyPutsWrongFalsely : Prop := replyPutsRow.holds Try.pinned (OpenSpec.ofChange replyPutsWrong)

/-- 'signalboxlaw09.ReplyBack': WHATEVER THE INPUT: true; the input reads as it did. -/
def replyBackSpec : ChangeSpec := { name := "replyBack", fn := fun _ => fun
  | [d1, d2] => { results := [.lit (.bool true)], args := [d1, d2] }
  | _ => none }
def replyBackRow : OpenClaim := { program := "ytfeeeighafflnaa", sum := "4fb8e7314f36d366085a682ab9a1b0f2e47f6d13129560176951a012eb3384b1", func := "signalbox/signalboxlaw09.ReplyBack", spec := "replyBack", unfollowed := true, recurses := true, apart := false }
def ReplyBackSaid : Prop := replyBackRow.holds Try.pinned (OpenSpec.ofChange replyBackSpec)

/-- ITS FALSE NEIGHBOUR: 'it returns false'. Refute it at one input. -/
def replyBackWrong : ChangeSpec := { name := "replyBack", fn := fun _ => fun
  | [d1, d2] => { results := [.lit (.bool false)], args := [d1, d2] }
  | _ => none }
def ReplyBackWrongFalsely : Prop := replyBackRow.holds Try.pinned (OpenSpec.ofChange replyBackWrong)

/-- 'signalboxlaw09.ReplyCut': WHATEVER THE INPUT: true; the input reads as it did. -/
def replyCutSpec : ChangeSpec := { name := "replyCut", fn := fun _ => fun
  | [d1, d2, d3, d4] => { results := [.lit (.bool true)], args := [d1, d2, d3, d4] }
  | _ => none }
def replyCutRow : OpenClaim := { program := "ytfeeeighafflnaa", sum := "4fb8e7314f36d366085a682ab9a1b0f2e47f6d13129560176951a012eb3384b1", func := "signalbox/signalboxlaw09.ReplyCut", spec := "replyCut", unfollowed := true, recurses := true, apart := false }
def ReplyCutSaid : Prop := replyCutRow.holds Try.pinned (OpenSpec.ofChange replyCutSpec)

/-- ITS FALSE NEIGHBOUR: 'it returns false'. Refute it at one input. -/
def replyCutWrong : ChangeSpec := { name := "replyCut", fn := fun _ => fun
  | [d1, d2, d3, d4] => { results := [.lit (.bool false)], args := [d1, d2, d3, d4] }
  | _ => none }
def ReplyCutWrongFalsely : Prop := replyCutRow.holds Try.pinned (OpenSpec.ofChange replyCutWrong)

/-- 'signalboxlaw09.ReplySupports': WHATEVER THE INPUT: true; the input reads as it did. -/
def replySupportsSpec : ChangeSpec := { name := "replySupports", fn := fun _ => fun
  | [d1, d2, d3] => { results := [.lit (.bool true)], args := [d1, d2, d3] }
  | _ => none }
def replySupportsRow : OpenClaim := { program := "ytfeeeighafflnaa", sum := "4fb8e7314f36d366085a682ab9a1b0f2e47f6d13129560176951a012eb3384b1", func := "signalbox/signalboxlaw09.ReplySupports", spec := "replySupports", unfollowed := true, recurses := true, apart := false }
def ReplySupportsSaid : Prop := replySupportsRow.holds Try.pinned (OpenSpec.ofChange replySupportsSpec)

/-- ITS FALSE NEIGHBOUR: 'it returns false'. Refute it at one input. -/
def replySupportsWrong : ChangeSpec := { name := "replySupports", fn := fun _ => fun
  | [d1, d2, d3] => { results := [.lit (.bool false)], args := [d1, d2, d3] }
  | _ => none }
def ReplySupportsWrongFalsely : Prop := replySupportsRow.holds Try.pinned (OpenSpec.ofChange replySupportsWrong)

/- THE SECOND FORM. 'bulk': how many values and letters a reading holds, each counted each time it is reached (what is shared counts as often as it is met; a slice's spare places count too). A statement '..UptoSaid' is the law's where the arguments, and the package variables that the reading takes, are together of bulk at most 1048576: NARROWER than '..Said'. Prove '..Said' where nothing that the law and all that it calls make is longer than what came in: it says more and counts as full. Else prove '..UptoSaid'. A law counts once. -/
mutual
def uptoBulk {H : Type} : DataW H → Nat
  | .lit (.string bytes) => bytes.length + 1
  | .lit _ => 1
  | .nil => 1
  | .ptr d => uptoBulk d + 1
  | .slice elems spare => uptoBulkAll elems + uptoBulkAll spare + 1
  | .agg parts => uptoBulkAll parts + 1
  | .iface _ d => uptoBulk d + 1
  | .map entries => uptoBulkEntries entries + 1
  | .held _ => 1
def uptoBulkAll {H : Type} : List (DataW H) → Nat
  | [] => 0
  | d :: r => uptoBulk d + uptoBulkAll r
def uptoBulkEntries {H : Type} : List (Lit × DataW H) → Nat
  | [] => 0
  | x :: r => uptoBulkEntry x + uptoBulkEntries r
def uptoBulkEntry {H : Type} : Lit × DataW H → Nat
  | (.string bytes, d) => bytes.length + uptoBulk d + 1
  | (_, d) => uptoBulk d + 1
 end
def uptoSmall : (H : Type) → List (DataW H) → Bool := fun _ ds => decide (uptoBulkAll ds ≤ 1048576)
def OpenSpec.upto (s : _root_.Go.ChangeSpec) : _root_.Go.OpenSpec := { _root_.Go.OpenSpec.ofChange s with cond := some uptoSmall }

/-- 'signalboxlaw09.ReplyGets', WHERE WHAT IT READS IS OF BULK AT MOST 1048576: true; the input reads as it did. -/
def replyGetsUptoRow : OpenClaim := { program := "ytfeeeighafflnaa", sum := "4fb8e7314f36d366085a682ab9a1b0f2e47f6d13129560176951a012eb3384b1", func := "signalbox/signalboxlaw09.ReplyGets", spec := "replyGets", unfollowed := true, recurses := true, apart := false, narrowed := true }
def ReplyGetsUptoSaid : Prop := replyGetsUptoRow.holds Try.pinned (OpenSpec.upto replyGetsSpec)

/-- 'signalboxlaw09.ReplyPuts', WHERE WHAT IT READS IS OF BULK AT MOST 1048576: true; the input reads as it did. -/
def replyPutsUptoRow : OpenClaim := { program := "ytfeeeighafflnaa", sum := "4fb8e7314f36d366085a682ab9a1b0f2e47f6d13129560176951a012eb3384b1", func := "signalbox/signalboxlaw09.ReplyPuts", spec := "replyPuts", unfollowed := true, recurses := true, apart := false, narrowed := true }
def ReplyPutsUptoSaid : Prop := replyPutsUptoRow.holds Try.pinned (OpenSpec.upto replyPutsSpec)

/-- 'signalboxlaw09.ReplyBack', WHERE WHAT IT READS IS OF BULK AT MOST 1048576: true; the input reads as it did. -/
def replyBackUptoRow : OpenClaim := { program := "ytfeeeighafflnaa", sum := "4fb8e7314f36d366085a682ab9a1b0f2e47f6d13129560176951a012eb3384b1", func := "signalbox/signalboxlaw09.ReplyBack", spec := "replyBack", unfollowed := true, recurses := true, apart := false, narrowed := true }
def ReplyBackUptoSaid : Prop := replyBackUptoRow.holds Try.pinned (OpenSpec.upto replyBackSpec)

/-- 'signalboxlaw09.ReplyCut', WHERE WHAT IT READS IS OF BULK AT MOST 1048576: true; the input reads as it did. -/
def replyCutUptoRow : OpenClaim := { program := "ytfeeeighafflnaa", sum := "4fb8e7314f36d366085a682ab9a1b0f2e47f6d13129560176951a012eb3384b1", func := "signalbox/signalboxlaw09.ReplyCut", spec := "replyCut", unfollowed := true, recurses := true, apart := false, narrowed := true }
def ReplyCutUptoSaid : Prop := replyCutUptoRow.holds Try.pinned (OpenSpec.upto replyCutSpec)

/-- 'signalboxlaw09.ReplySupports', WHERE WHAT IT READS IS OF BULK AT MOST 1048576: true; the input reads as it did. -/
def replySupportsUptoRow : OpenClaim := { program := "ytfeeeighafflnaa", sum := "4fb8e7314f36d366085a682ab9a1b0f2e47f6d13129560176951a012eb3384b1", func := "signalbox/signalboxlaw09.ReplySupports", spec := "replySupports", unfollowed := true, recurses := true, apart := false, narrowed := true }
def ReplySupportsUptoSaid : Prop := replySupportsUptoRow.holds Try.pinned (OpenSpec.upto replySupportsSpec)

end Rows
end Go.Proofs.Ytfeeeighafflnaa
