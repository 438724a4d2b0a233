/-
  No cell of these rows narrows 'for every input' (looked for: loops, veiled, ifaces, maps, wideKeys, modest, calm, conditions, laid).
  DERIVED. THE GIVEN ROWS OF THIS SEAT. 4 by the template 'for every input the law returns true; each argument reads behind the call as it read before'; 0 by the template 'total and deterministic' (their statements: YtpgcadicamnpkaaTotals.lean).
  GIVEN WITH THE SEED: the statements are not yours to turn. If you find one false, say at which input.
  Laid BY PROGRAM, IN A SANDBOX (cutbox-rows.mjs): the forced cells as the released guide's own fill.sh prints them over the translation 2ea3dea63b58700f… (all of the seat's roots in one cut). By AI agents, Wed Nov 11 2026. No macro, syntax, notation, axiom, sorry.
-/
import Derived.Test.YtpgcadicamnpkaaChecked
import GoSem.Claim
import GoSem.ClaimJoined
import GoSem.ClaimMapViews
import Derived.JoinedTies
import Derived.KernelRfl
namespace Go.Proofs.Ytpgcadicamnpkaa
/- THE CELL 'sum', in the pinned program and in every row, IS THE sha256 OF THE DUMP (.gsa) THAT YtpgcadicamnpkaaProg.lean LOADS. Nothing in Lean hashes anything: it is a label: what it is worth is what the hold of that sum in a sandbox is worth. -/
noncomputable def Try.pinned : Pinned := { name := "ytpgcadicamnpkaa", sum := "2ea3dea63b58700f46bd6dd805bac56c844f51937163d12ff102d9eaf7b34ada", checked := Try.checked }
namespace Rows
def none {H : Type} : Left H := { results := [], args := [] }

/-- 'signalboxlaw07.PrefixPuts': WHATEVER THE INPUT: true; the input reads as it did. -/
def prefixPutsSpec : ChangeSpec := { name := "prefixPuts", fn := fun _ => fun
  | [d1, d2] => { results := [.lit (.bool true)], args := [d1, d2] }
  | _ => none }
def prefixPutsRow : OpenClaim := { program := "ytpgcadicamnpkaa", sum := "2ea3dea63b58700f46bd6dd805bac56c844f51937163d12ff102d9eaf7b34ada", func := "signalbox/signalboxlaw07.PrefixPuts", spec := "prefixPuts", unfollowed := true, recurses := true, apart := false }
def PrefixPutsSaid : Prop := prefixPutsRow.holds Try.pinned (OpenSpec.ofChange prefixPutsSpec)

/-- ITS FALSE NEIGHBOUR: 'it returns false'. Refute it at one input. -/
def prefixPutsWrong : ChangeSpec := { name := "prefixPuts", fn := fun _ => fun
  | [d1, d2] => { results := [.lit (.bool false)], args := [d1, d2] }
  | _ => none }
def PrefixPutsWrongFalsely : Prop := prefixPutsRow.holds Try.pinned (OpenSpec.ofChange prefixPutsWrong)

/-- 'signalboxlaw07.PrefixCut': WHATEVER THE INPUT: true; the input reads as it did. -/
def prefixCutSpec : ChangeSpec := { name := "prefixCut", fn := fun _ => fun
  | [d1, d2] => { results := [.lit (.bool true)], args := [d1, d2] }
  | _ => none }
def prefixCutRow : OpenClaim := { program := "ytpgcadicamnpkaa", sum := "2ea3dea63b58700f46bd6dd805bac56c844f51937163d12ff102d9eaf7b34ada", func := "signalbox/signalboxlaw07.PrefixCut", spec := "prefixCut", unfollowed := true, recurses := true, apart := false }
def PrefixCutSaid : Prop := prefixCutRow.holds Try.pinned (OpenSpec.ofChange prefixCutSpec)

/-- ITS FALSE NEIGHBOUR: 'it returns false'. Refute it at one input. -/
def prefixCutWrong : ChangeSpec := { name := "prefixCut", fn := fun _ => fun
  | [d1, d2] => { results := [.lit (.bool false)], args := [d1, d2] }
  | _ => none }
def PrefixCutWrongFalsely : Prop := prefixCutRow.holds Try.pinned (OpenSpec.ofChange prefixCutWrong)

/-- 'signalboxlaw07.PrefixReads': WHATEVER THE INPUT: true; the input reads as it did. -/
def prefixReadsSpec : ChangeSpec := { name := "prefixReads", fn := fun _ => fun
  | [d1, d2] => { results := [.lit (.bool true)], args := [d1, d2] }
  | _ => none }
def prefixReadsRow : OpenClaim := { program := "ytpgcadicamnpkaa", sum := "2ea3dea63b58700f46bd6dd805bac56c844f51937163d12ff102d9eaf7b34ada", func := "signalbox/signalboxlaw07.PrefixReads", spec := "prefixReads", unfollowed := true, recurses := true, apart := false }
def PrefixReadsSaid : Prop := prefixReadsRow.holds Try.pinned (OpenSpec.ofChange prefixReadsSpec)

/-- ITS FALSE NEIGHBOUR: 'it returns false'. Refute it at one input. -/
def prefixReadsWrong : ChangeSpec := { name := "prefixReads", fn := fun _ => fun
  | [d1, d2] => { results := [.lit (.bool false)], args := [d1, d2] }
  | _ => none }
def PrefixReadsWrongFalsely : Prop := prefixReadsRow.holds Try.pinned (OpenSpec.ofChange prefixReadsWrong)

/-- 'signalboxlaw07.PrefixFlags': WHATEVER THE INPUT: true; the input reads as it did. -/
def prefixFlagsSpec : ChangeSpec := { name := "prefixFlags", fn := fun _ => fun
  | [d1, d2] => { results := [.lit (.bool true)], args := [d1, d2] }
  | _ => none }
def prefixFlagsRow : OpenClaim := { program := "ytpgcadicamnpkaa", sum := "2ea3dea63b58700f46bd6dd805bac56c844f51937163d12ff102d9eaf7b34ada", func := "signalbox/signalboxlaw07.PrefixFlags", spec := "prefixFlags", unfollowed := true, recurses := true, apart := false }
def PrefixFlagsSaid : Prop := prefixFlagsRow.holds Try.pinned (OpenSpec.ofChange prefixFlagsSpec)

/-- ITS FALSE NEIGHBOUR: 'it returns false'. Refute it at one input. -/
def prefixFlagsWrong : ChangeSpec := { name := "prefixFlags", fn := fun _ => fun
  | [d1, d2] => { results := [.lit (.bool false)], args := [d1, d2] }
  | _ => none }
def PrefixFlagsWrongFalsely : Prop := prefixFlagsRow.holds Try.pinned (OpenSpec.ofChange prefixFlagsWrong)

/- THE SECOND FORM. 'bulk': how many values and letters a reading holds, each counted each time it is reached (what is shared counts as often as it is met; a slice's spare places count too). A statement '..UptoSaid' is the law's where the arguments, and the package variables that the reading takes, are together of bulk at most 1048576: NARROWER than '..Said'. Prove '..Said' where nothing that the law and all that it calls make is longer than what came in: it says more and counts as full. Else prove '..UptoSaid'. A law counts once. -/
mutual
def uptoBulk {H : Type} : DataW H → Nat
  | .lit (.string bytes) => bytes.length + 1
  | .lit _ => 1
  | .nil => 1
  | .ptr d => uptoBulk d + 1
  | .slice elems spare => uptoBulkAll elems + uptoBulkAll spare + 1
  | .agg parts => uptoBulkAll parts + 1
  | .iface _ d => uptoBulk d + 1
  | .map entries => uptoBulkEntries entries + 1
  | .held _ => 1
def uptoBulkAll {H : Type} : List (DataW H) → Nat
  | [] => 0
  | d :: r => uptoBulk d + uptoBulkAll r
def uptoBulkEntries {H : Type} : List (Lit × DataW H) → Nat
  | [] => 0
  | x :: r => uptoBulkEntry x + uptoBulkEntries r
def uptoBulkEntry {H : Type} : Lit × DataW H → Nat
  | (.string bytes, d) => bytes.length + uptoBulk d + 1
  | (_, d) => uptoBulk d + 1
 end
def uptoSmall : (H : Type) → List (DataW H) → Bool := fun _ ds => decide (uptoBulkAll ds ≤ 1048576)
def OpenSpec.upto (s : _root_.Go.ChangeSpec) : _root_.Go.OpenSpec := { _root_.Go.OpenSpec.ofChange s with cond := some uptoSmall }

/-- 'signalboxlaw07.PrefixPuts', WHERE WHAT IT READS IS OF BULK AT MOST 1048576: true; the input reads as it did. -/
def prefixPutsUptoRow : OpenClaim := { program := "ytpgcadicamnpkaa", sum := "2ea3dea63b58700f46bd6dd805bac56c844f51937163d12ff102d9eaf7b34ada", func := "signalbox/signalboxlaw07.PrefixPuts", spec := "prefixPuts", unfollowed := true, recurses := true, apart := false, narrowed := true }
def PrefixPutsUptoSaid : Prop := prefixPutsUptoRow.holds Try.pinned (OpenSpec.upto prefixPutsSpec)

/-- 'signalboxlaw07.PrefixCut', WHERE WHAT IT READS IS OF BULK AT MOST 1048576: true; the input reads as it did. -/
def prefixCutUptoRow : OpenClaim := { program := "ytpgcadicamnpkaa", sum := "2ea3dea63b58700f46bd6dd805bac56c844f51937163d12ff102d9eaf7b34ada", func := "signalbox/signalboxlaw07.PrefixCut", spec := "prefixCut", unfollowed := true, recurses := true, apart := false, narrowed := true }
def PrefixCutUptoSaid : Prop := prefixCutUptoRow.holds Try.pinned (OpenSpec.upto prefixCutSpec)

/-- 'signalboxlaw07.PrefixReads', WHERE WHAT IT READS IS OF BULK AT MOST 1048576: true; the input reads as it did. -/
def prefixReadsUptoRow : OpenClaim := { program := "ytpgcadicamnpkaa", sum := "2ea3dea63b58700f46bd6dd805bac56c844f51937163d12ff102d9eaf7b34ada", func := "signalbox/signalboxlaw07.PrefixReads", spec := "prefixReads", unfollowed := true, recurses := true, apart := false, narrowed := true }
def PrefixReadsUptoSaid : Prop := prefixReadsUptoRow.holds Try.pinned (OpenSpec.upto prefixReadsSpec)

/-- 'signalboxlaw07.PrefixFlags', WHERE WHAT IT READS IS OF BULK AT MOST 1048576: true; the input reads as it did. -/
def prefixFlagsUptoRow : OpenClaim := { program := "ytpgcadicamnpkaa", sum := "2ea3dea63b58700f46bd6dd805bac56c844f51937163d12ff102d9eaf7b34ada", func := "signalbox/signalboxlaw07.PrefixFlags", spec := "prefixFlags", unfollowed := true, recurses := true, apart := false, narrowed := true }
def PrefixFlagsUptoSaid : Prop := prefixFlagsUptoRow.holds Try.pinned (OpenSpec.upto prefixFlagsSpec)

end Rows
end Go.Proofs.Ytpgcadicamnpkaa
