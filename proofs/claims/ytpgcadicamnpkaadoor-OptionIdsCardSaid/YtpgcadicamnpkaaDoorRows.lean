/-
  NARROWER THAN 'FOR EVERY INPUT', by the rows' own cells (each row's printed sentence says how): OptionPuts: loops, laid · OptionGets: laid · OptionBack: loops, laid · OptionDeep: laid · OptionIds: laid · OptionTexts: loops, laid · OptionCut: loops, laid.
  DERIVED. THE GIVEN ROWS OF THIS SEAT. 7 by the template 'for every input the law returns true; each argument reads behind the call as it read before'; 0 by the template 'total and deterministic' (their statements: YtpgcadicamnpkaaDoorTotals.lean).
  GIVEN WITH THE SEED: the statements are not yours to turn. If you find one false, say at which input.
  Laid BY PROGRAM, IN A SANDBOX (cutbox-rows.mjs): the forced cells as the released guide's own fill.sh prints them over the translation 8e869ee78a6d594d… (all of the seat's roots in one cut). By AI agents, Wed Nov 11 2026. No macro, syntax, notation, axiom, sorry.
-/
import Derived.Test.YtpgcadicamnpkaaDoorChecked
import GoSem.Claim
import GoSem.ClaimJoined
import GoSem.ClaimMapViews
import Derived.JoinedTies
import Derived.KernelRfl
namespace Go.Proofs.YtpgcadicamnpkaaDoor
/- THE CELL 'sum', in the pinned program and in every row, IS THE sha256 OF THE DUMP (.gsa) THAT YtpgcadicamnpkaaDoorProg.lean LOADS. Nothing in Lean hashes anything: it is a label: what it is worth is what the hold of that sum in a sandbox is worth. -/
noncomputable def Tryd.pinned : Pinned := { name := "ytpgcadicamnpkaadoor", sum := "8e869ee78a6d594d6277a72a590018f578a6a9f70bd15e5a6ba892c26e471e87", checked := Tryd.checked }
namespace Rows
def none {H : Type} : Left H := { results := [], args := [] }

/- WHAT THE LISTED PACKAGE-LEVEL VARIABLES READ AS WHEN THE CALL BEGINS. Each datum BY PROGRAM (the guide's laid-datum.mjs) off the statement by which the dump's own 'gosem.cut.vars' lays the variable. In a bare row this is a premise. The card (YtpgcadicamnpkaaDoorCards.lean) ties it to the program's text. -/
def laid_signalbox_option_plain {H : Type} : DataW H := .agg [.lit (.string []), .lit (.string [97, 115, 99, 105, 105]), .lit (.string [98, 105, 103, 105, 110, 116]), .lit (.string [98, 108, 111, 98]), .lit (.string [98, 111, 111, 108, 101, 97, 110]), .lit (.string [99, 111, 117, 110, 116, 101, 114]), .lit (.string [100, 101, 99, 105, 109, 97, 108]), .lit (.string [100, 111, 117, 98, 108, 101]), .lit (.string [102, 108, 111, 97, 116]), .lit (.string [105, 110, 116]), .lit (.string []), .lit (.string [116, 105, 109, 101, 115, 116, 97, 109, 112]), .lit (.string [117, 117, 105, 100]), .lit (.string [118, 97, 114, 99, 104, 97, 114]), .lit (.string [118, 97, 114, 105, 110, 116]), .lit (.string [116, 105, 109, 101, 117, 117, 105, 100]), .lit (.string [105, 110, 101, 116]), .lit (.string [100, 97, 116, 101]), .lit (.string [116, 105, 109, 101]), .lit (.string [115, 109, 97, 108, 108, 105, 110, 116]), .lit (.string [116, 105, 110, 121, 105, 110, 116])]

/-- 'signalboxlaw04.OptionPuts': WHATEVER THE INPUT: true; the input reads as it did. -/
def optionPutsSpec : ChangeSpec := { name := "optionPuts", fn := fun _ => fun
  | [d] => { results := [.lit (.bool true)], args := [d] }
  | _ => none }
def optionPutsRow : OpenClaim := { program := "ytpgcadicamnpkaadoor", sum := "8e869ee78a6d594d6277a72a590018f578a6a9f70bd15e5a6ba892c26e471e87", func := "signalbox/signalboxlaw04.OptionPuts", spec := "optionPuts", inPlace := ["internal/abi.NoEscape"], unfollowed := true, recurses := true, named := ["signalbox/option.plain"], loops := true, apart := false, laid := [("signalbox/option.plain", laid_signalbox_option_plain)] }
def OptionPutsSaid : Prop := optionPutsRow.holds Tryd.pinned (OpenSpec.ofChange optionPutsSpec)

/-- ITS FALSE NEIGHBOUR: 'it returns false'. Refute it at one input. -/
def optionPutsWrong : ChangeSpec := { name := "optionPuts", fn := fun _ => fun
  | [d] => { results := [.lit (.bool false)], args := [d] }
  | _ => none }
def OptionPutsWrongFalsely : Prop := optionPutsRow.holds Tryd.pinned (OpenSpec.ofChange optionPutsWrong)

/-- 'signalboxlaw04.OptionGets': WHATEVER THE INPUT: true; the input reads as it did. -/
def optionGetsSpec : ChangeSpec := { name := "optionGets", fn := fun _ => fun
  | [d] => { results := [.lit (.bool true)], args := [d] }
  | _ => none }
def optionGetsRow : OpenClaim := { program := "ytpgcadicamnpkaadoor", sum := "8e869ee78a6d594d6277a72a590018f578a6a9f70bd15e5a6ba892c26e471e87", func := "signalbox/signalboxlaw04.OptionGets", spec := "optionGets", inPlace := ["internal/abi.NoEscape"], unfollowed := true, recurses := true, named := ["signalbox/option.plain"], apart := false, laid := [("signalbox/option.plain", laid_signalbox_option_plain)] }
def OptionGetsSaid : Prop := optionGetsRow.holds Tryd.pinned (OpenSpec.ofChange optionGetsSpec)

/-- ITS FALSE NEIGHBOUR: 'it returns false'. Refute it at one input. -/
def optionGetsWrong : ChangeSpec := { name := "optionGets", fn := fun _ => fun
  | [d] => { results := [.lit (.bool false)], args := [d] }
  | _ => none }
def OptionGetsWrongFalsely : Prop := optionGetsRow.holds Tryd.pinned (OpenSpec.ofChange optionGetsWrong)

/-- 'signalboxlaw04.OptionBack': WHATEVER THE INPUT: true; the input reads as it did. -/
def optionBackSpec : ChangeSpec := { name := "optionBack", fn := fun _ => fun
  | [d1, d2] => { results := [.lit (.bool true)], args := [d1, d2] }
  | _ => none }
def optionBackRow : OpenClaim := { program := "ytpgcadicamnpkaadoor", sum := "8e869ee78a6d594d6277a72a590018f578a6a9f70bd15e5a6ba892c26e471e87", func := "signalbox/signalboxlaw04.OptionBack", spec := "optionBack", inPlace := ["internal/abi.NoEscape"], unfollowed := true, recurses := true, named := ["signalbox/option.plain"], loops := true, apart := false, laid := [("signalbox/option.plain", laid_signalbox_option_plain)] }
def OptionBackSaid : Prop := optionBackRow.holds Tryd.pinned (OpenSpec.ofChange optionBackSpec)

/-- ITS FALSE NEIGHBOUR: 'it returns false'. Refute it at one input. -/
def optionBackWrong : ChangeSpec := { name := "optionBack", fn := fun _ => fun
  | [d1, d2] => { results := [.lit (.bool false)], args := [d1, d2] }
  | _ => none }
def OptionBackWrongFalsely : Prop := optionBackRow.holds Tryd.pinned (OpenSpec.ofChange optionBackWrong)

/-- 'signalboxlaw04.OptionDeep': WHATEVER THE INPUT: true; the input reads as it did. -/
def optionDeepSpec : ChangeSpec := { name := "optionDeep", fn := fun _ => fun
  | [d1, d2] => { results := [.lit (.bool true)], args := [d1, d2] }
  | _ => none }
def optionDeepRow : OpenClaim := { program := "ytpgcadicamnpkaadoor", sum := "8e869ee78a6d594d6277a72a590018f578a6a9f70bd15e5a6ba892c26e471e87", func := "signalbox/signalboxlaw04.OptionDeep", spec := "optionDeep", inPlace := ["internal/abi.NoEscape"], unfollowed := true, recurses := true, named := ["signalbox/option.plain"], apart := false, laid := [("signalbox/option.plain", laid_signalbox_option_plain)] }
def OptionDeepSaid : Prop := optionDeepRow.holds Tryd.pinned (OpenSpec.ofChange optionDeepSpec)

/-- ITS FALSE NEIGHBOUR: 'it returns false'. Refute it at one input. -/
def optionDeepWrong : ChangeSpec := { name := "optionDeep", fn := fun _ => fun
  | [d1, d2] => { results := [.lit (.bool false)], args := [d1, d2] }
  | _ => none }
def OptionDeepWrongFalsely : Prop := optionDeepRow.holds Tryd.pinned (OpenSpec.ofChange optionDeepWrong)

/-- 'signalboxlaw04.OptionIds': WHATEVER THE INPUT: true; the input reads as it did. -/
def optionIdsSpec : ChangeSpec := { name := "optionIds", fn := fun _ => fun
  | [d] => { results := [.lit (.bool true)], args := [d] }
  | _ => none }
def optionIdsRow : OpenClaim := { program := "ytpgcadicamnpkaadoor", sum := "8e869ee78a6d594d6277a72a590018f578a6a9f70bd15e5a6ba892c26e471e87", func := "signalbox/signalboxlaw04.OptionIds", spec := "optionIds", inPlace := ["internal/abi.NoEscape"], unfollowed := true, recurses := true, named := ["signalbox/option.plain"], apart := false, laid := [("signalbox/option.plain", laid_signalbox_option_plain)] }
def OptionIdsSaid : Prop := optionIdsRow.holds Tryd.pinned (OpenSpec.ofChange optionIdsSpec)

/-- ITS FALSE NEIGHBOUR: 'it returns false'. Refute it at one input. -/
def optionIdsWrong : ChangeSpec := { name := "optionIds", fn := fun _ => fun
  | [d] => { results := [.lit (.bool false)], args := [d] }
  | _ => none }
def OptionIdsWrongFalsely : Prop := optionIdsRow.holds Tryd.pinned (OpenSpec.ofChange optionIdsWrong)

/-- 'signalboxlaw04.OptionTexts': WHATEVER THE INPUT: true; the input reads as it did. -/
def optionTextsSpec : ChangeSpec := { name := "optionTexts", fn := fun _ => fun
  | [d1, d2] => { results := [.lit (.bool true)], args := [d1, d2] }
  | _ => none }
def optionTextsRow : OpenClaim := { program := "ytpgcadicamnpkaadoor", sum := "8e869ee78a6d594d6277a72a590018f578a6a9f70bd15e5a6ba892c26e471e87", func := "signalbox/signalboxlaw04.OptionTexts", spec := "optionTexts", inPlace := ["internal/abi.NoEscape"], unfollowed := true, recurses := true, named := ["signalbox/option.plain"], loops := true, apart := false, laid := [("signalbox/option.plain", laid_signalbox_option_plain)] }
def OptionTextsSaid : Prop := optionTextsRow.holds Tryd.pinned (OpenSpec.ofChange optionTextsSpec)

/-- ITS FALSE NEIGHBOUR: 'it returns false'. Refute it at one input. -/
def optionTextsWrong : ChangeSpec := { name := "optionTexts", fn := fun _ => fun
  | [d1, d2] => { results := [.lit (.bool false)], args := [d1, d2] }
  | _ => none }
def OptionTextsWrongFalsely : Prop := optionTextsRow.holds Tryd.pinned (OpenSpec.ofChange optionTextsWrong)

/-- 'signalboxlaw04.OptionCut': WHATEVER THE INPUT: true; the input reads as it did. -/
def optionCutSpec : ChangeSpec := { name := "optionCut", fn := fun _ => fun
  | [d1, d2] => { results := [.lit (.bool true)], args := [d1, d2] }
  | _ => none }
def optionCutRow : OpenClaim := { program := "ytpgcadicamnpkaadoor", sum := "8e869ee78a6d594d6277a72a590018f578a6a9f70bd15e5a6ba892c26e471e87", func := "signalbox/signalboxlaw04.OptionCut", spec := "optionCut", inPlace := ["internal/abi.NoEscape"], unfollowed := true, recurses := true, named := ["signalbox/option.plain"], loops := true, apart := false, laid := [("signalbox/option.plain", laid_signalbox_option_plain)] }
def OptionCutSaid : Prop := optionCutRow.holds Tryd.pinned (OpenSpec.ofChange optionCutSpec)

/-- ITS FALSE NEIGHBOUR: 'it returns false'. Refute it at one input. -/
def optionCutWrong : ChangeSpec := { name := "optionCut", fn := fun _ => fun
  | [d1, d2] => { results := [.lit (.bool false)], args := [d1, d2] }
  | _ => none }
def OptionCutWrongFalsely : Prop := optionCutRow.holds Tryd.pinned (OpenSpec.ofChange optionCutWrong)

/- THE SECOND FORM. 'bulk': how many values and letters a reading holds, each counted each time it is reached (what is shared counts as often as it is met; a slice's spare places count too). A statement '..UptoSaid' is the law's where the arguments, and the package variables that the reading takes, are together of bulk at most 1048576: NARROWER than '..Said'. Prove '..Said' where nothing that the law and all that it calls make is longer than what came in: it says more and counts as full. Else prove '..UptoSaid'. A law counts once. -/
mutual
def uptoBulk {H : Type} : DataW H → Nat
  | .lit (.string bytes) => bytes.length + 1
  | .lit _ => 1
  | .nil => 1
  | .ptr d => uptoBulk d + 1
  | .slice elems spare => uptoBulkAll elems + uptoBulkAll spare + 1
  | .agg parts => uptoBulkAll parts + 1
  | .iface _ d => uptoBulk d + 1
  | .map entries => uptoBulkEntries entries + 1
  | .held _ => 1
def uptoBulkAll {H : Type} : List (DataW H) → Nat
  | [] => 0
  | d :: r => uptoBulk d + uptoBulkAll r
def uptoBulkEntries {H : Type} : List (Lit × DataW H) → Nat
  | [] => 0
  | x :: r => uptoBulkEntry x + uptoBulkEntries r
def uptoBulkEntry {H : Type} : Lit × DataW H → Nat
  | (.string bytes, d) => bytes.length + uptoBulk d + 1
  | (_, d) => uptoBulk d + 1
 end
def uptoSmall : (H : Type) → List (DataW H) → Bool := fun _ ds => decide (uptoBulkAll ds ≤ 1048576)
def OpenSpec.upto (s : _root_.Go.ChangeSpec) : _root_.Go.OpenSpec := { _root_.Go.OpenSpec.ofChange s with cond := some uptoSmall }

/-- 'signalboxlaw04.OptionPuts', WHERE WHAT IT READS IS OF BULK AT MOST 1048576: true; the input reads as it did. -/
def optionPutsUptoRow : OpenClaim := { program := "ytpgcadicamnpkaadoor", sum := "8e869ee78a6d594d6277a72a590018f578a6a9f70bd15e5a6ba892c26e471e87", func := "signalbox/signalboxlaw04.OptionPuts", spec := "optionPuts", inPlace := ["internal/abi.NoEscape"], unfollowed := true, recurses := true, named := ["signalbox/option.plain"], loops := true, apart := false, laid := [("signalbox/option.plain", laid_signalbox_option_plain)], narrowed := true }
def OptionPutsUptoSaid : Prop := optionPutsUptoRow.holds Tryd.pinned (OpenSpec.upto optionPutsSpec)

/-- 'signalboxlaw04.OptionGets', WHERE WHAT IT READS IS OF BULK AT MOST 1048576: true; the input reads as it did. -/
def optionGetsUptoRow : OpenClaim := { program := "ytpgcadicamnpkaadoor", sum := "8e869ee78a6d594d6277a72a590018f578a6a9f70bd15e5a6ba892c26e471e87", func := "signalbox/signalboxlaw04.OptionGets", spec := "optionGets", inPlace := ["internal/abi.NoEscape"], unfollowed := true, recurses := true, named := ["signalbox/option.plain"], apart := false, laid := [("signalbox/option.plain", laid_signalbox_option_plain)], narrowed := true }
def OptionGetsUptoSaid : Prop := optionGetsUptoRow.holds Tryd.pinned (OpenSpec.upto optionGetsSpec)

/-- 'signalboxlaw04.OptionBack', WHERE WHAT IT READS IS OF BULK AT MOST 1048576: true; the input reads as it did. -/
def optionBackUptoRow : OpenClaim := { program := "ytpgcadicamnpkaadoor", sum := "8e869ee78a6d594d6277a72a590018f578a6a9f70bd15e5a6ba892c26e471e87", func := "signalbox/signalboxlaw04.OptionBack", spec := "optionBack", inPlace := ["internal/abi.NoEscape"], unfollowed := true, recurses := true, named := ["signalbox/option.plain"], loops := true, apart := false, laid := [("signalbox/option.plain", laid_signalbox_option_plain)], narrowed := true }
def OptionBackUptoSaid : Prop := optionBackUptoRow.holds Tryd.pinned (OpenSpec.upto optionBackSpec)

/-- 'signalboxlaw04.OptionDeep', WHERE WHAT IT READS IS OF BULK AT MOST 1048576: true; the input reads as it did. -/
def optionDeepUptoRow : OpenClaim := { program := "ytpgcadicamnpkaadoor", sum := "8e869ee78a6d594d6277a72a590018f578a6a9f70bd15e5a6ba892c26e471e87", func := "signalbox/signalboxlaw04.OptionDeep", spec := "optionDeep", inPlace := ["internal/abi.NoEscape"], unfollowed := true, recurses := true, named := ["signalbox/option.plain"], apart := false, laid := [("signalbox/option.plain", laid_signalbox_option_plain)], narrowed := true }
def OptionDeepUptoSaid : Prop := optionDeepUptoRow.holds Tryd.pinned (OpenSpec.upto optionDeepSpec)

/-- 'signalboxlaw04.OptionIds', WHERE WHAT IT READS IS OF BULK AT MOST 1048576: true; the input reads as it did. -/
def optionIdsUptoRow : OpenClaim := { program := "ytpgcadicamnpkaadoor", sum := "8e869ee78a6d594d6277a72a590018f578a6a9f70bd15e5a6ba892c26e471e87", func := "signalbox/signalboxlaw04.OptionIds", spec := "optionIds", inPlace := ["internal/abi.NoEscape"], unfollowed := true, recurses := true, named := ["signalbox/option.plain"], apart := false, laid := [("signalbox/option.plain", laid_signalbox_option_plain)], narrowed := true }
def OptionIdsUptoSaid : Prop := optionIdsUptoRow.holds Tryd.pinned (OpenSpec.upto optionIdsSpec)

/-- 'signalboxlaw04.OptionTexts', WHERE WHAT IT READS IS OF BULK AT MOST 1048576: true; the input reads as it did. -/
def optionTextsUptoRow : OpenClaim := { program := "ytpgcadicamnpkaadoor", sum := "8e869ee78a6d594d6277a72a590018f578a6a9f70bd15e5a6ba892c26e471e87", func := "signalbox/signalboxlaw04.OptionTexts", spec := "optionTexts", inPlace := ["internal/abi.NoEscape"], unfollowed := true, recurses := true, named := ["signalbox/option.plain"], loops := true, apart := false, laid := [("signalbox/option.plain", laid_signalbox_option_plain)], narrowed := true }
def OptionTextsUptoSaid : Prop := optionTextsUptoRow.holds Tryd.pinned (OpenSpec.upto optionTextsSpec)

/-- 'signalboxlaw04.OptionCut', WHERE WHAT IT READS IS OF BULK AT MOST 1048576: true; the input reads as it did. -/
def optionCutUptoRow : OpenClaim := { program := "ytpgcadicamnpkaadoor", sum := "8e869ee78a6d594d6277a72a590018f578a6a9f70bd15e5a6ba892c26e471e87", func := "signalbox/signalboxlaw04.OptionCut", spec := "optionCut", inPlace := ["internal/abi.NoEscape"], unfollowed := true, recurses := true, named := ["signalbox/option.plain"], loops := true, apart := false, laid := [("signalbox/option.plain", laid_signalbox_option_plain)], narrowed := true }
def OptionCutUptoSaid : Prop := optionCutUptoRow.holds Tryd.pinned (OpenSpec.upto optionCutSpec)

end Rows
end Go.Proofs.YtpgcadicamnpkaaDoor
