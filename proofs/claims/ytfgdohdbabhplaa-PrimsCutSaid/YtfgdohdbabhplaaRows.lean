/-
  No cell of these rows narrows 'for every input' (looked for: loops, veiled, ifaces, maps, wideKeys, modest, calm, conditions, laid).
  DERIVED. THE GIVEN ROWS OF THIS SEAT. 13 by the template 'for every input the law returns true; each argument reads behind the call as it read before'; 0 by the template 'total and deterministic' (their statements: YtfgdohdbabhplaaTotals.lean).
  GIVEN WITH THE SEED: the statements are not yours to turn. If you find one false, say at which input.
  Laid BY PROGRAM, IN A SANDBOX (cutbox-rows.mjs): the forced cells as the released guide's own fill.sh prints them over the translation c569dd262ce725a0… (all of the seat's roots in one cut). By AI agents, Wed Nov 11 2026. No macro, syntax, notation, axiom, sorry.
-/
import Derived.Test.YtfgdohdbabhplaaChecked
import GoSem.Claim
import GoSem.ClaimJoined
import GoSem.ClaimMapViews
import Derived.JoinedTies
import Derived.KernelRfl
namespace Go.Proofs.Ytfgdohdbabhplaa
/- THE CELL 'sum', in the pinned program and in every row, IS THE sha256 OF THE DUMP (.gsa) THAT YtfgdohdbabhplaaProg.lean LOADS. Nothing in Lean hashes anything: it is a label: what it is worth is what the hold of that sum in a sandbox is worth. -/
noncomputable def Try.pinned : Pinned := { name := "ytfgdohdbabhplaa", sum := "c569dd262ce725a0d549a35b9e04071beb85bf7dd3c2f67529c5a47b6effad66", checked := Try.checked }
namespace Rows
def none {H : Type} : Left H := { results := [], args := [] }

/-- 'signalboxlaw02.PrimsValues': WHATEVER THE INPUT: true; the input reads as it did. -/
def primsValuesSpec : ChangeSpec := { name := "primsValues", fn := fun _ => fun
  | [d1, d2] => { results := [.lit (.bool true)], args := [d1, d2] }
  | _ => none }
def primsValuesRow : OpenClaim := { program := "ytfgdohdbabhplaa", sum := "c569dd262ce725a0d549a35b9e04071beb85bf7dd3c2f67529c5a47b6effad66", func := "signalbox/signalboxlaw02.PrimsValues", spec := "primsValues", apart := false }
def PrimsValuesSaid : Prop := primsValuesRow.holds Try.pinned (OpenSpec.ofChange primsValuesSpec)

/-- ITS FALSE NEIGHBOUR: 'it returns false'. Refute it at one input. -/
def primsValuesWrong : ChangeSpec := { name := "primsValues", fn := fun _ => fun
  | [d1, d2] => { results := [.lit (.bool false)], args := [d1, d2] }
  | _ => none }
def PrimsValuesWrongFalsely : Prop := primsValuesRow.holds Try.pinned (OpenSpec.ofChange primsValuesWrong)

/-- 'signalboxlaw02.PrimsTold': WHATEVER THE INPUT: true; the input reads as it did. -/
def primsToldSpec : ChangeSpec := { name := "primsTold", fn := fun _ => fun
  | [d1, d2] => { results := [.lit (.bool true)], args := [d1, d2] }
  | _ => none }
def primsToldRow : OpenClaim := { program := "ytfgdohdbabhplaa", sum := "c569dd262ce725a0d549a35b9e04071beb85bf7dd3c2f67529c5a47b6effad66", func := "signalbox/signalboxlaw02.PrimsTold", spec := "primsTold", apart := false }
def PrimsToldSaid : Prop := primsToldRow.holds Try.pinned (OpenSpec.ofChange primsToldSpec)

/-- ITS FALSE NEIGHBOUR: 'it returns false'. Refute it at one input. -/
def primsToldWrong : ChangeSpec := { name := "primsTold", fn := fun _ => fun
  | [d1, d2] => { results := [.lit (.bool false)], args := [d1, d2] }
  | _ => none }
def PrimsToldWrongFalsely : Prop := primsToldRow.holds Try.pinned (OpenSpec.ofChange primsToldWrong)

/-- 'signalboxlaw02.PrimsTexts': WHATEVER THE INPUT: true; the input reads as it did. -/
def primsTextsSpec : ChangeSpec := { name := "primsTexts", fn := fun _ => fun
  | [d1, d2] => { results := [.lit (.bool true)], args := [d1, d2] }
  | _ => none }
def primsTextsRow : OpenClaim := { program := "ytfgdohdbabhplaa", sum := "c569dd262ce725a0d549a35b9e04071beb85bf7dd3c2f67529c5a47b6effad66", func := "signalbox/signalboxlaw02.PrimsTexts", spec := "primsTexts", apart := false }
def PrimsTextsSaid : Prop := primsTextsRow.holds Try.pinned (OpenSpec.ofChange primsTextsSpec)

/-- ITS FALSE NEIGHBOUR: 'it returns false'. Refute it at one input. -/
def primsTextsWrong : ChangeSpec := { name := "primsTexts", fn := fun _ => fun
  | [d1, d2] => { results := [.lit (.bool false)], args := [d1, d2] }
  | _ => none }
def PrimsTextsWrongFalsely : Prop := primsTextsRow.holds Try.pinned (OpenSpec.ofChange primsTextsWrong)

/-- 'signalboxlaw03.MapsTexts': WHATEVER THE INPUT: true; the input reads as it did. -/
def mapsTextsSpec : ChangeSpec := { name := "mapsTexts", fn := fun _ => fun
  | [d1, d2] => { results := [.lit (.bool true)], args := [d1, d2] }
  | _ => none }
def mapsTextsRow : OpenClaim := { program := "ytfgdohdbabhplaa", sum := "c569dd262ce725a0d549a35b9e04071beb85bf7dd3c2f67529c5a47b6effad66", func := "signalbox/signalboxlaw03.MapsTexts", spec := "mapsTexts", unfollowed := true, recurses := true, apart := false }
def MapsTextsSaid : Prop := mapsTextsRow.holds Try.pinned (OpenSpec.ofChange mapsTextsSpec)

/-- ITS FALSE NEIGHBOUR: 'it returns false'. Refute it at one input. -/
def mapsTextsWrong : ChangeSpec := { name := "mapsTexts", fn := fun _ => fun
  | [d1, d2] => { results := [.lit (.bool false)], args := [d1, d2] }
  | _ => none }
def MapsTextsWrongFalsely : Prop := mapsTextsRow.holds Try.pinned (OpenSpec.ofChange mapsTextsWrong)

/-- 'signalboxlaw03.MapsRows': WHATEVER THE INPUT: true; the input reads as it did. -/
def mapsRowsSpec : ChangeSpec := { name := "mapsRows", fn := fun _ => fun
  | [d] => { results := [.lit (.bool true)], args := [d] }
  | _ => none }
def mapsRowsRow : OpenClaim := { program := "ytfgdohdbabhplaa", sum := "c569dd262ce725a0d549a35b9e04071beb85bf7dd3c2f67529c5a47b6effad66", func := "signalbox/signalboxlaw03.MapsRows", spec := "mapsRows", unfollowed := true, recurses := true, apart := false }
def MapsRowsSaid : Prop := mapsRowsRow.holds Try.pinned (OpenSpec.ofChange mapsRowsSpec)

/-- ITS FALSE NEIGHBOUR: 'it returns false'. Refute it at one input. -/
def mapsRowsWrong : ChangeSpec := { name := "mapsRows", fn := fun _ => fun
  | [d] => { results := [.lit (.bool false)], args := [d] }
  | _ => none }
def MapsRowsWrongFalsely : Prop := mapsRowsRow.holds Try.pinned (OpenSpec.ofChange mapsRowsWrong)

/-- 'signalboxlaw03.MapsPairs': WHATEVER THE INPUT: true; the input reads as it did. -/
def mapsPairsSpec : ChangeSpec := { name := "mapsPairs", fn := fun _ => fun
  | [d1, d2] => { results := [.lit (.bool true)], args := [d1, d2] }
  | _ => none }
def mapsPairsRow : OpenClaim := { program := "ytfgdohdbabhplaa", sum := "c569dd262ce725a0d549a35b9e04071beb85bf7dd3c2f67529c5a47b6effad66", func := "signalbox/signalboxlaw03.MapsPairs", spec := "mapsPairs", unfollowed := true, recurses := true, apart := false }
def MapsPairsSaid : Prop := mapsPairsRow.holds Try.pinned (OpenSpec.ofChange mapsPairsSpec)

/-- ITS FALSE NEIGHBOUR: 'it returns false'. Refute it at one input. -/
def mapsPairsWrong : ChangeSpec := { name := "mapsPairs", fn := fun _ => fun
  | [d1, d2] => { results := [.lit (.bool false)], args := [d1, d2] }
  | _ => none }
def MapsPairsWrongFalsely : Prop := mapsPairsRow.holds Try.pinned (OpenSpec.ofChange mapsPairsWrong)

/-- 'signalboxlaw03.MapsMultis': WHATEVER THE INPUT: true; the input reads as it did. -/
def mapsMultisSpec : ChangeSpec := { name := "mapsMultis", fn := fun _ => fun
  | [d1, d2] => { results := [.lit (.bool true)], args := [d1, d2] }
  | _ => none }
def mapsMultisRow : OpenClaim := { program := "ytfgdohdbabhplaa", sum := "c569dd262ce725a0d549a35b9e04071beb85bf7dd3c2f67529c5a47b6effad66", func := "signalbox/signalboxlaw03.MapsMultis", spec := "mapsMultis", unfollowed := true, recurses := true, apart := false }
def MapsMultisSaid : Prop := mapsMultisRow.holds Try.pinned (OpenSpec.ofChange mapsMultisSpec)

/-- ITS FALSE NEIGHBOUR: 'it returns false'. Refute it at one input. -/
def mapsMultisWrong : ChangeSpec := { name := "mapsMultis", fn := fun _ => fun
  | [d1, d2] => { results := [.lit (.bool false)], args := [d1, d2] }
  | _ => none }
def MapsMultisWrongFalsely : Prop := mapsMultisRow.holds Try.pinned (OpenSpec.ofChange mapsMultisWrong)

/-- 'signalboxlaw03.MapsBack': WHATEVER THE INPUT: true; the input reads as it did. -/
def mapsBackSpec : ChangeSpec := { name := "mapsBack", fn := fun _ => fun
  | [d1, d2, d3] => { results := [.lit (.bool true)], args := [d1, d2, d3] }
  | _ => none }
def mapsBackRow : OpenClaim := { program := "ytfgdohdbabhplaa", sum := "c569dd262ce725a0d549a35b9e04071beb85bf7dd3c2f67529c5a47b6effad66", func := "signalbox/signalboxlaw03.MapsBack", spec := "mapsBack", unfollowed := true, recurses := true, apart := false }
def MapsBackSaid : Prop := mapsBackRow.holds Try.pinned (OpenSpec.ofChange mapsBackSpec)

/-- ITS FALSE NEIGHBOUR: 'it returns false'. Refute it at one input. -/
def mapsBackWrong : ChangeSpec := { name := "mapsBack", fn := fun _ => fun
  | [d1, d2, d3] => { results := [.lit (.bool false)], args := [d1, d2, d3] }
  | _ => none }
def MapsBackWrongFalsely : Prop := mapsBackRow.holds Try.pinned (OpenSpec.ofChange mapsBackWrong)

/-- 'signalboxlaw03.MapsEntries': WHATEVER THE INPUT: true; the input reads as it did. -/
def mapsEntriesSpec : ChangeSpec := { name := "mapsEntries", fn := fun _ => fun
  | [d1, d2] => { results := [.lit (.bool true)], args := [d1, d2] }
  | _ => none }
def mapsEntriesRow : OpenClaim := { program := "ytfgdohdbabhplaa", sum := "c569dd262ce725a0d549a35b9e04071beb85bf7dd3c2f67529c5a47b6effad66", func := "signalbox/signalboxlaw03.MapsEntries", spec := "mapsEntries", unfollowed := true, recurses := true, apart := false }
def MapsEntriesSaid : Prop := mapsEntriesRow.holds Try.pinned (OpenSpec.ofChange mapsEntriesSpec)

/-- ITS FALSE NEIGHBOUR: 'it returns false'. Refute it at one input. -/
def mapsEntriesWrong : ChangeSpec := { name := "mapsEntries", fn := fun _ => fun
  | [d1, d2] => { results := [.lit (.bool false)], args := [d1, d2] }
  | _ => none }
def MapsEntriesWrongFalsely : Prop := mapsEntriesRow.holds Try.pinned (OpenSpec.ofChange mapsEntriesWrong)

/-- 'signalboxlaw02.PrimsInets': WHATEVER THE INPUT: true; the input reads as it did. -/
def primsInetsSpec : ChangeSpec := { name := "primsInets", fn := fun _ => fun
  | [d1, d2, d3] => { results := [.lit (.bool true)], args := [d1, d2, d3] }
  | _ => none }
def primsInetsRow : OpenClaim := { program := "ytfgdohdbabhplaa", sum := "c569dd262ce725a0d549a35b9e04071beb85bf7dd3c2f67529c5a47b6effad66", func := "signalbox/signalboxlaw02.PrimsInets", spec := "primsInets", apart := false }
def PrimsInetsSaid : Prop := primsInetsRow.holds Try.pinned (OpenSpec.ofChange primsInetsSpec)

/-- ITS FALSE NEIGHBOUR: 'it returns false'. Refute it at one input. -/
def primsInetsWrong : ChangeSpec := { name := "primsInets", fn := fun _ => fun
  | [d1, d2, d3] => { results := [.lit (.bool false)], args := [d1, d2, d3] }
  | _ => none }
def PrimsInetsWrongFalsely : Prop := primsInetsRow.holds Try.pinned (OpenSpec.ofChange primsInetsWrong)

/-- 'signalboxlaw03.MapsCut': WHATEVER THE INPUT: true; the input reads as it did. -/
def mapsCutSpec : ChangeSpec := { name := "mapsCut", fn := fun _ => fun
  | [d1, d2, d3, d4] => { results := [.lit (.bool true)], args := [d1, d2, d3, d4] }
  | _ => none }
def mapsCutRow : OpenClaim := { program := "ytfgdohdbabhplaa", sum := "c569dd262ce725a0d549a35b9e04071beb85bf7dd3c2f67529c5a47b6effad66", func := "signalbox/signalboxlaw03.MapsCut", spec := "mapsCut", unfollowed := true, recurses := true, apart := false }
def MapsCutSaid : Prop := mapsCutRow.holds Try.pinned (OpenSpec.ofChange mapsCutSpec)

/-- ITS FALSE NEIGHBOUR: 'it returns false'. Refute it at one input. -/
def mapsCutWrong : ChangeSpec := { name := "mapsCut", fn := fun _ => fun
  | [d1, d2, d3, d4] => { results := [.lit (.bool false)], args := [d1, d2, d3, d4] }
  | _ => none }
def MapsCutWrongFalsely : Prop := mapsCutRow.holds Try.pinned (OpenSpec.ofChange mapsCutWrong)

/-- 'signalboxlaw02.PrimsBack': WHATEVER THE INPUT: true; the input reads as it did. -/
def primsBackSpec : ChangeSpec := { name := "primsBack", fn := fun _ => fun
  | [d1, d2, d3, d4, d5] => { results := [.lit (.bool true)], args := [d1, d2, d3, d4, d5] }
  | _ => none }
def primsBackRow : OpenClaim := { program := "ytfgdohdbabhplaa", sum := "c569dd262ce725a0d549a35b9e04071beb85bf7dd3c2f67529c5a47b6effad66", func := "signalbox/signalboxlaw02.PrimsBack", spec := "primsBack", apart := false }
def PrimsBackSaid : Prop := primsBackRow.holds Try.pinned (OpenSpec.ofChange primsBackSpec)

/-- ITS FALSE NEIGHBOUR: 'it returns false'. Refute it at one input. -/
def primsBackWrong : ChangeSpec := { name := "primsBack", fn := fun _ => fun
  | [d1, d2, d3, d4, d5] => { results := [.lit (.bool false)], args := [d1, d2, d3, d4, d5] }
  | _ => none }
def PrimsBackWrongFalsely : Prop := primsBackRow.holds Try.pinned (OpenSpec.ofChange primsBackWrong)

/-- 'signalboxlaw02.PrimsCut': WHATEVER THE INPUT: true; the input reads as it did. -/
def primsCutSpec : ChangeSpec := { name := "primsCut", fn := fun _ => fun
  | [d1, d2, d3, d4] => { results := [.lit (.bool true)], args := [d1, d2, d3, d4] }
  | _ => none }
def primsCutRow : OpenClaim := { program := "ytfgdohdbabhplaa", sum := "c569dd262ce725a0d549a35b9e04071beb85bf7dd3c2f67529c5a47b6effad66", func := "signalbox/signalboxlaw02.PrimsCut", spec := "primsCut", apart := false }
def PrimsCutSaid : Prop := primsCutRow.holds Try.pinned (OpenSpec.ofChange primsCutSpec)

/-- ITS FALSE NEIGHBOUR: 'it returns false'. Refute it at one input. -/
def primsCutWrong : ChangeSpec := { name := "primsCut", fn := fun _ => fun
  | [d1, d2, d3, d4] => { results := [.lit (.bool false)], args := [d1, d2, d3, d4] }
  | _ => none }
def PrimsCutWrongFalsely : Prop := primsCutRow.holds Try.pinned (OpenSpec.ofChange primsCutWrong)

/- THE SECOND FORM. 'bulk': how many values and letters a reading holds, each counted each time it is reached (what is shared counts as often as it is met; a slice's spare places count too). A statement '..UptoSaid' is the law's where the arguments, and the package variables that the reading takes, are together of bulk at most 1048576: NARROWER than '..Said'. Prove '..Said' where nothing that the law and all that it calls make is longer than what came in: it says more and counts as full. Else prove '..UptoSaid'. A law counts once. -/
mutual
def uptoBulk {H : Type} : DataW H → Nat
  | .lit (.string bytes) => bytes.length + 1
  | .lit _ => 1
  | .nil => 1
  | .ptr d => uptoBulk d + 1
  | .slice elems spare => uptoBulkAll elems + uptoBulkAll spare + 1
  | .agg parts => uptoBulkAll parts + 1
  | .iface _ d => uptoBulk d + 1
  | .map entries => uptoBulkEntries entries + 1
  | .held _ => 1
def uptoBulkAll {H : Type} : List (DataW H) → Nat
  | [] => 0
  | d :: r => uptoBulk d + uptoBulkAll r
def uptoBulkEntries {H : Type} : List (Lit × DataW H) → Nat
  | [] => 0
  | x :: r => uptoBulkEntry x + uptoBulkEntries r
def uptoBulkEntry {H : Type} : Lit × DataW H → Nat
  | (.string bytes, d) => bytes.length + uptoBulk d + 1
  | (_, d) => uptoBulk d + 1
 end
def uptoSmall : (H : Type) → List (DataW H) → Bool := fun _ ds => decide (uptoBulkAll ds ≤ 1048576)
def OpenSpec.upto (s : _root_.Go.ChangeSpec) : _root_.Go.OpenSpec := { _root_.Go.OpenSpec.ofChange s with cond := some uptoSmall }

/-- 'signalboxlaw02.PrimsValues', WHERE WHAT IT READS IS OF BULK AT MOST 1048576: true; the input reads as it did. -/
def primsValuesUptoRow : OpenClaim := { program := "ytfgdohdbabhplaa", sum := "c569dd262ce725a0d549a35b9e04071beb85bf7dd3c2f67529c5a47b6effad66", func := "signalbox/signalboxlaw02.PrimsValues", spec := "primsValues", apart := false, narrowed := true }
def PrimsValuesUptoSaid : Prop := primsValuesUptoRow.holds Try.pinned (OpenSpec.upto primsValuesSpec)

/-- 'signalboxlaw02.PrimsTold', WHERE WHAT IT READS IS OF BULK AT MOST 1048576: true; the input reads as it did. -/
def primsToldUptoRow : OpenClaim := { program := "ytfgdohdbabhplaa", sum := "c569dd262ce725a0d549a35b9e04071beb85bf7dd3c2f67529c5a47b6effad66", func := "signalbox/signalboxlaw02.PrimsTold", spec := "primsTold", apart := false, narrowed := true }
def PrimsToldUptoSaid : Prop := primsToldUptoRow.holds Try.pinned (OpenSpec.upto primsToldSpec)

/-- 'signalboxlaw02.PrimsTexts', WHERE WHAT IT READS IS OF BULK AT MOST 1048576: true; the input reads as it did. -/
def primsTextsUptoRow : OpenClaim := { program := "ytfgdohdbabhplaa", sum := "c569dd262ce725a0d549a35b9e04071beb85bf7dd3c2f67529c5a47b6effad66", func := "signalbox/signalboxlaw02.PrimsTexts", spec := "primsTexts", apart := false, narrowed := true }
def PrimsTextsUptoSaid : Prop := primsTextsUptoRow.holds Try.pinned (OpenSpec.upto primsTextsSpec)

/-- 'signalboxlaw03.MapsTexts', WHERE WHAT IT READS IS OF BULK AT MOST 1048576: true; the input reads as it did. -/
def mapsTextsUptoRow : OpenClaim := { program := "ytfgdohdbabhplaa", sum := "c569dd262ce725a0d549a35b9e04071beb85bf7dd3c2f67529c5a47b6effad66", func := "signalbox/signalboxlaw03.MapsTexts", spec := "mapsTexts", unfollowed := true, recurses := true, apart := false, narrowed := true }
def MapsTextsUptoSaid : Prop := mapsTextsUptoRow.holds Try.pinned (OpenSpec.upto mapsTextsSpec)

/-- 'signalboxlaw03.MapsRows', WHERE WHAT IT READS IS OF BULK AT MOST 1048576: true; the input reads as it did. -/
def mapsRowsUptoRow : OpenClaim := { program := "ytfgdohdbabhplaa", sum := "c569dd262ce725a0d549a35b9e04071beb85bf7dd3c2f67529c5a47b6effad66", func := "signalbox/signalboxlaw03.MapsRows", spec := "mapsRows", unfollowed := true, recurses := true, apart := false, narrowed := true }
def MapsRowsUptoSaid : Prop := mapsRowsUptoRow.holds Try.pinned (OpenSpec.upto mapsRowsSpec)

/-- 'signalboxlaw03.MapsPairs', WHERE WHAT IT READS IS OF BULK AT MOST 1048576: true; the input reads as it did. -/
def mapsPairsUptoRow : OpenClaim := { program := "ytfgdohdbabhplaa", sum := "c569dd262ce725a0d549a35b9e04071beb85bf7dd3c2f67529c5a47b6effad66", func := "signalbox/signalboxlaw03.MapsPairs", spec := "mapsPairs", unfollowed := true, recurses := true, apart := false, narrowed := true }
def MapsPairsUptoSaid : Prop := mapsPairsUptoRow.holds Try.pinned (OpenSpec.upto mapsPairsSpec)

/-- 'signalboxlaw03.MapsMultis', WHERE WHAT IT READS IS OF BULK AT MOST 1048576: true; the input reads as it did. -/
def mapsMultisUptoRow : OpenClaim := { program := "ytfgdohdbabhplaa", sum := "c569dd262ce725a0d549a35b9e04071beb85bf7dd3c2f67529c5a47b6effad66", func := "signalbox/signalboxlaw03.MapsMultis", spec := "mapsMultis", unfollowed := true, recurses := true, apart := false, narrowed := true }
def MapsMultisUptoSaid : Prop := mapsMultisUptoRow.holds Try.pinned (OpenSpec.upto mapsMultisSpec)

/-- 'signalboxlaw03.MapsBack', WHERE WHAT IT READS IS OF BULK AT MOST 1048576: true; the input reads as it did. -/
def mapsBackUptoRow : OpenClaim := { program := "ytfgdohdbabhplaa", sum := "c569dd262ce725a0d549a35b9e04071beb85bf7dd3c2f67529c5a47b6effad66", func := "signalbox/signalboxlaw03.MapsBack", spec := "mapsBack", unfollowed := true, recurses := true, apart := false, narrowed := true }
def MapsBackUptoSaid : Prop := mapsBackUptoRow.holds Try.pinned (OpenSpec.upto mapsBackSpec)

/-- 'signalboxlaw03.MapsEntries', WHERE WHAT IT READS IS OF BULK AT MOST 1048576: true; the input reads as it did. -/
def mapsEntriesUptoRow : OpenClaim := { program := "ytfgdohdbabhplaa", sum := "c569dd262ce725a0d549a35b9e04071beb85bf7dd3c2f67529c5a47b6effad66", func := "signalbox/signalboxlaw03.MapsEntries", spec := "mapsEntries", unfollowed := true, recurses := true, apart := false, narrowed := true }
def MapsEntriesUptoSaid : Prop := mapsEntriesUptoRow.holds Try.pinned (OpenSpec.upto mapsEntriesSpec)

/-- 'signalboxlaw02.PrimsInets', WHERE WHAT IT READS IS OF BULK AT MOST 1048576: true; the input reads as it did. -/
def primsInetsUptoRow : OpenClaim := { program := "ytfgdohdbabhplaa", sum := "c569dd262ce725a0d549a35b9e04071beb85bf7dd3c2f67529c5a47b6effad66", func := "signalbox/signalboxlaw02.PrimsInets", spec := "primsInets", apart := false, narrowed := true }
def PrimsInetsUptoSaid : Prop := primsInetsUptoRow.holds Try.pinned (OpenSpec.upto primsInetsSpec)

/-- 'signalboxlaw03.MapsCut', WHERE WHAT IT READS IS OF BULK AT MOST 1048576: true; the input reads as it did. -/
def mapsCutUptoRow : OpenClaim := { program := "ytfgdohdbabhplaa", sum := "c569dd262ce725a0d549a35b9e04071beb85bf7dd3c2f67529c5a47b6effad66", func := "signalbox/signalboxlaw03.MapsCut", spec := "mapsCut", unfollowed := true, recurses := true, apart := false, narrowed := true }
def MapsCutUptoSaid : Prop := mapsCutUptoRow.holds Try.pinned (OpenSpec.upto mapsCutSpec)

/-- 'signalboxlaw02.PrimsBack', WHERE WHAT IT READS IS OF BULK AT MOST 1048576: true; the input reads as it did. -/
def primsBackUptoRow : OpenClaim := { program := "ytfgdohdbabhplaa", sum := "c569dd262ce725a0d549a35b9e04071beb85bf7dd3c2f67529c5a47b6effad66", func := "signalbox/signalboxlaw02.PrimsBack", spec := "primsBack", apart := false, narrowed := true }
def PrimsBackUptoSaid : Prop := primsBackUptoRow.holds Try.pinned (OpenSpec.upto primsBackSpec)

/-- 'signalboxlaw02.PrimsCut', WHERE WHAT IT READS IS OF BULK AT MOST 1048576: true; the input reads as it did. -/
def primsCutUptoRow : OpenClaim := { program := "ytfgdohdbabhplaa", sum := "c569dd262ce725a0d549a35b9e04071beb85bf7dd3c2f67529c5a47b6effad66", func := "signalbox/signalboxlaw02.PrimsCut", spec := "primsCut", apart := false, narrowed := true }
def PrimsCutUptoSaid : Prop := primsCutUptoRow.holds Try.pinned (OpenSpec.upto primsCutSpec)

end Rows
end Go.Proofs.Ytfgdohdbabhplaa
