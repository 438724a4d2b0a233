/-
  DERIVED. GIVEN WITH THE SEED: THE CARDS: each row of YtpgcadicamnpkaaDoorRows.lean that lists a variable, with what it lists TIED to the program's text (the seventh form; the later family's looks); each row that meets fmt, with fmt's text TOLD by the authors' own Lean function (tested against real Go, not proved from fmt's source: count such statements apart). THE CARD IS WHAT COUNTS. Prove the row's statement (the work); the ties are given (YtpgcadicamnpkaaDoorTie.lean); close each card by the builder's one call (the guide's Derived/Test/ToyasCard.lean, 'card_holds'). Laid BY PROGRAM, IN A SANDBOX (cutbox-door.mjs). By AI agents, Wed Nov 11 2026. No macro, syntax, notation, axiom, sorry.
-/
import Derived.Test.YtpgcadicamnpkaaDoorRows
import GoSem.ClaimSeven
namespace Go.Proofs.YtpgcadicamnpkaaDoor
namespace Rows

/-- THE TIED CARD OF 'signalboxlaw04.OptionPuts'. -/
def optionPutsCard : Claim7 := { stood := { row := optionPutsRow, standIns := [], harness := (true, "54d123ea74b72bb1f1e511cba3308b01b97bd9079b6bdab1a649d75aa1b35618"), looks := false }, kinds := [], alts := [], laidByText := true, laidKinds := [.data], laidTests := true, laidLooks := .later }
def OptionPutsCardSaid : Prop := Claim7.holds Tryd.pinned (.plain (OpenSpec.ofChange optionPutsSpec)) optionPutsCard

/-- THE TIED CARD OF 'signalboxlaw04.OptionGets'. -/
def optionGetsCard : Claim7 := { stood := { row := optionGetsRow, standIns := [], harness := (true, "54d123ea74b72bb1f1e511cba3308b01b97bd9079b6bdab1a649d75aa1b35618"), looks := false }, kinds := [], alts := [], laidByText := true, laidKinds := [.data], laidTests := true, laidLooks := .later }
def OptionGetsCardSaid : Prop := Claim7.holds Tryd.pinned (.plain (OpenSpec.ofChange optionGetsSpec)) optionGetsCard

/-- THE TIED CARD OF 'signalboxlaw04.OptionBack'. -/
def optionBackCard : Claim7 := { stood := { row := optionBackRow, standIns := [], harness := (true, "54d123ea74b72bb1f1e511cba3308b01b97bd9079b6bdab1a649d75aa1b35618"), looks := false }, kinds := [], alts := [], laidByText := true, laidKinds := [.data], laidTests := true, laidLooks := .later }
def OptionBackCardSaid : Prop := Claim7.holds Tryd.pinned (.plain (OpenSpec.ofChange optionBackSpec)) optionBackCard

/-- THE TIED CARD OF 'signalboxlaw04.OptionDeep'. -/
def optionDeepCard : Claim7 := { stood := { row := optionDeepRow, standIns := [], harness := (true, "54d123ea74b72bb1f1e511cba3308b01b97bd9079b6bdab1a649d75aa1b35618"), looks := false }, kinds := [], alts := [], laidByText := true, laidKinds := [.data], laidTests := true, laidLooks := .later }
def OptionDeepCardSaid : Prop := Claim7.holds Tryd.pinned (.plain (OpenSpec.ofChange optionDeepSpec)) optionDeepCard

/-- THE TIED CARD OF 'signalboxlaw04.OptionIds'. -/
def optionIdsCard : Claim7 := { stood := { row := optionIdsRow, standIns := [], harness := (true, "54d123ea74b72bb1f1e511cba3308b01b97bd9079b6bdab1a649d75aa1b35618"), looks := false }, kinds := [], alts := [], laidByText := true, laidKinds := [.data], laidTests := true, laidLooks := .later }
def OptionIdsCardSaid : Prop := Claim7.holds Tryd.pinned (.plain (OpenSpec.ofChange optionIdsSpec)) optionIdsCard

/-- THE TIED CARD OF 'signalboxlaw04.OptionTexts'. -/
def optionTextsCard : Claim7 := { stood := { row := optionTextsRow, standIns := [], harness := (true, "54d123ea74b72bb1f1e511cba3308b01b97bd9079b6bdab1a649d75aa1b35618"), looks := false }, kinds := [], alts := [], laidByText := true, laidKinds := [.data], laidTests := true, laidLooks := .later }
def OptionTextsCardSaid : Prop := Claim7.holds Tryd.pinned (.plain (OpenSpec.ofChange optionTextsSpec)) optionTextsCard

/-- THE TIED CARD OF 'signalboxlaw04.OptionCut'. -/
def optionCutCard : Claim7 := { stood := { row := optionCutRow, standIns := [], harness := (true, "54d123ea74b72bb1f1e511cba3308b01b97bd9079b6bdab1a649d75aa1b35618"), looks := false }, kinds := [], alts := [], laidByText := true, laidKinds := [.data], laidTests := true, laidLooks := .later }
def OptionCutCardSaid : Prop := Claim7.holds Tryd.pinned (.plain (OpenSpec.ofChange optionCutSpec)) optionCutCard

/-- THE SECOND FORM's CARD OF 'signalboxlaw04.OptionPuts'. -/
def optionPutsUptoCard : Claim7 := { stood := { row := optionPutsUptoRow, standIns := [], harness := (true, "54d123ea74b72bb1f1e511cba3308b01b97bd9079b6bdab1a649d75aa1b35618"), looks := false }, kinds := [], alts := [], laidByText := true, laidKinds := [.data], laidTests := true, laidLooks := .later }
def OptionPutsUptoCardSaid : Prop := Claim7.holds Tryd.pinned (.plain (OpenSpec.upto optionPutsSpec)) optionPutsUptoCard

/-- THE SECOND FORM's CARD OF 'signalboxlaw04.OptionGets'. -/
def optionGetsUptoCard : Claim7 := { stood := { row := optionGetsUptoRow, standIns := [], harness := (true, "54d123ea74b72bb1f1e511cba3308b01b97bd9079b6bdab1a649d75aa1b35618"), looks := false }, kinds := [], alts := [], laidByText := true, laidKinds := [.data], laidTests := true, laidLooks := .later }
def OptionGetsUptoCardSaid : Prop := Claim7.holds Tryd.pinned (.plain (OpenSpec.upto optionGetsSpec)) optionGetsUptoCard

/-- THE SECOND FORM's CARD OF 'signalboxlaw04.OptionBack'. -/
def optionBackUptoCard : Claim7 := { stood := { row := optionBackUptoRow, standIns := [], harness := (true, "54d123ea74b72bb1f1e511cba3308b01b97bd9079b6bdab1a649d75aa1b35618"), looks := false }, kinds := [], alts := [], laidByText := true, laidKinds := [.data], laidTests := true, laidLooks := .later }
def OptionBackUptoCardSaid : Prop := Claim7.holds Tryd.pinned (.plain (OpenSpec.upto optionBackSpec)) optionBackUptoCard

/-- THE SECOND FORM's CARD OF 'signalboxlaw04.OptionDeep'. -/
def optionDeepUptoCard : Claim7 := { stood := { row := optionDeepUptoRow, standIns := [], harness := (true, "54d123ea74b72bb1f1e511cba3308b01b97bd9079b6bdab1a649d75aa1b35618"), looks := false }, kinds := [], alts := [], laidByText := true, laidKinds := [.data], laidTests := true, laidLooks := .later }
def OptionDeepUptoCardSaid : Prop := Claim7.holds Tryd.pinned (.plain (OpenSpec.upto optionDeepSpec)) optionDeepUptoCard

/-- THE SECOND FORM's CARD OF 'signalboxlaw04.OptionIds'. -/
def optionIdsUptoCard : Claim7 := { stood := { row := optionIdsUptoRow, standIns := [], harness := (true, "54d123ea74b72bb1f1e511cba3308b01b97bd9079b6bdab1a649d75aa1b35618"), looks := false }, kinds := [], alts := [], laidByText := true, laidKinds := [.data], laidTests := true, laidLooks := .later }
def OptionIdsUptoCardSaid : Prop := Claim7.holds Tryd.pinned (.plain (OpenSpec.upto optionIdsSpec)) optionIdsUptoCard

/-- THE SECOND FORM's CARD OF 'signalboxlaw04.OptionTexts'. -/
def optionTextsUptoCard : Claim7 := { stood := { row := optionTextsUptoRow, standIns := [], harness := (true, "54d123ea74b72bb1f1e511cba3308b01b97bd9079b6bdab1a649d75aa1b35618"), looks := false }, kinds := [], alts := [], laidByText := true, laidKinds := [.data], laidTests := true, laidLooks := .later }
def OptionTextsUptoCardSaid : Prop := Claim7.holds Tryd.pinned (.plain (OpenSpec.upto optionTextsSpec)) optionTextsUptoCard

/-- THE SECOND FORM's CARD OF 'signalboxlaw04.OptionCut'. -/
def optionCutUptoCard : Claim7 := { stood := { row := optionCutUptoRow, standIns := [], harness := (true, "54d123ea74b72bb1f1e511cba3308b01b97bd9079b6bdab1a649d75aa1b35618"), looks := false }, kinds := [], alts := [], laidByText := true, laidKinds := [.data], laidTests := true, laidLooks := .later }
def OptionCutUptoCardSaid : Prop := Claim7.holds Tryd.pinned (.plain (OpenSpec.upto optionCutSpec)) optionCutUptoCard
end Rows
end Go.Proofs.YtpgcadicamnpkaaDoor
