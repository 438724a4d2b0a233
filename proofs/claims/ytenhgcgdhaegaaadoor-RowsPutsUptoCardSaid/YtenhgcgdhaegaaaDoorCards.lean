/-
  DERIVED. GIVEN WITH THE SEED: THE CARDS: each row of YtenhgcgdhaegaaaDoorRows.lean that lists a variable, with what it lists TIED to the program's text (the seventh form; the later family's looks); each row that meets fmt, with fmt's text TOLD by the authors' own Lean function (tested against real Go, not proved from fmt's source: count such statements apart). THE CARD IS WHAT COUNTS. Prove the row's statement (the work); the ties are given (YtenhgcgdhaegaaaDoorTie.lean); close each card by the builder's one call (the guide's Derived/Test/ToyasCard.lean, 'card_holds'). Laid BY PROGRAM, IN A SANDBOX (cutbox-door.mjs). By AI agents, Wed Nov 11 2026. No macro, syntax, notation, axiom, sorry.
-/
import Derived.Test.YtenhgcgdhaegaaaDoorRows
import GoSem.ClaimSeven
namespace Go.Proofs.YtenhgcgdhaegaaaDoor
namespace Rows

/-- THE TIED CARD OF 'signalboxlaw10.RowsGets'. -/
def rowsGetsCard : Claim7 := { stood := { row := rowsGetsRow, standIns := [], harness := (true, "001cbaed483220b1258def2eb404ca64c7f643785020d39c33812deb58eacc67"), looks := false }, kinds := [], alts := [], laidByText := true, laidKinds := [.data], laidTests := true, laidLooks := .later }
def RowsGetsCardSaid : Prop := Claim7.holds Tryd.pinned (.plain (OpenSpec.ofChange rowsGetsSpec)) rowsGetsCard

/-- THE TIED CARD OF 'signalboxlaw10.RowsMetas'. -/
def rowsMetasCard : Claim7 := { stood := { row := rowsMetasRow, standIns := [], harness := (true, "001cbaed483220b1258def2eb404ca64c7f643785020d39c33812deb58eacc67"), looks := false }, kinds := [], alts := [], laidByText := true, laidKinds := [.data], laidTests := true, laidLooks := .later }
def RowsMetasCardSaid : Prop := Claim7.holds Tryd.pinned (.plain (OpenSpec.ofChange rowsMetasSpec)) rowsMetasCard

/-- THE TIED CARD OF 'signalboxlaw10.RowsPuts'. -/
def rowsPutsCard : Claim7 := { stood := { row := rowsPutsRow, standIns := [], harness := (true, "001cbaed483220b1258def2eb404ca64c7f643785020d39c33812deb58eacc67"), looks := false }, kinds := [], alts := [], laidByText := true, laidKinds := [.data], laidTests := true, laidLooks := .later }
def RowsPutsCardSaid : Prop := Claim7.holds Tryd.pinned (.plain (OpenSpec.ofChange rowsPutsSpec)) rowsPutsCard

/-- THE TIED CARD OF 'signalboxlaw10.RowsCells'. -/
def rowsCellsCard : Claim7 := { stood := { row := rowsCellsRow, standIns := [], harness := (true, "001cbaed483220b1258def2eb404ca64c7f643785020d39c33812deb58eacc67"), looks := false }, kinds := [], alts := [], laidByText := true, laidKinds := [.data], laidTests := true, laidLooks := .later }
def RowsCellsCardSaid : Prop := Claim7.holds Tryd.pinned (.plain (OpenSpec.ofChange rowsCellsSpec)) rowsCellsCard

/-- THE TIED CARD OF 'signalboxlaw10.RowsCut'. -/
def rowsCutCard : Claim7 := { stood := { row := rowsCutRow, standIns := [], harness := (true, "001cbaed483220b1258def2eb404ca64c7f643785020d39c33812deb58eacc67"), looks := false }, kinds := [], alts := [], laidByText := true, laidKinds := [.data], laidTests := true, laidLooks := .later }
def RowsCutCardSaid : Prop := Claim7.holds Tryd.pinned (.plain (OpenSpec.ofChange rowsCutSpec)) rowsCutCard

/-- THE TIED CARD OF 'signalboxlaw10.RowsGrid'. -/
def rowsGridCard : Claim7 := { stood := { row := rowsGridRow, standIns := [], harness := (true, "001cbaed483220b1258def2eb404ca64c7f643785020d39c33812deb58eacc67"), looks := false }, kinds := [], alts := [], laidByText := true, laidKinds := [.data], laidTests := true, laidLooks := .later }
def RowsGridCardSaid : Prop := Claim7.holds Tryd.pinned (.plain (OpenSpec.ofChange rowsGridSpec)) rowsGridCard

/-- THE SECOND FORM's CARD OF 'signalboxlaw10.RowsGets'. -/
def rowsGetsUptoCard : Claim7 := { stood := { row := rowsGetsUptoRow, standIns := [], harness := (true, "001cbaed483220b1258def2eb404ca64c7f643785020d39c33812deb58eacc67"), looks := false }, kinds := [], alts := [], laidByText := true, laidKinds := [.data], laidTests := true, laidLooks := .later }
def RowsGetsUptoCardSaid : Prop := Claim7.holds Tryd.pinned (.plain (OpenSpec.upto rowsGetsSpec)) rowsGetsUptoCard

/-- THE SECOND FORM's CARD OF 'signalboxlaw10.RowsMetas'. -/
def rowsMetasUptoCard : Claim7 := { stood := { row := rowsMetasUptoRow, standIns := [], harness := (true, "001cbaed483220b1258def2eb404ca64c7f643785020d39c33812deb58eacc67"), looks := false }, kinds := [], alts := [], laidByText := true, laidKinds := [.data], laidTests := true, laidLooks := .later }
def RowsMetasUptoCardSaid : Prop := Claim7.holds Tryd.pinned (.plain (OpenSpec.upto rowsMetasSpec)) rowsMetasUptoCard

/-- THE SECOND FORM's CARD OF 'signalboxlaw10.RowsPuts'. -/
def rowsPutsUptoCard : Claim7 := { stood := { row := rowsPutsUptoRow, standIns := [], harness := (true, "001cbaed483220b1258def2eb404ca64c7f643785020d39c33812deb58eacc67"), looks := false }, kinds := [], alts := [], laidByText := true, laidKinds := [.data], laidTests := true, laidLooks := .later }
def RowsPutsUptoCardSaid : Prop := Claim7.holds Tryd.pinned (.plain (OpenSpec.upto rowsPutsSpec)) rowsPutsUptoCard

/-- THE SECOND FORM's CARD OF 'signalboxlaw10.RowsCells'. -/
def rowsCellsUptoCard : Claim7 := { stood := { row := rowsCellsUptoRow, standIns := [], harness := (true, "001cbaed483220b1258def2eb404ca64c7f643785020d39c33812deb58eacc67"), looks := false }, kinds := [], alts := [], laidByText := true, laidKinds := [.data], laidTests := true, laidLooks := .later }
def RowsCellsUptoCardSaid : Prop := Claim7.holds Tryd.pinned (.plain (OpenSpec.upto rowsCellsSpec)) rowsCellsUptoCard

/-- THE SECOND FORM's CARD OF 'signalboxlaw10.RowsCut'. -/
def rowsCutUptoCard : Claim7 := { stood := { row := rowsCutUptoRow, standIns := [], harness := (true, "001cbaed483220b1258def2eb404ca64c7f643785020d39c33812deb58eacc67"), looks := false }, kinds := [], alts := [], laidByText := true, laidKinds := [.data], laidTests := true, laidLooks := .later }
def RowsCutUptoCardSaid : Prop := Claim7.holds Tryd.pinned (.plain (OpenSpec.upto rowsCutSpec)) rowsCutUptoCard

/-- THE SECOND FORM's CARD OF 'signalboxlaw10.RowsGrid'. -/
def rowsGridUptoCard : Claim7 := { stood := { row := rowsGridUptoRow, standIns := [], harness := (true, "001cbaed483220b1258def2eb404ca64c7f643785020d39c33812deb58eacc67"), looks := false }, kinds := [], alts := [], laidByText := true, laidKinds := [.data], laidTests := true, laidLooks := .later }
def RowsGridUptoCardSaid : Prop := Claim7.holds Tryd.pinned (.plain (OpenSpec.upto rowsGridSpec)) rowsGridUptoCard
end Rows
end Go.Proofs.YtenhgcgdhaegaaaDoor
