/-
  DERIVED. GIVEN WITH THE SEED: THE CARDS: each row of YtbjofgoimkmbfaaDoorRows.lean that lists a variable, with what it lists TIED to the program's text (the seventh form; the later family's looks); each row that meets fmt, with fmt's text TOLD by the authors' own Lean function (tested against real Go, not proved from fmt's source: count such statements apart). THE CARD IS WHAT COUNTS. Prove the row's statement (the work); the ties are given (YtbjofgoimkmbfaaDoorTie.lean); close each card by the builder's one call (the guide's Derived/Test/ToyasCard.lean, 'card_holds'). Laid BY PROGRAM, IN A SANDBOX (cutbox-door.mjs). By AI agents, Wed Nov 11 2026. No macro, syntax, notation, axiom, sorry.
-/
import Derived.Test.YtbjofgoimkmbfaaDoorRows
import GoSem.ClaimSeven
namespace Go.Proofs.YtbjofgoimkmbfaaDoor
namespace Rows

/-- THE TIED CARD OF 'radicandlaw14.TableDigits'. -/
def tableDigitsCard : Claim7 := { stood := { row := tableDigitsRow, standIns := [], harness := (true, "58b6811c9ee3698c745764d6766618155d488ae2425bbba2ed6608b972c7aa40"), looks := false }, kinds := [], alts := [], laidByText := true, laidKinds := [.data], laidTests := true, laidLooks := .later }
def TableDigitsCardSaid : Prop := Claim7.holds Tryd.pinned (.plain (OpenSpec.ofChange tableDigitsSpec)) tableDigitsCard

/-- THE TIED CARD OF 'radicandlaw14.TableKeeps'. -/
def tableKeepsCard : Claim7 := { stood := { row := tableKeepsRow, standIns := [], harness := (true, "58b6811c9ee3698c745764d6766618155d488ae2425bbba2ed6608b972c7aa40"), looks := false }, kinds := [], alts := [], laidByText := true, laidKinds := [.data], laidTests := true, laidLooks := .later }
def TableKeepsCardSaid : Prop := Claim7.holds Tryd.pinned (.plain (OpenSpec.ofChange tableKeepsSpec)) tableKeepsCard

/-- THE TIED CARD OF 'radicandlaw14.TableRoots'. -/
def tableRootsCard : Claim7 := { stood := { row := tableRootsRow, standIns := [], harness := (true, "58b6811c9ee3698c745764d6766618155d488ae2425bbba2ed6608b972c7aa40"), looks := false }, kinds := [], alts := [], laidByText := true, laidKinds := [.data], laidTests := true, laidLooks := .later }
def TableRootsCardSaid : Prop := Claim7.holds Tryd.pinned (.plain (OpenSpec.ofChange tableRootsSpec)) tableRootsCard

/-- THE TIED CARD OF 'radicandlaw14.TableRows'. -/
def tableRowsCard : Claim7 := { stood := { row := tableRowsRow, standIns := [], harness := (true, "58b6811c9ee3698c745764d6766618155d488ae2425bbba2ed6608b972c7aa40"), looks := false }, kinds := [], alts := [], laidByText := true, laidKinds := [.data], laidTests := true, laidLooks := .later }
def TableRowsCardSaid : Prop := Claim7.holds Tryd.pinned (.plain (OpenSpec.ofChange tableRowsSpec)) tableRowsCard

/-- THE TIED CARD OF 'radicandlaw08.ModeNames'. -/
def modeNamesCard : Claim7 := { stood := { row := modeNamesRow, standIns := [], harness := (true, "58b6811c9ee3698c745764d6766618155d488ae2425bbba2ed6608b972c7aa40"), looks := false }, kinds := [], alts := [], laidByText := true, laidKinds := [.data], laidTests := true, laidLooks := .later }
def ModeNamesCardSaid : Prop := Claim7.holds Tryd.pinned (.plain (OpenSpec.ofChange modeNamesSpec)) modeNamesCard

/-- THE SECOND FORM's CARD OF 'radicandlaw14.TableDigits'. -/
def tableDigitsUptoCard : Claim7 := { stood := { row := tableDigitsUptoRow, standIns := [], harness := (true, "58b6811c9ee3698c745764d6766618155d488ae2425bbba2ed6608b972c7aa40"), looks := false }, kinds := [], alts := [], laidByText := true, laidKinds := [.data], laidTests := true, laidLooks := .later }
def TableDigitsUptoCardSaid : Prop := Claim7.holds Tryd.pinned (.plain (OpenSpec.upto tableDigitsSpec)) tableDigitsUptoCard

/-- THE SECOND FORM's CARD OF 'radicandlaw14.TableKeeps'. -/
def tableKeepsUptoCard : Claim7 := { stood := { row := tableKeepsUptoRow, standIns := [], harness := (true, "58b6811c9ee3698c745764d6766618155d488ae2425bbba2ed6608b972c7aa40"), looks := false }, kinds := [], alts := [], laidByText := true, laidKinds := [.data], laidTests := true, laidLooks := .later }
def TableKeepsUptoCardSaid : Prop := Claim7.holds Tryd.pinned (.plain (OpenSpec.upto tableKeepsSpec)) tableKeepsUptoCard

/-- THE SECOND FORM's CARD OF 'radicandlaw14.TableRoots'. -/
def tableRootsUptoCard : Claim7 := { stood := { row := tableRootsUptoRow, standIns := [], harness := (true, "58b6811c9ee3698c745764d6766618155d488ae2425bbba2ed6608b972c7aa40"), looks := false }, kinds := [], alts := [], laidByText := true, laidKinds := [.data], laidTests := true, laidLooks := .later }
def TableRootsUptoCardSaid : Prop := Claim7.holds Tryd.pinned (.plain (OpenSpec.upto tableRootsSpec)) tableRootsUptoCard

/-- THE SECOND FORM's CARD OF 'radicandlaw14.TableRows'. -/
def tableRowsUptoCard : Claim7 := { stood := { row := tableRowsUptoRow, standIns := [], harness := (true, "58b6811c9ee3698c745764d6766618155d488ae2425bbba2ed6608b972c7aa40"), looks := false }, kinds := [], alts := [], laidByText := true, laidKinds := [.data], laidTests := true, laidLooks := .later }
def TableRowsUptoCardSaid : Prop := Claim7.holds Tryd.pinned (.plain (OpenSpec.upto tableRowsSpec)) tableRowsUptoCard

/-- THE SECOND FORM's CARD OF 'radicandlaw08.ModeNames'. -/
def modeNamesUptoCard : Claim7 := { stood := { row := modeNamesUptoRow, standIns := [], harness := (true, "58b6811c9ee3698c745764d6766618155d488ae2425bbba2ed6608b972c7aa40"), looks := false }, kinds := [], alts := [], laidByText := true, laidKinds := [.data], laidTests := true, laidLooks := .later }
def ModeNamesUptoCardSaid : Prop := Claim7.holds Tryd.pinned (.plain (OpenSpec.upto modeNamesSpec)) modeNamesUptoCard
end Rows
end Go.Proofs.YtbjofgoimkmbfaaDoor
