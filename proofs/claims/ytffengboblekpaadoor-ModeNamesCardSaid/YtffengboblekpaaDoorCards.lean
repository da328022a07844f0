/-
  DERIVED. GIVEN WITH THE SEED: THE CARDS: each row of YtffengboblekpaaDoorRows.lean that lists a variable, with what it lists TIED to the program's text (the seventh form; the later family's looks); each row that meets fmt, with fmt's text TOLD by the authors' own Lean function (tested against real Go, not proved from fmt's source: count such statements apart). THE CARD IS WHAT COUNTS. Prove the row's statement (the work); the ties are given (YtffengboblekpaaDoorTie.lean); close each card by the builder's one call (the guide's Derived/Test/ToyasCard.lean, 'card_holds'). Laid BY PROGRAM, IN A SANDBOX (cutbox-door.mjs). By AI agents, Wed Nov 11 2026. No macro, syntax, notation, axiom, sorry.
-/
import Derived.Test.YtffengboblekpaaDoorRows
import GoSem.ClaimSeven
namespace Go.Proofs.YtffengboblekpaaDoor
namespace Rows

/-- THE TIED CARD OF 'radicandlaw14.TableRows'. -/
def tableRowsCard : Claim7 := { stood := { row := tableRowsRow, standIns := [], harness := (true, "a6b4aa70f424644c37a4c9e20e853315618d61d455d31ba796c3ebf9f070b8c3"), looks := false }, kinds := [], alts := [], laidByText := true, laidKinds := [.data], laidTests := true, laidLooks := .later }
def TableRowsCardSaid : Prop := Claim7.holds Tryd.pinned (.plain (OpenSpec.ofChange tableRowsSpec)) tableRowsCard

/-- THE TIED CARD OF 'radicandlaw08.ModeNames'. -/
def modeNamesCard : Claim7 := { stood := { row := modeNamesRow, standIns := [], harness := (true, "a6b4aa70f424644c37a4c9e20e853315618d61d455d31ba796c3ebf9f070b8c3"), looks := false }, kinds := [], alts := [], laidByText := true, laidKinds := [.data], laidTests := true, laidLooks := .later }
def ModeNamesCardSaid : Prop := Claim7.holds Tryd.pinned (.plain (OpenSpec.ofChange modeNamesSpec)) modeNamesCard

/-- THE TIED CARD OF 'radicandlaw15.SrtDivides'. -/
def srtDividesCard : Claim7 := { stood := { row := srtDividesRow, standIns := [], harness := (true, "a6b4aa70f424644c37a4c9e20e853315618d61d455d31ba796c3ebf9f070b8c3"), looks := false }, kinds := [], alts := [], laidByText := true, laidKinds := [.data], laidTests := true, laidLooks := .later }
def SrtDividesCardSaid : Prop := Claim7.holds Tryd.pinned (.plain (OpenSpec.ofChange srtDividesSpec)) srtDividesCard

/-- THE TIED CARD OF 'radicandlaw15.SrtDigits'. -/
def srtDigitsCard : Claim7 := { stood := { row := srtDigitsRow, standIns := [], harness := (true, "a6b4aa70f424644c37a4c9e20e853315618d61d455d31ba796c3ebf9f070b8c3"), looks := false }, kinds := [], alts := [], laidByText := true, laidKinds := [.data], laidTests := true, laidLooks := .later }
def SrtDigitsCardSaid : Prop := Claim7.holds Tryd.pinned (.plain (OpenSpec.ofChange srtDigitsSpec)) srtDigitsCard

/-- THE TIED CARD OF 'radicandlaw15.SrtLeft'. -/
def srtLeftCard : Claim7 := { stood := { row := srtLeftRow, standIns := [], harness := (true, "a6b4aa70f424644c37a4c9e20e853315618d61d455d31ba796c3ebf9f070b8c3"), looks := false }, kinds := [], alts := [], laidByText := true, laidKinds := [.data], laidTests := true, laidLooks := .later }
def SrtLeftCardSaid : Prop := Claim7.holds Tryd.pinned (.plain (OpenSpec.ofChange srtLeftSpec)) srtLeftCard

/-- THE TIED CARD OF 'radicandlaw15.SrtKeeps'. -/
def srtKeepsCard : Claim7 := { stood := { row := srtKeepsRow, standIns := [], harness := (true, "a6b4aa70f424644c37a4c9e20e853315618d61d455d31ba796c3ebf9f070b8c3"), looks := false }, kinds := [], alts := [], laidByText := true, laidKinds := [.data], laidTests := true, laidLooks := .later }
def SrtKeepsCardSaid : Prop := Claim7.holds Tryd.pinned (.plain (OpenSpec.ofChange srtKeepsSpec)) srtKeepsCard

/-- THE SECOND FORM's CARD OF 'radicandlaw14.TableRows'. -/
def tableRowsUptoCard : Claim7 := { stood := { row := tableRowsUptoRow, standIns := [], harness := (true, "a6b4aa70f424644c37a4c9e20e853315618d61d455d31ba796c3ebf9f070b8c3"), looks := false }, kinds := [], alts := [], laidByText := true, laidKinds := [.data], laidTests := true, laidLooks := .later }
def TableRowsUptoCardSaid : Prop := Claim7.holds Tryd.pinned (.plain (OpenSpec.upto tableRowsSpec)) tableRowsUptoCard

/-- THE SECOND FORM's CARD OF 'radicandlaw08.ModeNames'. -/
def modeNamesUptoCard : Claim7 := { stood := { row := modeNamesUptoRow, standIns := [], harness := (true, "a6b4aa70f424644c37a4c9e20e853315618d61d455d31ba796c3ebf9f070b8c3"), looks := false }, kinds := [], alts := [], laidByText := true, laidKinds := [.data], laidTests := true, laidLooks := .later }
def ModeNamesUptoCardSaid : Prop := Claim7.holds Tryd.pinned (.plain (OpenSpec.upto modeNamesSpec)) modeNamesUptoCard

/-- THE SECOND FORM's CARD OF 'radicandlaw15.SrtDivides'. -/
def srtDividesUptoCard : Claim7 := { stood := { row := srtDividesUptoRow, standIns := [], harness := (true, "a6b4aa70f424644c37a4c9e20e853315618d61d455d31ba796c3ebf9f070b8c3"), looks := false }, kinds := [], alts := [], laidByText := true, laidKinds := [.data], laidTests := true, laidLooks := .later }
def SrtDividesUptoCardSaid : Prop := Claim7.holds Tryd.pinned (.plain (OpenSpec.upto srtDividesSpec)) srtDividesUptoCard

/-- THE SECOND FORM's CARD OF 'radicandlaw15.SrtDigits'. -/
def srtDigitsUptoCard : Claim7 := { stood := { row := srtDigitsUptoRow, standIns := [], harness := (true, "a6b4aa70f424644c37a4c9e20e853315618d61d455d31ba796c3ebf9f070b8c3"), looks := false }, kinds := [], alts := [], laidByText := true, laidKinds := [.data], laidTests := true, laidLooks := .later }
def SrtDigitsUptoCardSaid : Prop := Claim7.holds Tryd.pinned (.plain (OpenSpec.upto srtDigitsSpec)) srtDigitsUptoCard

/-- THE SECOND FORM's CARD OF 'radicandlaw15.SrtLeft'. -/
def srtLeftUptoCard : Claim7 := { stood := { row := srtLeftUptoRow, standIns := [], harness := (true, "a6b4aa70f424644c37a4c9e20e853315618d61d455d31ba796c3ebf9f070b8c3"), looks := false }, kinds := [], alts := [], laidByText := true, laidKinds := [.data], laidTests := true, laidLooks := .later }
def SrtLeftUptoCardSaid : Prop := Claim7.holds Tryd.pinned (.plain (OpenSpec.upto srtLeftSpec)) srtLeftUptoCard

/-- THE SECOND FORM's CARD OF 'radicandlaw15.SrtKeeps'. -/
def srtKeepsUptoCard : Claim7 := { stood := { row := srtKeepsUptoRow, standIns := [], harness := (true, "a6b4aa70f424644c37a4c9e20e853315618d61d455d31ba796c3ebf9f070b8c3"), looks := false }, kinds := [], alts := [], laidByText := true, laidKinds := [.data], laidTests := true, laidLooks := .later }
def SrtKeepsUptoCardSaid : Prop := Claim7.holds Tryd.pinned (.plain (OpenSpec.upto srtKeepsSpec)) srtKeepsUptoCard
end Rows
end Go.Proofs.YtffengboblekpaaDoor
