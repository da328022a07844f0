/-
  NARROWER THAN 'FOR EVERY INPUT', by the rows' own cells (each row's printed sentence says how): TableRows: laid · ModeNames: laid · SrtDivides: laid · SrtDigits: laid · SrtLeft: laid · SrtKeeps: laid.
  DERIVED. THE GIVEN ROWS OF THIS SEAT. 6 by the template 'for every input the law returns true; each argument reads behind the call as it read before'; 0 by the template 'total and deterministic' (their statements: YtffengboblekpaaDoorTotals.lean).
  GIVEN WITH THE SEED: the statements are not yours to turn. If you find one false, say at which input.
  Laid BY PROGRAM, IN A SANDBOX (cutbox-rows.mjs): the forced cells as the released guide's own fill.sh prints them over the translation c47993bac78deefc… (all of the seat's roots in one cut). By AI agents, Wed Nov 11 2026. No macro, syntax, notation, axiom, sorry.
-/
import Derived.Test.YtffengboblekpaaDoorChecked
import GoSem.Claim
import GoSem.ClaimJoined
import GoSem.ClaimMapViews
import Derived.JoinedTies
import Derived.KernelRfl
namespace Go.Proofs.YtffengboblekpaaDoor
/- THE CELL 'sum', in the pinned program and in every row, IS THE sha256 OF THE DUMP (.gsa) THAT YtffengboblekpaaDoorProg.lean LOADS. Nothing in Lean hashes anything: it is a label: what it is worth is what the hold of that sum in a sandbox is worth. -/
noncomputable def Tryd.pinned : Pinned := { name := "ytffengboblekpaadoor", sum := "c47993bac78deefc5c11c90b42c1d9f4b6cb02d719d2519a4ae8c7fa70a55932", checked := Tryd.checked }
namespace Rows
def none {H : Type} : Left H := { results := [], args := [] }

/- WHAT THE LISTED PACKAGE-LEVEL VARIABLES READ AS WHEN THE CALL BEGINS. Each datum BY PROGRAM (the guide's laid-datum.mjs) off the statement by which the dump's own 'gosem.cut.vars' lays the variable. In a bare row this is a premise. The card (YtffengboblekpaaDoorCards.lean) ties it to the program's text. -/
def laid_radicand_table_rows {H : Type} : DataW H := .agg [.agg [.lit (.int .i64 12), .lit (.int .i64 3), .lit (.int .i64 (-5)), .lit (.int .i64 (-13))], .agg [.lit (.int .i64 14), .lit (.int .i64 4), .lit (.int .i64 (-6)), .lit (.int .i64 (-15))], .agg [.lit (.int .i64 15), .lit (.int .i64 4), .lit (.int .i64 (-6)), .lit (.int .i64 (-16))], .agg [.lit (.int .i64 16), .lit (.int .i64 4), .lit (.int .i64 (-7)), .lit (.int .i64 (-18))], .agg [.lit (.int .i64 18), .lit (.int .i64 5), .lit (.int .i64 (-8)), .lit (.int .i64 (-20))], .agg [.lit (.int .i64 19), .lit (.int .i64 5), .lit (.int .i64 (-8)), .lit (.int .i64 (-21))], .agg [.lit (.int .i64 20), .lit (.int .i64 5), .lit (.int .i64 (-9)), .lit (.int .i64 (-23))], .agg [.lit (.int .i64 22), .lit (.int .i64 6), .lit (.int .i64 (-10)), .lit (.int .i64 (-25))]]
def laid_radicand_mode_names {H : Type} : DataW H := .agg [.lit (.string []), .lit (.string [101, 118, 101, 110]), .lit (.string [97, 119, 97, 121]), .lit (.string [122, 101, 114, 111]), .lit (.string [117, 112]), .lit (.string [100, 111, 119, 110])]

/-- 'radicandlaw14.TableRows': WHATEVER THE INPUT: true; the input reads as it did. -/
def tableRowsSpec : ChangeSpec := { name := "tableRows", fn := fun _ => fun
  | [d] => { results := [.lit (.bool true)], args := [d] }
  | _ => none }
def tableRowsRow : OpenClaim := { program := "ytffengboblekpaadoor", sum := "c47993bac78deefc5c11c90b42c1d9f4b6cb02d719d2519a4ae8c7fa70a55932", func := "radicand/radicandlaw14.TableRows", spec := "tableRows", unfollowed := true, recurses := true, named := ["radicand/table.rows"], apart := false, laid := [("radicand/table.rows", laid_radicand_table_rows)] }
def TableRowsSaid : Prop := tableRowsRow.holds Tryd.pinned (OpenSpec.ofChange tableRowsSpec)

/-- ITS FALSE NEIGHBOUR: 'it returns false'. Refute it at one input. -/
def tableRowsWrong : ChangeSpec := { name := "tableRows", fn := fun _ => fun
  | [d] => { results := [.lit (.bool false)], args := [d] }
  | _ => none }
def TableRowsWrongFalsely : Prop := tableRowsRow.holds Tryd.pinned (OpenSpec.ofChange tableRowsWrong)

/-- 'radicandlaw08.ModeNames': WHATEVER THE INPUT: true; the input reads as it did. -/
def modeNamesSpec : ChangeSpec := { name := "modeNames", fn := fun _ => fun
  | [d1, d2] => { results := [.lit (.bool true)], args := [d1, d2] }
  | _ => none }
def modeNamesRow : OpenClaim := { program := "ytffengboblekpaadoor", sum := "c47993bac78deefc5c11c90b42c1d9f4b6cb02d719d2519a4ae8c7fa70a55932", func := "radicand/radicandlaw08.ModeNames", spec := "modeNames", inPlace := ["math/bits.Sub64", "math/bits.Add64"], unfollowed := true, recurses := true, named := ["radicand/mode.names"], apart := false, laid := [("radicand/mode.names", laid_radicand_mode_names)] }
def ModeNamesSaid : Prop := modeNamesRow.holds Tryd.pinned (OpenSpec.ofChange modeNamesSpec)

/-- ITS FALSE NEIGHBOUR: 'it returns false'. Refute it at one input. -/
def modeNamesWrong : ChangeSpec := { name := "modeNames", fn := fun _ => fun
  | [d1, d2] => { results := [.lit (.bool false)], args := [d1, d2] }
  | _ => none }
def ModeNamesWrongFalsely : Prop := modeNamesRow.holds Tryd.pinned (OpenSpec.ofChange modeNamesWrong)

/-- 'radicandlaw15.SrtDivides': WHATEVER THE INPUT: true; the input reads as it did. -/
def srtDividesSpec : ChangeSpec := { name := "srtDivides", fn := fun _ => fun
  | [d1, d2] => { results := [.lit (.bool true)], args := [d1, d2] }
  | _ => none }
def srtDividesRow : OpenClaim := { program := "ytffengboblekpaadoor", sum := "c47993bac78deefc5c11c90b42c1d9f4b6cb02d719d2519a4ae8c7fa70a55932", func := "radicand/radicandlaw15.SrtDivides", spec := "srtDivides", inPlace := ["math/bits.Sub64", "math/bits.Add64"], unfollowed := true, recurses := true, named := ["radicand/table.rows"], apart := false, laid := [("radicand/table.rows", laid_radicand_table_rows)] }
def SrtDividesSaid : Prop := srtDividesRow.holds Tryd.pinned (OpenSpec.ofChange srtDividesSpec)

/-- ITS FALSE NEIGHBOUR: 'it returns false'. Refute it at one input. -/
def srtDividesWrong : ChangeSpec := { name := "srtDivides", fn := fun _ => fun
  | [d1, d2] => { results := [.lit (.bool false)], args := [d1, d2] }
  | _ => none }
def SrtDividesWrongFalsely : Prop := srtDividesRow.holds Tryd.pinned (OpenSpec.ofChange srtDividesWrong)

/-- 'radicandlaw15.SrtDigits': WHATEVER THE INPUT: true; the input reads as it did. -/
def srtDigitsSpec : ChangeSpec := { name := "srtDigits", fn := fun _ => fun
  | [d1, d2] => { results := [.lit (.bool true)], args := [d1, d2] }
  | _ => none }
def srtDigitsRow : OpenClaim := { program := "ytffengboblekpaadoor", sum := "c47993bac78deefc5c11c90b42c1d9f4b6cb02d719d2519a4ae8c7fa70a55932", func := "radicand/radicandlaw15.SrtDigits", spec := "srtDigits", inPlace := ["math/bits.Add64", "math/bits.Sub64"], unfollowed := true, recurses := true, named := ["radicand/table.rows"], apart := false, laid := [("radicand/table.rows", laid_radicand_table_rows)] }
def SrtDigitsSaid : Prop := srtDigitsRow.holds Tryd.pinned (OpenSpec.ofChange srtDigitsSpec)

/-- ITS FALSE NEIGHBOUR: 'it returns false'. Refute it at one input. -/
def srtDigitsWrong : ChangeSpec := { name := "srtDigits", fn := fun _ => fun
  | [d1, d2] => { results := [.lit (.bool false)], args := [d1, d2] }
  | _ => none }
def SrtDigitsWrongFalsely : Prop := srtDigitsRow.holds Tryd.pinned (OpenSpec.ofChange srtDigitsWrong)

/-- 'radicandlaw15.SrtLeft': WHATEVER THE INPUT: true; the input reads as it did. -/
def srtLeftSpec : ChangeSpec := { name := "srtLeft", fn := fun _ => fun
  | [d1, d2, d3] => { results := [.lit (.bool true)], args := [d1, d2, d3] }
  | _ => none }
def srtLeftRow : OpenClaim := { program := "ytffengboblekpaadoor", sum := "c47993bac78deefc5c11c90b42c1d9f4b6cb02d719d2519a4ae8c7fa70a55932", func := "radicand/radicandlaw15.SrtLeft", spec := "srtLeft", inPlace := ["math/bits.Add64", "math/bits.Sub64"], unfollowed := true, recurses := true, named := ["radicand/table.rows"], apart := false, laid := [("radicand/table.rows", laid_radicand_table_rows)] }
def SrtLeftSaid : Prop := srtLeftRow.holds Tryd.pinned (OpenSpec.ofChange srtLeftSpec)

/-- ITS FALSE NEIGHBOUR: 'it returns false'. Refute it at one input. -/
def srtLeftWrong : ChangeSpec := { name := "srtLeft", fn := fun _ => fun
  | [d1, d2, d3] => { results := [.lit (.bool false)], args := [d1, d2, d3] }
  | _ => none }
def SrtLeftWrongFalsely : Prop := srtLeftRow.holds Tryd.pinned (OpenSpec.ofChange srtLeftWrong)

/-- 'radicandlaw15.SrtKeeps': WHATEVER THE INPUT: true; the input reads as it did. -/
def srtKeepsSpec : ChangeSpec := { name := "srtKeeps", fn := fun _ => fun
  | [d1, d2, d3] => { results := [.lit (.bool true)], args := [d1, d2, d3] }
  | _ => none }
def srtKeepsRow : OpenClaim := { program := "ytffengboblekpaadoor", sum := "c47993bac78deefc5c11c90b42c1d9f4b6cb02d719d2519a4ae8c7fa70a55932", func := "radicand/radicandlaw15.SrtKeeps", spec := "srtKeeps", inPlace := ["math/bits.Add64", "math/bits.Sub64"], unfollowed := true, recurses := true, named := ["radicand/table.rows"], apart := false, laid := [("radicand/table.rows", laid_radicand_table_rows)] }
def SrtKeepsSaid : Prop := srtKeepsRow.holds Tryd.pinned (OpenSpec.ofChange srtKeepsSpec)

/-- ITS FALSE NEIGHBOUR: 'it returns false'. Refute it at one input. -/
def srtKeepsWrong : ChangeSpec := { name := "srtKeeps", fn := fun _ => fun
  | [d1, d2, d3] => { results := [.lit (.bool false)], args := [d1, d2, d3] }
  | _ => none }
def SrtKeepsWrongFalsely : Prop := srtKeepsRow.holds Tryd.pinned (OpenSpec.ofChange srtKeepsWrong)

/- THE SECOND FORM. 'bulk': how many values and letters a reading holds, each counted each time it is reached (what is shared counts as often as it is met; a slice's spare places count too). A statement '..UptoSaid' is the law's where the arguments, and the package variables that the reading takes, are together of bulk at most 1048576: NARROWER than '..Said'. Prove '..Said' where nothing that the law and all that it calls make is longer than what came in: it says more and counts as full. Else prove '..UptoSaid'. A law counts once. -/
mutual
def uptoBulk {H : Type} : DataW H → Nat
  | .lit (.string bytes) => bytes.length + 1
  | .lit _ => 1
  | .nil => 1
  | .ptr d => uptoBulk d + 1
  | .slice elems spare => uptoBulkAll elems + uptoBulkAll spare + 1
  | .agg parts => uptoBulkAll parts + 1
  | .iface _ d => uptoBulk d + 1
  | .map entries => uptoBulkEntries entries + 1
  | .held _ => 1
def uptoBulkAll {H : Type} : List (DataW H) → Nat
  | [] => 0
  | d :: r => uptoBulk d + uptoBulkAll r
def uptoBulkEntries {H : Type} : List (Lit × DataW H) → Nat
  | [] => 0
  | x :: r => uptoBulkEntry x + uptoBulkEntries r
def uptoBulkEntry {H : Type} : Lit × DataW H → Nat
  | (.string bytes, d) => bytes.length + uptoBulk d + 1
  | (_, d) => uptoBulk d + 1
 end
def uptoSmall : (H : Type) → List (DataW H) → Bool := fun _ ds => decide (uptoBulkAll ds ≤ 1048576)
def OpenSpec.upto (s : _root_.Go.ChangeSpec) : _root_.Go.OpenSpec := { _root_.Go.OpenSpec.ofChange s with cond := some uptoSmall }

/-- 'radicandlaw14.TableRows', WHERE WHAT IT READS IS OF BULK AT MOST 1048576: true; the input reads as it did. -/
def tableRowsUptoRow : OpenClaim := { program := "ytffengboblekpaadoor", sum := "c47993bac78deefc5c11c90b42c1d9f4b6cb02d719d2519a4ae8c7fa70a55932", func := "radicand/radicandlaw14.TableRows", spec := "tableRows", unfollowed := true, recurses := true, named := ["radicand/table.rows"], apart := false, laid := [("radicand/table.rows", laid_radicand_table_rows)], narrowed := true }
def TableRowsUptoSaid : Prop := tableRowsUptoRow.holds Tryd.pinned (OpenSpec.upto tableRowsSpec)

/-- 'radicandlaw08.ModeNames', WHERE WHAT IT READS IS OF BULK AT MOST 1048576: true; the input reads as it did. -/
def modeNamesUptoRow : OpenClaim := { program := "ytffengboblekpaadoor", sum := "c47993bac78deefc5c11c90b42c1d9f4b6cb02d719d2519a4ae8c7fa70a55932", func := "radicand/radicandlaw08.ModeNames", spec := "modeNames", inPlace := ["math/bits.Sub64", "math/bits.Add64"], unfollowed := true, recurses := true, named := ["radicand/mode.names"], apart := false, laid := [("radicand/mode.names", laid_radicand_mode_names)], narrowed := true }
def ModeNamesUptoSaid : Prop := modeNamesUptoRow.holds Tryd.pinned (OpenSpec.upto modeNamesSpec)

/-- 'radicandlaw15.SrtDivides', WHERE WHAT IT READS IS OF BULK AT MOST 1048576: true; the input reads as it did. -/
def srtDividesUptoRow : OpenClaim := { program := "ytffengboblekpaadoor", sum := "c47993bac78deefc5c11c90b42c1d9f4b6cb02d719d2519a4ae8c7fa70a55932", func := "radicand/radicandlaw15.SrtDivides", spec := "srtDivides", inPlace := ["math/bits.Sub64", "math/bits.Add64"], unfollowed := true, recurses := true, named := ["radicand/table.rows"], apart := false, laid := [("radicand/table.rows", laid_radicand_table_rows)], narrowed := true }
def SrtDividesUptoSaid : Prop := srtDividesUptoRow.holds Tryd.pinned (OpenSpec.upto srtDividesSpec)

/-- 'radicandlaw15.SrtDigits', WHERE WHAT IT READS IS OF BULK AT MOST 1048576: true; the input reads as it did. -/
def srtDigitsUptoRow : OpenClaim := { program := "ytffengboblekpaadoor", sum := "c47993bac78deefc5c11c90b42c1d9f4b6cb02d719d2519a4ae8c7fa70a55932", func := "radicand/radicandlaw15.SrtDigits", spec := "srtDigits", inPlace := ["math/bits.Add64", "math/bits.Sub64"], unfollowed := true, recurses := true, named := ["radicand/table.rows"], apart := false, laid := [("radicand/table.rows", laid_radicand_table_rows)], narrowed := true }
def SrtDigitsUptoSaid : Prop := srtDigitsUptoRow.holds Tryd.pinned (OpenSpec.upto srtDigitsSpec)

/-- 'radicandlaw15.SrtLeft', WHERE WHAT IT READS IS OF BULK AT MOST 1048576: true; the input reads as it did. -/
def srtLeftUptoRow : OpenClaim := { program := "ytffengboblekpaadoor", sum := "c47993bac78deefc5c11c90b42c1d9f4b6cb02d719d2519a4ae8c7fa70a55932", func := "radicand/radicandlaw15.SrtLeft", spec := "srtLeft", inPlace := ["math/bits.Add64", "math/bits.Sub64"], unfollowed := true, recurses := true, named := ["radicand/table.rows"], apart := false, laid := [("radicand/table.rows", laid_radicand_table_rows)], narrowed := true }
def SrtLeftUptoSaid : Prop := srtLeftUptoRow.holds Tryd.pinned (OpenSpec.upto srtLeftSpec)

/-- 'radicandlaw15.SrtKeeps', WHERE WHAT IT READS IS OF BULK AT MOST 1048576: true; the input reads as it did. -/
def srtKeepsUptoRow : OpenClaim := { program := "ytffengboblekpaadoor", sum := "c47993bac78deefc5c11c90b42c1d9f4b6cb02d719d2519a4ae8c7fa70a55932", func := "radicand/radicandlaw15.SrtKeeps", spec := "srtKeeps", inPlace := ["math/bits.Add64", "math/bits.Sub64"], unfollowed := true, recurses := true, named := ["radicand/table.rows"], apart := false, laid := [("radicand/table.rows", laid_radicand_table_rows)], narrowed := true }
def SrtKeepsUptoSaid : Prop := srtKeepsUptoRow.holds Tryd.pinned (OpenSpec.upto srtKeepsSpec)

end Rows
end Go.Proofs.YtffengboblekpaaDoor
