/-
  NARROWER THAN 'FOR EVERY INPUT', by the rows' own cells (each row's printed sentence says how): TableDigits: laid · TableKeeps: laid · TableRoots: laid · TableRows: laid · ModeNames: laid.
  DERIVED. THE GIVEN ROWS OF THIS SEAT. 5 by the template 'for every input the law returns true; each argument reads behind the call as it read before'; 0 by the template 'total and deterministic' (their statements: YtbjofgoimkmbfaaDoorTotals.lean).
  GIVEN WITH THE SEED: the statements are not yours to turn. If you find one false, say at which input.
  Laid BY PROGRAM, IN A SANDBOX (cutbox-rows.mjs): the forced cells as the released guide's own fill.sh prints them over the translation 20053ab0772e117c… (all of the seat's roots in one cut). By AI agents, Wed Nov 11 2026. No macro, syntax, notation, axiom, sorry.
-/
import Derived.Test.YtbjofgoimkmbfaaDoorChecked
import GoSem.Claim
import GoSem.ClaimJoined
import GoSem.ClaimMapViews
import Derived.JoinedTies
import Derived.KernelRfl
namespace Go.Proofs.YtbjofgoimkmbfaaDoor
/- THE CELL 'sum', in the pinned program and in every row, IS THE sha256 OF THE DUMP (.gsa) THAT YtbjofgoimkmbfaaDoorProg.lean LOADS. Nothing in Lean hashes anything: it is a label: what it is worth is what the hold of that sum in a sandbox is worth. -/
noncomputable def Tryd.pinned : Pinned := { name := "ytbjofgoimkmbfaadoor", sum := "20053ab0772e117cab2ed93139a1244fecb6c1be20ce8d87d1509be98611be5f", checked := Tryd.checked }
namespace Rows
def none {H : Type} : Left H := { results := [], args := [] }

/- WHAT THE LISTED PACKAGE-LEVEL VARIABLES READ AS WHEN THE CALL BEGINS. Each datum BY PROGRAM (the guide's laid-datum.mjs) off the statement by which the dump's own 'gosem.cut.vars' lays the variable. In a bare row this is a premise. The card (YtbjofgoimkmbfaaDoorCards.lean) ties it to the program's text. -/
def laid_radicand_table_rows {H : Type} : DataW H := .agg [.agg [.lit (.int .i64 12), .lit (.int .i64 3), .lit (.int .i64 (-5)), .lit (.int .i64 (-13))], .agg [.lit (.int .i64 14), .lit (.int .i64 4), .lit (.int .i64 (-6)), .lit (.int .i64 (-15))], .agg [.lit (.int .i64 15), .lit (.int .i64 4), .lit (.int .i64 (-6)), .lit (.int .i64 (-16))], .agg [.lit (.int .i64 16), .lit (.int .i64 4), .lit (.int .i64 (-7)), .lit (.int .i64 (-18))], .agg [.lit (.int .i64 18), .lit (.int .i64 5), .lit (.int .i64 (-8)), .lit (.int .i64 (-20))], .agg [.lit (.int .i64 19), .lit (.int .i64 5), .lit (.int .i64 (-8)), .lit (.int .i64 (-21))], .agg [.lit (.int .i64 20), .lit (.int .i64 5), .lit (.int .i64 (-9)), .lit (.int .i64 (-23))], .agg [.lit (.int .i64 22), .lit (.int .i64 6), .lit (.int .i64 (-10)), .lit (.int .i64 (-25))]]
def laid_radicand_mode_names {H : Type} : DataW H := .agg [.lit (.string []), .lit (.string [101, 118, 101, 110]), .lit (.string [97, 119, 97, 121]), .lit (.string [122, 101, 114, 111]), .lit (.string [117, 112]), .lit (.string [100, 111, 119, 110])]

/-- 'radicandlaw14.TableDigits': WHATEVER THE INPUT: true; the input reads as it did. -/
def tableDigitsSpec : ChangeSpec := { name := "tableDigits", fn := fun _ => fun
  | [d1, d2] => { results := [.lit (.bool true)], args := [d1, d2] }
  | _ => none }
def tableDigitsRow : OpenClaim := { program := "ytbjofgoimkmbfaadoor", sum := "20053ab0772e117cab2ed93139a1244fecb6c1be20ce8d87d1509be98611be5f", func := "radicand/radicandlaw14.TableDigits", spec := "tableDigits", named := ["radicand/table.rows"], apart := false, laid := [("radicand/table.rows", laid_radicand_table_rows)] }
def TableDigitsSaid : Prop := tableDigitsRow.holds Tryd.pinned (OpenSpec.ofChange tableDigitsSpec)

/-- ITS FALSE NEIGHBOUR: 'it returns false'. Refute it at one input. -/
def tableDigitsWrong : ChangeSpec := { name := "tableDigits", fn := fun _ => fun
  | [d1, d2] => { results := [.lit (.bool false)], args := [d1, d2] }
  | _ => none }
def TableDigitsWrongFalsely : Prop := tableDigitsRow.holds Tryd.pinned (OpenSpec.ofChange tableDigitsWrong)

/-- 'radicandlaw14.TableKeeps': WHATEVER THE INPUT: true; the input reads as it did. -/
def tableKeepsSpec : ChangeSpec := { name := "tableKeeps", fn := fun _ => fun
  | [d1, d2, d3] => { results := [.lit (.bool true)], args := [d1, d2, d3] }
  | _ => none }
def tableKeepsRow : OpenClaim := { program := "ytbjofgoimkmbfaadoor", sum := "20053ab0772e117cab2ed93139a1244fecb6c1be20ce8d87d1509be98611be5f", func := "radicand/radicandlaw14.TableKeeps", spec := "tableKeeps", named := ["radicand/table.rows"], apart := false, laid := [("radicand/table.rows", laid_radicand_table_rows)] }
def TableKeepsSaid : Prop := tableKeepsRow.holds Tryd.pinned (OpenSpec.ofChange tableKeepsSpec)

/-- ITS FALSE NEIGHBOUR: 'it returns false'. Refute it at one input. -/
def tableKeepsWrong : ChangeSpec := { name := "tableKeeps", fn := fun _ => fun
  | [d1, d2, d3] => { results := [.lit (.bool false)], args := [d1, d2, d3] }
  | _ => none }
def TableKeepsWrongFalsely : Prop := tableKeepsRow.holds Tryd.pinned (OpenSpec.ofChange tableKeepsWrong)

/-- 'radicandlaw14.TableRoots': WHATEVER THE INPUT: true; the input reads as it did. -/
def tableRootsSpec : ChangeSpec := { name := "tableRoots", fn := fun _ => fun
  | [d1, d2, d3] => { results := [.lit (.bool true)], args := [d1, d2, d3] }
  | _ => none }
def tableRootsRow : OpenClaim := { program := "ytbjofgoimkmbfaadoor", sum := "20053ab0772e117cab2ed93139a1244fecb6c1be20ce8d87d1509be98611be5f", func := "radicand/radicandlaw14.TableRoots", spec := "tableRoots", named := ["radicand/table.rows"], apart := false, laid := [("radicand/table.rows", laid_radicand_table_rows)] }
def TableRootsSaid : Prop := tableRootsRow.holds Tryd.pinned (OpenSpec.ofChange tableRootsSpec)

/-- ITS FALSE NEIGHBOUR: 'it returns false'. Refute it at one input. -/
def tableRootsWrong : ChangeSpec := { name := "tableRoots", fn := fun _ => fun
  | [d1, d2, d3] => { results := [.lit (.bool false)], args := [d1, d2, d3] }
  | _ => none }
def TableRootsWrongFalsely : Prop := tableRootsRow.holds Tryd.pinned (OpenSpec.ofChange tableRootsWrong)

/-- 'radicandlaw14.TableRows': WHATEVER THE INPUT: true; the input reads as it did. -/
def tableRowsSpec : ChangeSpec := { name := "tableRows", fn := fun _ => fun
  | [d] => { results := [.lit (.bool true)], args := [d] }
  | _ => none }
def tableRowsRow : OpenClaim := { program := "ytbjofgoimkmbfaadoor", sum := "20053ab0772e117cab2ed93139a1244fecb6c1be20ce8d87d1509be98611be5f", func := "radicand/radicandlaw14.TableRows", spec := "tableRows", unfollowed := true, recurses := true, named := ["radicand/table.rows"], apart := false, laid := [("radicand/table.rows", laid_radicand_table_rows)] }
def TableRowsSaid : Prop := tableRowsRow.holds Tryd.pinned (OpenSpec.ofChange tableRowsSpec)

/-- ITS FALSE NEIGHBOUR: 'it returns false'. Refute it at one input. -/
def tableRowsWrong : ChangeSpec := { name := "tableRows", fn := fun _ => fun
  | [d] => { results := [.lit (.bool false)], args := [d] }
  | _ => none }
def TableRowsWrongFalsely : Prop := tableRowsRow.holds Tryd.pinned (OpenSpec.ofChange tableRowsWrong)

/-- 'radicandlaw08.ModeNames': WHATEVER THE INPUT: true; the input reads as it did. -/
def modeNamesSpec : ChangeSpec := { name := "modeNames", fn := fun _ => fun
  | [d1, d2] => { results := [.lit (.bool true)], args := [d1, d2] }
  | _ => none }
def modeNamesRow : OpenClaim := { program := "ytbjofgoimkmbfaadoor", sum := "20053ab0772e117cab2ed93139a1244fecb6c1be20ce8d87d1509be98611be5f", func := "radicand/radicandlaw08.ModeNames", spec := "modeNames", inPlace := ["math/bits.Sub64", "math/bits.Add64"], unfollowed := true, recurses := true, named := ["radicand/mode.names"], apart := false, laid := [("radicand/mode.names", laid_radicand_mode_names)] }
def ModeNamesSaid : Prop := modeNamesRow.holds Tryd.pinned (OpenSpec.ofChange modeNamesSpec)

/-- ITS FALSE NEIGHBOUR: 'it returns false'. Refute it at one input. -/
def modeNamesWrong : ChangeSpec := { name := "modeNames", fn := fun _ => fun
  | [d1, d2] => { results := [.lit (.bool false)], args := [d1, d2] }
  | _ => none }
def ModeNamesWrongFalsely : Prop := modeNamesRow.holds Tryd.pinned (OpenSpec.ofChange modeNamesWrong)

/- THE SECOND FORM. 'bulk': how many values and letters a reading holds, each counted each time it is reached (what is shared counts as often as it is met; a slice's spare places count too). A statement '..UptoSaid' is the law's where the arguments, and the package variables that the reading takes, are together of bulk at most 1048576: NARROWER than '..Said'. Prove '..Said' where nothing that the law and all that it calls make is longer than what came in: it says more and counts as full. Else prove '..UptoSaid'. A law counts once. -/
mutual
def uptoBulk {H : Type} : DataW H → Nat
  | .lit (.string bytes) => bytes.length + 1
  | .lit _ => 1
  | .nil => 1
  | .ptr d => uptoBulk d + 1
  | .slice elems spare => uptoBulkAll elems + uptoBulkAll spare + 1
  | .agg parts => uptoBulkAll parts + 1
  | .iface _ d => uptoBulk d + 1
  | .map entries => uptoBulkEntries entries + 1
  | .held _ => 1
def uptoBulkAll {H : Type} : List (DataW H) → Nat
  | [] => 0
  | d :: r => uptoBulk d + uptoBulkAll r
def uptoBulkEntries {H : Type} : List (Lit × DataW H) → Nat
  | [] => 0
  | x :: r => uptoBulkEntry x + uptoBulkEntries r
def uptoBulkEntry {H : Type} : Lit × DataW H → Nat
  | (.string bytes, d) => bytes.length + uptoBulk d + 1
  | (_, d) => uptoBulk d + 1
 end
def uptoSmall : (H : Type) → List (DataW H) → Bool := fun _ ds => decide (uptoBulkAll ds ≤ 1048576)
def OpenSpec.upto (s : _root_.Go.ChangeSpec) : _root_.Go.OpenSpec := { _root_.Go.OpenSpec.ofChange s with cond := some uptoSmall }

/-- 'radicandlaw14.TableDigits', WHERE WHAT IT READS IS OF BULK AT MOST 1048576: true; the input reads as it did. -/
def tableDigitsUptoRow : OpenClaim := { program := "ytbjofgoimkmbfaadoor", sum := "20053ab0772e117cab2ed93139a1244fecb6c1be20ce8d87d1509be98611be5f", func := "radicand/radicandlaw14.TableDigits", spec := "tableDigits", named := ["radicand/table.rows"], apart := false, laid := [("radicand/table.rows", laid_radicand_table_rows)], narrowed := true }
def TableDigitsUptoSaid : Prop := tableDigitsUptoRow.holds Tryd.pinned (OpenSpec.upto tableDigitsSpec)

/-- 'radicandlaw14.TableKeeps', WHERE WHAT IT READS IS OF BULK AT MOST 1048576: true; the input reads as it did. -/
def tableKeepsUptoRow : OpenClaim := { program := "ytbjofgoimkmbfaadoor", sum := "20053ab0772e117cab2ed93139a1244fecb6c1be20ce8d87d1509be98611be5f", func := "radicand/radicandlaw14.TableKeeps", spec := "tableKeeps", named := ["radicand/table.rows"], apart := false, laid := [("radicand/table.rows", laid_radicand_table_rows)], narrowed := true }
def TableKeepsUptoSaid : Prop := tableKeepsUptoRow.holds Tryd.pinned (OpenSpec.upto tableKeepsSpec)

/-- 'radicandlaw14.TableRoots', WHERE WHAT IT READS IS OF BULK AT MOST 1048576: true; the input reads as it did. -/
def tableRootsUptoRow : OpenClaim := { program := "ytbjofgoimkmbfaadoor", sum := "20053ab0772e117cab2ed93139a1244fecb6c1be20ce8d87d1509be98611be5f", func := "radicand/radicandlaw14.TableRoots", spec := "tableRoots", named := ["radicand/table.rows"], apart := false, laid := [("radicand/table.rows", laid_radicand_table_rows)], narrowed := true }
def TableRootsUptoSaid : Prop := tableRootsUptoRow.holds Tryd.pinned (OpenSpec.upto tableRootsSpec)

/-- 'radicandlaw14.TableRows', WHERE WHAT IT READS IS OF BULK AT MOST 1048576: true; the input reads as it did. -/
def tableRowsUptoRow : OpenClaim := { program := "ytbjofgoimkmbfaadoor", sum := "20053ab0772e117cab2ed93139a1244fecb6c1be20ce8d87d1509be98611be5f", func := "radicand/radicandlaw14.TableRows", spec := "tableRows", unfollowed := true, recurses := true, named := ["radicand/table.rows"], apart := false, laid := [("radicand/table.rows", laid_radicand_table_rows)], narrowed := true }
def TableRowsUptoSaid : Prop := tableRowsUptoRow.holds Tryd.pinned (OpenSpec.upto tableRowsSpec)

/-- 'radicandlaw08.ModeNames', WHERE WHAT IT READS IS OF BULK AT MOST 1048576: true; the input reads as it did. -/
def modeNamesUptoRow : OpenClaim := { program := "ytbjofgoimkmbfaadoor", sum := "20053ab0772e117cab2ed93139a1244fecb6c1be20ce8d87d1509be98611be5f", func := "radicand/radicandlaw08.ModeNames", spec := "modeNames", inPlace := ["math/bits.Sub64", "math/bits.Add64"], unfollowed := true, recurses := true, named := ["radicand/mode.names"], apart := false, laid := [("radicand/mode.names", laid_radicand_mode_names)], narrowed := true }
def ModeNamesUptoSaid : Prop := modeNamesUptoRow.holds Tryd.pinned (OpenSpec.upto modeNamesSpec)

end Rows
end Go.Proofs.YtbjofgoimkmbfaaDoor
