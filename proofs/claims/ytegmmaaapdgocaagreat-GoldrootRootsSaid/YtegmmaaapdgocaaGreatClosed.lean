/- WHAT EVERY ROW of this seat asks of the program as a whole, shown once. -/
import Derived.Test.YtegmmaaapdgocaaGreatRows
import Derived.WalkKit
import Derived.ProofKit
import Derived.OpenShut
import Derived.ClosedOfChecked
namespace Go.Proofs.YtegmmaaapdgocaaGreat
open Go Go.RowKit
theorem hty : Tryz.checked.prog.types = Tryz.checked.src.types := by kernel_rfl
theorem hrest : (Tryz.checked.prog.globals.all (fun g => decide (g.type < Tryz.checked.prog.types.size)) && Tryz.checked.prog.funcs.all (fun f => f.params.all fun t => decide (t < Tryz.checked.prog.types.size))) = true := by kernel_rfl
theorem hkeys : ClosedOfChecked.keysListB Tryz.checked.prog = true := by kernel_rfl
theorem tables : laidOutB Tryz.checked.prog = true ∧ mapsRowed Tryz.checked.prog = true ∧ Tryz.checked.prog.plainKeys = true := ClosedOfChecked.closed_of_checked Tryz.checked hty hrest hkeys
theorem laidOut : laidOutB Tryz.prog = true := tables.1
theorem mapsRows : mapsRowed Tryz.prog = true := tables.2.1
theorem plainKeys : (true == Tryz.prog.plainKeys) = true := by have h : Tryz.prog.plainKeys = true := tables.2.2; rw [h]; rfl
theorem noStops : (Tryz.prog.stops == []) = true := by kernel_rfl
theorem noStopKnobs : (Tryz.prog.stopKnobs == []) = true := by kernel_rfl
theorem stopsHeard : Tryz.prog.stopsHeard = true := by kernel_rfl
theorem and_both {a b : Bool} (h1 : a = true) (h2 : b = true) : (a && b) = true := by rw [h1, h2]; rfl
/-- The start word's signs. -/
def startSigns : List Char := ['h', 'a', 'r', 'n', 'e', 's', 's', ' ', 'e', '1', '3', '3', 'd', 'c', 'e', 'd', '6', '6', '1', '6', 'b', '5', 'c', 'b', '9', '2', '6', '3', '0', '2', 'a', '8', '1', '1', '6', '1', '0', 'f', '3', '0', '6', '7', 'c', '5', '2', 'e', 'd', 'a', '8', '2', '6', '8', 'e', '9', '5', 'b', '9', '1', '6', '3', '9', '5', '4', '2', 'f', '0', '9', '8', 'a', '6', '6', '8', ' ', 'c', 'u', 't', ' ', 'a', 't', ' ', 'r', 'a', 'd', 'i', 'c', 'a', 'n', 'd', '/', 'r', 'a', 'd', 'i', 'c', 'a', 'n', 'd', 'l', 'a', 'w', '2', '0', '.', 'N', 'e', 'w', 't', 'o', 'n', 'r', 'o', 'o', 't', 'R', 'o', 'o', 't', 's', ' ', 'r', 'a', 'd', 'i', 'c', 'a', 'n', 'd', '/', 'r', 'a', 'd', 'i', 'c', 'a', 'n', 'd', 'l', 'a', 'w', '1', '9', '.', 'N', 'e', 'w', 't', 'o', 'n', 'D', 'i', 'v', 'i', 'd', 'e', 's', ' ', 'r', 'a', 'd', 'i', 'c', 'a', 'n', 'd', '/', 'r', 'a', 'd', 'i', 'c', 'a', 'n', 'd', 'l', 'a', 'w', '2', '2', '.', 'G', 'o', 'l', 'd', 'r', 'o', 'o', 't', 'R', 'o', 'o', 't', 's', ' ', 'r', 'a', 'd', 'i', 'c', 'a', 'n', 'd', '/', 'r', 'a', 'd', 'i', 'c', 'a', 'n', 'd', 'l', 'a', 'w', '2', '0', '.', 'N', 'e', 'w', 't', 'o', 'n', 'r', 'o', 'o', 't', 'G', 'u', 'e', 's', 's', 'e', 's', ' ', 'r', 'a', 'd', 'i', 'c', 'a', 'n', 'd', '/', 'r', 'a', 'd', 'i', 'c', 'a', 'n', 'd', 'l', 'a', 'w', '2', '2', '.', 'G', 'o', 'l', 'd', 'r', 'o', 'o', 't', 'P', 'a', 'i', 'r', 's', ' ', 'r', 'a', 'd', 'i', 'c', 'a', 'n', 'd', '/', 'r', 'a', 'd', 'i', 'c', 'a', 'n', 'd', 'l', 'a', 'w', '2', '2', '.', 'G', 'o', 'l', 'd', 'r', 'o', 'o', 't', 'N', 'e', 'a', 'r', ' ', 'r', 'a', 'd', 'i', 'c', 'a', 'n', 'd', '/', 'r', 'a', 'd', 'i', 'c', 'a', 'n', 'd', 'l', 'a', 'w', '1', '9', '.', 'N', 'e', 'w', 't', 'o', 'n', 'G', 'u', 'e', 's', 's', 'e', 's', ' ', 'r', 'a', 'd', 'i', 'c', 'a', 'n', 'd', '/', 'r', 'a', 'd', 'i', 'c', 'a', 'n', 'd', 'l', 'a', 'w', '2', '1', '.', 'G', 'o', 'l', 'd', 'D', 'i', 'v', 'i', 'd', 'e', 's', ' ', 'r', 'a', 'd', 'i', 'c', 'a', 'n', 'd', '/', 'r', 'a', 'd', 'i', 'c', 'a', 'n', 'd', 'l', 'a', 'w', '2', '1', '.', 'G', 'o', 'l', 'd', 'P', 'a', 'i', 'r', 's', ' ', 'r', 'a', 'd', 'i', 'c', 'a', 'n', 'd', '/', 'r', 'a', 'd', 'i', 'c', 'a', 'n', 'd', 'l', 'a', 'w', '2', '1', '.', 'G', 'o', 'l', 'd', 'N', 'e', 'a', 'r', ' ', 'r', 'a', 'd', 'i', 'c', 'a', 'n', 'd', '/', 'r', 'a', 'd', 'i', 'c', 'a', 'n', 'd', 'l', 'a', 'w', '2', '0', '.', 'N', 'e', 'w', 't', 'o', 'n', 'r', 'o', 'o', 't', 'R', 'e', 'c', 'i', 'p', 'r', 'o', 'c', 'a', 'l', 's', ' ', 'r', 'a', 'd', 'i', 'c', 'a', 'n', 'd', '/', 'r', 'a', 'd', 'i', 'c', 'a', 'n', 'd', 'l', 'a', 'w', '1', '9', '.', 'N', 'e', 'w', 't', 'o', 'n', 'R', 'e', 'c', 'i', 'p', 'r', 'o', 'c', 'a', 'l', 's']
theorem start_lit : Tryz.prog.initOrder = "harness e133dced6616b5cb926302a811610f3067c52eda8268e95b91639542f098a668 cut at radicand/radicandlaw20.NewtonrootRoots radicand/radicandlaw19.NewtonDivides radicand/radicandlaw22.GoldrootRoots radicand/radicandlaw20.NewtonrootGuesses radicand/radicandlaw22.GoldrootPairs radicand/radicandlaw22.GoldrootNear radicand/radicandlaw19.NewtonGuesses radicand/radicandlaw21.GoldDivides radicand/radicandlaw21.GoldPairs radicand/radicandlaw21.GoldNear radicand/radicandlaw20.NewtonrootReciprocals radicand/radicandlaw19.NewtonReciprocals" := by kernel_rfl
theorem lit_list : ("harness e133dced6616b5cb926302a811610f3067c52eda8268e95b91639542f098a668 cut at radicand/radicandlaw20.NewtonrootRoots radicand/radicandlaw19.NewtonDivides radicand/radicandlaw22.GoldrootRoots radicand/radicandlaw20.NewtonrootGuesses radicand/radicandlaw22.GoldrootPairs radicand/radicandlaw22.GoldrootNear radicand/radicandlaw19.NewtonGuesses radicand/radicandlaw21.GoldDivides radicand/radicandlaw21.GoldPairs radicand/radicandlaw21.GoldNear radicand/radicandlaw20.NewtonrootReciprocals radicand/radicandlaw19.NewtonReciprocals" : String) = String.ofList ['h', 'a', 'r', 'n', 'e', 's', 's', ' ', 'e', '1', '3', '3', 'd', 'c', 'e', 'd', '6', '6', '1', '6', 'b', '5', 'c', 'b', '9', '2', '6', '3', '0', '2', 'a', '8', '1', '1', '6', '1', '0', 'f', '3', '0', '6', '7', 'c', '5', '2', 'e', 'd', 'a', '8', '2', '6', '8', 'e', '9', '5', 'b', '9', '1', '6', '3', '9', '5', '4', '2', 'f', '0', '9', '8', 'a', '6', '6', '8', ' ', 'c', 'u', 't', ' ', 'a', 't', ' ', 'r', 'a', 'd', 'i', 'c', 'a', 'n', 'd', '/', 'r', 'a', 'd', 'i', 'c', 'a', 'n', 'd', 'l', 'a', 'w', '2', '0', '.', 'N', 'e', 'w', 't', 'o', 'n', 'r', 'o', 'o', 't', 'R', 'o', 'o', 't', 's', ' ', 'r', 'a', 'd', 'i', 'c', 'a', 'n', 'd', '/', 'r', 'a', 'd', 'i', 'c', 'a', 'n', 'd', 'l', 'a', 'w', '1', '9', '.', 'N', 'e', 'w', 't', 'o', 'n', 'D', 'i', 'v', 'i', 'd', 'e', 's', ' ', 'r', 'a', 'd', 'i', 'c', 'a', 'n', 'd', '/', 'r', 'a', 'd', 'i', 'c', 'a', 'n', 'd', 'l', 'a', 'w', '2', '2', '.', 'G', 'o', 'l', 'd', 'r', 'o', 'o', 't', 'R', 'o', 'o', 't', 's', ' ', 'r', 'a', 'd', 'i', 'c', 'a', 'n', 'd', '/', 'r', 'a', 'd', 'i', 'c', 'a', 'n', 'd', 'l', 'a', 'w', '2', '0', '.', 'N', 'e', 'w', 't', 'o', 'n', 'r', 'o', 'o', 't', 'G', 'u', 'e', 's', 's', 'e', 's', ' ', 'r', 'a', 'd', 'i', 'c', 'a', 'n', 'd', '/', 'r', 'a', 'd', 'i', 'c', 'a', 'n', 'd', 'l', 'a', 'w', '2', '2', '.', 'G', 'o', 'l', 'd', 'r', 'o', 'o', 't', 'P', 'a', 'i', 'r', 's', ' ', 'r', 'a', 'd', 'i', 'c', 'a', 'n', 'd', '/', 'r', 'a', 'd', 'i', 'c', 'a', 'n', 'd', 'l', 'a', 'w', '2', '2', '.', 'G', 'o', 'l', 'd', 'r', 'o', 'o', 't', 'N', 'e', 'a', 'r', ' ', 'r', 'a', 'd', 'i', 'c', 'a', 'n', 'd', '/', 'r', 'a', 'd', 'i', 'c', 'a', 'n', 'd', 'l', 'a', 'w', '1', '9', '.', 'N', 'e', 'w', 't', 'o', 'n', 'G', 'u', 'e', 's', 's', 'e', 's', ' ', 'r', 'a', 'd', 'i', 'c', 'a', 'n', 'd', '/', 'r', 'a', 'd', 'i', 'c', 'a', 'n', 'd', 'l', 'a', 'w', '2', '1', '.', 'G', 'o', 'l', 'd', 'D', 'i', 'v', 'i', 'd', 'e', 's', ' ', 'r', 'a', 'd', 'i', 'c', 'a', 'n', 'd', '/', 'r', 'a', 'd', 'i', 'c', 'a', 'n', 'd', 'l', 'a', 'w', '2', '1', '.', 'G', 'o', 'l', 'd', 'P', 'a', 'i', 'r', 's', ' ', 'r', 'a', 'd', 'i', 'c', 'a', 'n', 'd', '/', 'r', 'a', 'd', 'i', 'c', 'a', 'n', 'd', 'l', 'a', 'w', '2', '1', '.', 'G', 'o', 'l', 'd', 'N', 'e', 'a', 'r', ' ', 'r', 'a', 'd', 'i', 'c', 'a', 'n', 'd', '/', 'r', 'a', 'd', 'i', 'c', 'a', 'n', 'd', 'l', 'a', 'w', '2', '0', '.', 'N', 'e', 'w', 't', 'o', 'n', 'r', 'o', 'o', 't', 'R', 'e', 'c', 'i', 'p', 'r', 'o', 'c', 'a', 'l', 's', ' ', 'r', 'a', 'd', 'i', 'c', 'a', 'n', 'd', '/', 'r', 'a', 'd', 'i', 'c', 'a', 'n', 'd', 'l', 'a', 'w', '1', '9', '.', 'N', 'e', 'w', 't', 'o', 'n', 'R', 'e', 'c', 'i', 'p', 'r', 'o', 'c', 'a', 'l', 's'] := by kernel_rfl
theorem start_eq : Tryz.prog.initOrder = String.ofList startSigns := start_lit.trans lit_list
theorem start_signs : Tryz.prog.initOrder.toList = startSigns := by rw [start_eq, String.toList_ofList]
theorem cut_head {l : List Char} (h : (behindMainWord (wordsSigns l)).head? = some "cut".toList) : ∃ rest, behindMainWord (wordsSigns l) = "cut".toList :: rest := by
  generalize behindMainWord (wordsSigns l) = x at h
  cases x with
  | nil => simp at h
  | cons c rest => simp only [List.head?_cons, Option.some.injEq] at h; exact ⟨rest, by rw [h]⟩
theorem strip_cut (rest : List (List Char)) : stripLifts liftWords ("cut".toList :: rest) = ([], "cut".toList :: rest) := by kernel_rfl
theorem make_of {P : Program} {l : List Char} (h : P.initOrder.toList = l) (h1 : (behindMainWord (wordsSigns l)).head? = some "cut".toList) : P.make = some .cut := by
  obtain ⟨rest, hr⟩ := cut_head h1
  unfold Program.make
  rw [h, hr]
  kernel_rfl
theorem lifts_of {P : Program} {l : List Char} (h : P.initOrder.toList = l) (h1 : (behindMainWord (wordsSigns l)).head? = some "cut".toList) : P.liftsFinal = false := by
  obtain ⟨rest, hr⟩ := cut_head h1
  unfold Program.liftsFinal Program.headLifts
  rw [h, hr, strip_cut]
  kernel_rfl
theorem enter_of {P : Program} {l : List Char} (h : P.initOrder.toList = l) (h1 : (behindMainWord (wordsSigns l)).head? = some "cut".toList) (h2 : P.laysLater = false) (h3 : P.bearsReflect = false) (h4 : P.doorFits [] = true) : P.mayEnter = true := by
  obtain ⟨rest, hr⟩ := cut_head h1
  unfold Program.mayEnter
  rw [h, hr]
  show (_ || _ || _) = true
  rw [strip_cut, h2, h3, h4]
  kernel_rfl
theorem startWord : (behindMainWord (wordsSigns startSigns)).head? = some "cut".toList := by kernel_rfl
theorem mayEnter : Tryz.prog.mayEnter = true := enter_of start_signs startWord (by kernel_rfl) (by kernel_rfl) (by kernel_rfl)
theorem liftsNone : (false == Tryz.prog.liftsFinal) = true := by rw [lifts_of start_signs startWord]; rfl
theorem makeCut : (Tryz.prog.make == some .cut) = true := by rw [make_of start_signs startWord]; rfl
end Go.Proofs.YtegmmaaapdgocaaGreat
