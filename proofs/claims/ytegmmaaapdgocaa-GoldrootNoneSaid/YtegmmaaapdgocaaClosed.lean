/- WHAT EVERY ROW of this seat asks of the program as a whole, shown once. -/
import Derived.Test.YtegmmaaapdgocaaRows
import Derived.WalkKit
import Derived.ProofKit
import Derived.OpenShut
import Derived.ClosedOfChecked
namespace Go.Proofs.Ytegmmaaapdgocaa
open Go Go.RowKit
theorem hty : Try.checked.prog.types = Try.checked.src.types := by kernel_rfl
theorem hrest : (Try.checked.prog.globals.all (fun g => decide (g.type < Try.checked.prog.types.size)) && Try.checked.prog.funcs.all (fun f => f.params.all fun t => decide (t < Try.checked.prog.types.size))) = true := by kernel_rfl
theorem hkeys : ClosedOfChecked.keysListB Try.checked.prog = true := by kernel_rfl
theorem tables : laidOutB Try.checked.prog = true ∧ mapsRowed Try.checked.prog = true ∧ Try.checked.prog.plainKeys = true := ClosedOfChecked.closed_of_checked Try.checked hty hrest hkeys
theorem laidOut : laidOutB Try.prog = true := tables.1
theorem mapsRows : mapsRowed Try.prog = true := tables.2.1
theorem plainKeys : (true == Try.prog.plainKeys) = true := by have h : Try.prog.plainKeys = true := tables.2.2; rw [h]; rfl
theorem noStops : (Try.prog.stops == []) = true := by kernel_rfl
theorem noStopKnobs : (Try.prog.stopKnobs == []) = true := by kernel_rfl
theorem stopsHeard : Try.prog.stopsHeard = true := by kernel_rfl
theorem and_both {a b : Bool} (h1 : a = true) (h2 : b = true) : (a && b) = true := by rw [h1, h2]; rfl
/-- The start word's signs. -/
def startSigns : List Char := ['h', 'a', 'r', 'n', 'e', 's', 's', ' ', '9', '4', '6', '3', '4', 'b', 'f', '8', '4', '1', 'e', 'a', '6', 'a', '9', '1', '7', 'd', '2', 'c', '5', '1', 'c', '1', 'f', '9', '4', '4', 'e', '7', 'c', '6', 'b', 'a', '3', '5', '4', 'd', '6', '1', 'b', '6', '2', 'b', '2', 'b', '4', '7', 'd', '5', '2', '3', '2', '8', 'b', '9', '3', 'c', '0', 'e', '3', 'c', '3', 'e', ' ', 'c', 'u', 't', ' ', 'a', 't', ' ', 'r', 'a', 'd', 'i', 'c', 'a', 'n', 'd', '/', 'r', 'a', 'd', 'i', 'c', 'a', 'n', 'd', 'l', 'a', 'w', '2', '2', '.', 'G', 'o', 'l', 'd', 'r', 'o', 'o', 't', 'N', 'o', 'n', 'e', ' ', 'r', 'a', 'd', 'i', 'c', 'a', 'n', 'd', '/', 'r', 'a', 'd', 'i', 'c', 'a', 'n', 'd', 'l', 'a', 'w', '2', '1', '.', 'G', 'o', 'l', 'd', 'N', 'o', 'n', 'e', ' ', 'r', 'a', 'd', 'i', 'c', 'a', 'n', 'd', '/', 'r', 'a', 'd', 'i', 'c', 'a', 'n', 'd', 'l', 'a', 'w', '2', '0', '.', 'N', 'e', 'w', 't', 'o', 'n', 'r', 'o', 'o', 't', 'N', 'o', 'n', 'e', ' ', 'r', 'a', 'd', 'i', 'c', 'a', 'n', 'd', '/', 'r', 'a', 'd', 'i', 'c', 'a', 'n', 'd', 'l', 'a', 'w', '1', '9', '.', 'N', 'e', 'w', 't', 'o', 'n', 'N', 'o', 'n', 'e']
theorem start_lit : Try.prog.initOrder = "harness 94634bf841ea6a917d2c51c1f944e7c6ba354d61b62b2b47d52328b93c0e3c3e cut at radicand/radicandlaw22.GoldrootNone radicand/radicandlaw21.GoldNone radicand/radicandlaw20.NewtonrootNone radicand/radicandlaw19.NewtonNone" := by kernel_rfl
theorem lit_list : ("harness 94634bf841ea6a917d2c51c1f944e7c6ba354d61b62b2b47d52328b93c0e3c3e cut at radicand/radicandlaw22.GoldrootNone radicand/radicandlaw21.GoldNone radicand/radicandlaw20.NewtonrootNone radicand/radicandlaw19.NewtonNone" : String) = String.ofList ['h', 'a', 'r', 'n', 'e', 's', 's', ' ', '9', '4', '6', '3', '4', 'b', 'f', '8', '4', '1', 'e', 'a', '6', 'a', '9', '1', '7', 'd', '2', 'c', '5', '1', 'c', '1', 'f', '9', '4', '4', 'e', '7', 'c', '6', 'b', 'a', '3', '5', '4', 'd', '6', '1', 'b', '6', '2', 'b', '2', 'b', '4', '7', 'd', '5', '2', '3', '2', '8', 'b', '9', '3', 'c', '0', 'e', '3', 'c', '3', 'e', ' ', 'c', 'u', 't', ' ', 'a', 't', ' ', 'r', 'a', 'd', 'i', 'c', 'a', 'n', 'd', '/', 'r', 'a', 'd', 'i', 'c', 'a', 'n', 'd', 'l', 'a', 'w', '2', '2', '.', 'G', 'o', 'l', 'd', 'r', 'o', 'o', 't', 'N', 'o', 'n', 'e', ' ', 'r', 'a', 'd', 'i', 'c', 'a', 'n', 'd', '/', 'r', 'a', 'd', 'i', 'c', 'a', 'n', 'd', 'l', 'a', 'w', '2', '1', '.', 'G', 'o', 'l', 'd', 'N', 'o', 'n', 'e', ' ', 'r', 'a', 'd', 'i', 'c', 'a', 'n', 'd', '/', 'r', 'a', 'd', 'i', 'c', 'a', 'n', 'd', 'l', 'a', 'w', '2', '0', '.', 'N', 'e', 'w', 't', 'o', 'n', 'r', 'o', 'o', 't', 'N', 'o', 'n', 'e', ' ', 'r', 'a', 'd', 'i', 'c', 'a', 'n', 'd', '/', 'r', 'a', 'd', 'i', 'c', 'a', 'n', 'd', 'l', 'a', 'w', '1', '9', '.', 'N', 'e', 'w', 't', 'o', 'n', 'N', 'o', 'n', 'e'] := by kernel_rfl
theorem start_eq : Try.prog.initOrder = String.ofList startSigns := start_lit.trans lit_list
theorem start_signs : Try.prog.initOrder.toList = startSigns := by rw [start_eq, String.toList_ofList]
theorem cut_head {l : List Char} (h : (behindMainWord (wordsSigns l)).head? = some "cut".toList) : ∃ rest, behindMainWord (wordsSigns l) = "cut".toList :: rest := by
  generalize behindMainWord (wordsSigns l) = x at h
  cases x with
  | nil => simp at h
  | cons c rest => simp only [List.head?_cons, Option.some.injEq] at h; exact ⟨rest, by rw [h]⟩
theorem strip_cut (rest : List (List Char)) : stripLifts liftWords ("cut".toList :: rest) = ([], "cut".toList :: rest) := by kernel_rfl
theorem make_of {P : Program} {l : List Char} (h : P.initOrder.toList = l) (h1 : (behindMainWord (wordsSigns l)).head? = some "cut".toList) : P.make = some .cut := by
  obtain ⟨rest, hr⟩ := cut_head h1
  unfold Program.make
  rw [h, hr]
  kernel_rfl
theorem lifts_of {P : Program} {l : List Char} (h : P.initOrder.toList = l) (h1 : (behindMainWord (wordsSigns l)).head? = some "cut".toList) : P.liftsFinal = false := by
  obtain ⟨rest, hr⟩ := cut_head h1
  unfold Program.liftsFinal Program.headLifts
  rw [h, hr, strip_cut]
  kernel_rfl
theorem enter_of {P : Program} {l : List Char} (h : P.initOrder.toList = l) (h1 : (behindMainWord (wordsSigns l)).head? = some "cut".toList) (h2 : P.laysLater = false) (h3 : P.bearsReflect = false) (h4 : P.doorFits [] = true) : P.mayEnter = true := by
  obtain ⟨rest, hr⟩ := cut_head h1
  unfold Program.mayEnter
  rw [h, hr]
  show (_ || _ || _) = true
  rw [strip_cut, h2, h3, h4]
  kernel_rfl
theorem startWord : (behindMainWord (wordsSigns startSigns)).head? = some "cut".toList := by kernel_rfl
theorem mayEnter : Try.prog.mayEnter = true := enter_of start_signs startWord (by kernel_rfl) (by kernel_rfl) (by kernel_rfl)
theorem liftsNone : (false == Try.prog.liftsFinal) = true := by rw [lifts_of start_signs startWord]; rfl
theorem makeCut : (Try.prog.make == some .cut) = true := by rw [make_of start_signs startWord]; rfl
end Go.Proofs.Ytegmmaaapdgocaa
