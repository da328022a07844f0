/-
  No cell of these rows narrows 'for every input' (looked for: loops, veiled, ifaces, maps, wideKeys, modest, calm, conditions, laid).
  DERIVED. THE GIVEN ROWS OF THIS SEAT. 25 by the template 'for every input the law returns true; each argument reads behind the call as it read before'; 0 by the template 'total and deterministic' (their statements: YtenkaobgoknlhaaTotals.lean).
  GIVEN WITH THE SEED: the statements are not yours to turn. If you find one false, say at which input.
  Laid BY PROGRAM, IN A SANDBOX (cutbox-rows.mjs): the forced cells as the released guide's own fill.sh prints them over the translation 3bba351e2fefaeba… (all of the seat's roots in one cut). By AI agents, Wed Nov 11 2026. No macro, syntax, notation, axiom, sorry.
-/
import Derived.Test.YtenkaobgoknlhaaChecked
import GoSem.Claim
import GoSem.ClaimJoined
import GoSem.ClaimMapViews
import Derived.JoinedTies
import Derived.KernelRfl
namespace Go.Proofs.Ytenkaobgoknlhaa
/- THE CELL 'sum', in the pinned program and in every row, IS THE sha256 OF THE DUMP (.gsa) THAT YtenkaobgoknlhaaProg.lean LOADS. Nothing in Lean hashes anything: it is a label: what it is worth is what the hold of that sum in a sandbox is worth. -/
noncomputable def Try.pinned : Pinned := { name := "ytenkaobgoknlhaa", sum := "3bba351e2fefaeba9a4271995657dd17b40f14ad4156024edf09068149a8bf8e", checked := Try.checked }
namespace Rows
def none {H : Type} : Left H := { results := [], args := [] }

/-- 'radicandlaw02.WideOf': WHATEVER THE INPUT: true; the input reads as it did. -/
def wideOfSpec : ChangeSpec := { name := "wideOf", fn := fun _ => fun
  | [d] => { results := [.lit (.bool true)], args := [d] }
  | _ => none }
def wideOfRow : OpenClaim := { program := "ytenkaobgoknlhaa", sum := "3bba351e2fefaeba9a4271995657dd17b40f14ad4156024edf09068149a8bf8e", func := "radicand/radicandlaw02.WideOf", spec := "wideOf", inPlace := ["math/bits.Sub64"], unfollowed := true, recurses := true, apart := false }
def WideOfSaid : Prop := wideOfRow.holds Try.pinned (OpenSpec.ofChange wideOfSpec)

/-- ITS FALSE NEIGHBOUR: 'it returns false'. Refute it at one input. -/
def wideOfWrong : ChangeSpec := { name := "wideOf", fn := fun _ => fun
  | [d] => { results := [.lit (.bool false)], args := [d] }
  | _ => none }
def WideOfWrongFalsely : Prop := wideOfRow.holds Try.pinned (OpenSpec.ofChange wideOfWrong)

/-- 'radicandlaw02.WideLooks': WHATEVER THE INPUT: true; the input reads as it did. -/
def wideLooksSpec : ChangeSpec := { name := "wideLooks", fn := fun _ => fun
  | [d1, d2, d3] => { results := [.lit (.bool true)], args := [d1, d2, d3] }
  | _ => none }
def wideLooksRow : OpenClaim := { program := "ytenkaobgoknlhaa", sum := "3bba351e2fefaeba9a4271995657dd17b40f14ad4156024edf09068149a8bf8e", func := "radicand/radicandlaw02.WideLooks", spec := "wideLooks", inPlace := ["math/bits.Sub64"], unfollowed := true, recurses := true, apart := false }
def WideLooksSaid : Prop := wideLooksRow.holds Try.pinned (OpenSpec.ofChange wideLooksSpec)

/-- ITS FALSE NEIGHBOUR: 'it returns false'. Refute it at one input. -/
def wideLooksWrong : ChangeSpec := { name := "wideLooks", fn := fun _ => fun
  | [d1, d2, d3] => { results := [.lit (.bool false)], args := [d1, d2, d3] }
  | _ => none }
def WideLooksWrongFalsely : Prop := wideLooksRow.holds Try.pinned (OpenSpec.ofChange wideLooksWrong)

/-- 'radicandlaw02.WideShifts': WHATEVER THE INPUT: true; the input reads as it did. -/
def wideShiftsSpec : ChangeSpec := { name := "wideShifts", fn := fun _ => fun
  | [d1, d2] => { results := [.lit (.bool true)], args := [d1, d2] }
  | _ => none }
def wideShiftsRow : OpenClaim := { program := "ytenkaobgoknlhaa", sum := "3bba351e2fefaeba9a4271995657dd17b40f14ad4156024edf09068149a8bf8e", func := "radicand/radicandlaw02.WideShifts", spec := "wideShifts", inPlace := ["math/bits.Sub64"], unfollowed := true, recurses := true, apart := false }
def WideShiftsSaid : Prop := wideShiftsRow.holds Try.pinned (OpenSpec.ofChange wideShiftsSpec)

/-- ITS FALSE NEIGHBOUR: 'it returns false'. Refute it at one input. -/
def wideShiftsWrong : ChangeSpec := { name := "wideShifts", fn := fun _ => fun
  | [d1, d2] => { results := [.lit (.bool false)], args := [d1, d2] }
  | _ => none }
def WideShiftsWrongFalsely : Prop := wideShiftsRow.holds Try.pinned (OpenSpec.ofChange wideShiftsWrong)

/-- 'radicandlaw13.FlyConverts': WHATEVER THE INPUT: true; the input reads as it did. -/
def flyConvertsSpec : ChangeSpec := { name := "flyConverts", fn := fun _ => fun
  | [d] => { results := [.lit (.bool true)], args := [d] }
  | _ => none }
def flyConvertsRow : OpenClaim := { program := "ytenkaobgoknlhaa", sum := "3bba351e2fefaeba9a4271995657dd17b40f14ad4156024edf09068149a8bf8e", func := "radicand/radicandlaw13.FlyConverts", spec := "flyConverts", inPlace := ["math/bits.Sub64", "math/bits.Add64"], unfollowed := true, recurses := true, apart := false }
def FlyConvertsSaid : Prop := flyConvertsRow.holds Try.pinned (OpenSpec.ofChange flyConvertsSpec)

/-- ITS FALSE NEIGHBOUR: 'it returns false'. Refute it at one input. -/
def flyConvertsWrong : ChangeSpec := { name := "flyConverts", fn := fun _ => fun
  | [d] => { results := [.lit (.bool false)], args := [d] }
  | _ => none }
def FlyConvertsWrongFalsely : Prop := flyConvertsRow.holds Try.pinned (OpenSpec.ofChange flyConvertsWrong)

/-- 'radicandlaw13.FlyNext': WHATEVER THE INPUT: true; the input reads as it did. -/
def flyNextSpec : ChangeSpec := { name := "flyNext", fn := fun _ => fun
  | [d1, d2] => { results := [.lit (.bool true)], args := [d1, d2] }
  | _ => none }
def flyNextRow : OpenClaim := { program := "ytenkaobgoknlhaa", sum := "3bba351e2fefaeba9a4271995657dd17b40f14ad4156024edf09068149a8bf8e", func := "radicand/radicandlaw13.FlyNext", spec := "flyNext", inPlace := ["math/bits.Sub64", "math/bits.Add64"], unfollowed := true, recurses := true, apart := false }
def FlyNextSaid : Prop := flyNextRow.holds Try.pinned (OpenSpec.ofChange flyNextSpec)

/-- ITS FALSE NEIGHBOUR: 'it returns false'. Refute it at one input. -/
def flyNextWrong : ChangeSpec := { name := "flyNext", fn := fun _ => fun
  | [d1, d2] => { results := [.lit (.bool false)], args := [d1, d2] }
  | _ => none }
def FlyNextWrongFalsely : Prop := flyNextRow.holds Try.pinned (OpenSpec.ofChange flyNextWrong)

/-- 'radicandlaw02.WideAdds': WHATEVER THE INPUT: true; the input reads as it did. -/
def wideAddsSpec : ChangeSpec := { name := "wideAdds", fn := fun _ => fun
  | [d1, d2] => { results := [.lit (.bool true)], args := [d1, d2] }
  | _ => none }
def wideAddsRow : OpenClaim := { program := "ytenkaobgoknlhaa", sum := "3bba351e2fefaeba9a4271995657dd17b40f14ad4156024edf09068149a8bf8e", func := "radicand/radicandlaw02.WideAdds", spec := "wideAdds", inPlace := ["math/bits.Add64", "math/bits.Sub64"], unfollowed := true, recurses := true, apart := false }
def WideAddsSaid : Prop := wideAddsRow.holds Try.pinned (OpenSpec.ofChange wideAddsSpec)

/-- ITS FALSE NEIGHBOUR: 'it returns false'. Refute it at one input. -/
def wideAddsWrong : ChangeSpec := { name := "wideAdds", fn := fun _ => fun
  | [d1, d2] => { results := [.lit (.bool false)], args := [d1, d2] }
  | _ => none }
def WideAddsWrongFalsely : Prop := wideAddsRow.holds Try.pinned (OpenSpec.ofChange wideAddsWrong)

/-- 'radicandlaw13.FlyTurns': WHATEVER THE INPUT: true; the input reads as it did. -/
def flyTurnsSpec : ChangeSpec := { name := "flyTurns", fn := fun _ => fun
  | [d] => { results := [.lit (.bool true)], args := [d] }
  | _ => none }
def flyTurnsRow : OpenClaim := { program := "ytenkaobgoknlhaa", sum := "3bba351e2fefaeba9a4271995657dd17b40f14ad4156024edf09068149a8bf8e", func := "radicand/radicandlaw13.FlyTurns", spec := "flyTurns", inPlace := ["math/bits.Sub64", "math/bits.Add64"], unfollowed := true, recurses := true, apart := false }
def FlyTurnsSaid : Prop := flyTurnsRow.holds Try.pinned (OpenSpec.ofChange flyTurnsSpec)

/-- ITS FALSE NEIGHBOUR: 'it returns false'. Refute it at one input. -/
def flyTurnsWrong : ChangeSpec := { name := "flyTurns", fn := fun _ => fun
  | [d] => { results := [.lit (.bool false)], args := [d] }
  | _ => none }
def FlyTurnsWrongFalsely : Prop := flyTurnsRow.holds Try.pinned (OpenSpec.ofChange flyTurnsWrong)

/-- 'radicandlaw03.ProdHigh': WHATEVER THE INPUT: true; the input reads as it did. -/
def prodHighSpec : ChangeSpec := { name := "prodHigh", fn := fun _ => fun
  | [d1, d2, d3] => { results := [.lit (.bool true)], args := [d1, d2, d3] }
  | _ => none }
def prodHighRow : OpenClaim := { program := "ytenkaobgoknlhaa", sum := "3bba351e2fefaeba9a4271995657dd17b40f14ad4156024edf09068149a8bf8e", func := "radicand/radicandlaw03.ProdHigh", spec := "prodHigh", inPlace := ["math/bits.Add64"], unfollowed := true, recurses := true, apart := false }
def ProdHighSaid : Prop := prodHighRow.holds Try.pinned (OpenSpec.ofChange prodHighSpec)

/-- ITS FALSE NEIGHBOUR: 'it returns false'. Refute it at one input. -/
def prodHighWrong : ChangeSpec := { name := "prodHigh", fn := fun _ => fun
  | [d1, d2, d3] => { results := [.lit (.bool false)], args := [d1, d2, d3] }
  | _ => none }
def ProdHighWrongFalsely : Prop := prodHighRow.holds Try.pinned (OpenSpec.ofChange prodHighWrong)

/-- 'radicandlaw03.ProdMuls': WHATEVER THE INPUT: true; the input reads as it did. -/
def prodMulsSpec : ChangeSpec := { name := "prodMuls", fn := fun _ => fun
  | [d1, d2, d3] => { results := [.lit (.bool true)], args := [d1, d2, d3] }
  | _ => none }
def prodMulsRow : OpenClaim := { program := "ytenkaobgoknlhaa", sum := "3bba351e2fefaeba9a4271995657dd17b40f14ad4156024edf09068149a8bf8e", func := "radicand/radicandlaw03.ProdMuls", spec := "prodMuls", inPlace := ["math/bits.Add64"], unfollowed := true, recurses := true, apart := false }
def ProdMulsSaid : Prop := prodMulsRow.holds Try.pinned (OpenSpec.ofChange prodMulsSpec)

/-- ITS FALSE NEIGHBOUR: 'it returns false'. Refute it at one input. -/
def prodMulsWrong : ChangeSpec := { name := "prodMuls", fn := fun _ => fun
  | [d1, d2, d3] => { results := [.lit (.bool false)], args := [d1, d2, d3] }
  | _ => none }
def ProdMulsWrongFalsely : Prop := prodMulsRow.holds Try.pinned (OpenSpec.ofChange prodMulsWrong)

/-- 'radicandlaw03.ProdParts': WHATEVER THE INPUT: true; the input reads as it did. -/
def prodPartsSpec : ChangeSpec := { name := "prodParts", fn := fun _ => fun
  | [d1, d2, d3] => { results := [.lit (.bool true)], args := [d1, d2, d3] }
  | _ => none }
def prodPartsRow : OpenClaim := { program := "ytenkaobgoknlhaa", sum := "3bba351e2fefaeba9a4271995657dd17b40f14ad4156024edf09068149a8bf8e", func := "radicand/radicandlaw03.ProdParts", spec := "prodParts", inPlace := ["math/bits.Add64"], unfollowed := true, recurses := true, apart := false }
def ProdPartsSaid : Prop := prodPartsRow.holds Try.pinned (OpenSpec.ofChange prodPartsSpec)

/-- ITS FALSE NEIGHBOUR: 'it returns false'. Refute it at one input. -/
def prodPartsWrong : ChangeSpec := { name := "prodParts", fn := fun _ => fun
  | [d1, d2, d3] => { results := [.lit (.bool false)], args := [d1, d2, d3] }
  | _ => none }
def ProdPartsWrongFalsely : Prop := prodPartsRow.holds Try.pinned (OpenSpec.ofChange prodPartsWrong)

/-- 'radicandlaw02.WideRules': WHATEVER THE INPUT: true; the input reads as it did. -/
def wideRulesSpec : ChangeSpec := { name := "wideRules", fn := fun _ => fun
  | [d1, d2, d3] => { results := [.lit (.bool true)], args := [d1, d2, d3] }
  | _ => none }
def wideRulesRow : OpenClaim := { program := "ytenkaobgoknlhaa", sum := "3bba351e2fefaeba9a4271995657dd17b40f14ad4156024edf09068149a8bf8e", func := "radicand/radicandlaw02.WideRules", spec := "wideRules", inPlace := ["math/bits.Add64", "math/bits.Sub64"], unfollowed := true, recurses := true, apart := false }
def WideRulesSaid : Prop := wideRulesRow.holds Try.pinned (OpenSpec.ofChange wideRulesSpec)

/-- ITS FALSE NEIGHBOUR: 'it returns false'. Refute it at one input. -/
def wideRulesWrong : ChangeSpec := { name := "wideRules", fn := fun _ => fun
  | [d1, d2, d3] => { results := [.lit (.bool false)], args := [d1, d2, d3] }
  | _ => none }
def WideRulesWrongFalsely : Prop := wideRulesRow.holds Try.pinned (OpenSpec.ofChange wideRulesWrong)

/-- 'radicandlaw11.Radix2Divides': WHATEVER THE INPUT: true; the input reads as it did. -/
def radix2DividesSpec : ChangeSpec := { name := "radix2Divides", fn := fun _ => fun
  | [d1, d2] => { results := [.lit (.bool true)], args := [d1, d2] }
  | _ => none }
def radix2DividesRow : OpenClaim := { program := "ytenkaobgoknlhaa", sum := "3bba351e2fefaeba9a4271995657dd17b40f14ad4156024edf09068149a8bf8e", func := "radicand/radicandlaw11.Radix2Divides", spec := "radix2Divides", inPlace := ["math/bits.Add64", "math/bits.Sub64"], unfollowed := true, recurses := true, apart := false }
def Radix2DividesSaid : Prop := radix2DividesRow.holds Try.pinned (OpenSpec.ofChange radix2DividesSpec)

/-- ITS FALSE NEIGHBOUR: 'it returns false'. Refute it at one input. -/
def radix2DividesWrong : ChangeSpec := { name := "radix2Divides", fn := fun _ => fun
  | [d1, d2] => { results := [.lit (.bool false)], args := [d1, d2] }
  | _ => none }
def Radix2DividesWrongFalsely : Prop := radix2DividesRow.holds Try.pinned (OpenSpec.ofChange radix2DividesWrong)

/-- 'radicandlaw11.Radix2Back': WHATEVER THE INPUT: true; the input reads as it did. -/
def radix2BackSpec : ChangeSpec := { name := "radix2Back", fn := fun _ => fun
  | [d1, d2, d3] => { results := [.lit (.bool true)], args := [d1, d2, d3] }
  | _ => none }
def radix2BackRow : OpenClaim := { program := "ytenkaobgoknlhaa", sum := "3bba351e2fefaeba9a4271995657dd17b40f14ad4156024edf09068149a8bf8e", func := "radicand/radicandlaw11.Radix2Back", spec := "radix2Back", inPlace := ["math/bits.Add64", "math/bits.Sub64"], unfollowed := true, recurses := true, apart := false }
def Radix2BackSaid : Prop := radix2BackRow.holds Try.pinned (OpenSpec.ofChange radix2BackSpec)

/-- ITS FALSE NEIGHBOUR: 'it returns false'. Refute it at one input. -/
def radix2BackWrong : ChangeSpec := { name := "radix2Back", fn := fun _ => fun
  | [d1, d2, d3] => { results := [.lit (.bool false)], args := [d1, d2, d3] }
  | _ => none }
def Radix2BackWrongFalsely : Prop := radix2BackRow.holds Try.pinned (OpenSpec.ofChange radix2BackWrong)

/-- 'radicandlaw08.ModeRests': WHATEVER THE INPUT: true; the input reads as it did. -/
def modeRestsSpec : ChangeSpec := { name := "modeRests", fn := fun _ => fun
  | [d1, d2, d3] => { results := [.lit (.bool true)], args := [d1, d2, d3] }
  | _ => none }
def modeRestsRow : OpenClaim := { program := "ytenkaobgoknlhaa", sum := "3bba351e2fefaeba9a4271995657dd17b40f14ad4156024edf09068149a8bf8e", func := "radicand/radicandlaw08.ModeRests", spec := "modeRests", inPlace := ["math/bits.Sub64", "math/bits.Add64"], unfollowed := true, recurses := true, apart := false }
def ModeRestsSaid : Prop := modeRestsRow.holds Try.pinned (OpenSpec.ofChange modeRestsSpec)

/-- ITS FALSE NEIGHBOUR: 'it returns false'. Refute it at one input. -/
def modeRestsWrong : ChangeSpec := { name := "modeRests", fn := fun _ => fun
  | [d1, d2, d3] => { results := [.lit (.bool false)], args := [d1, d2, d3] }
  | _ => none }
def ModeRestsWrongFalsely : Prop := modeRestsRow.holds Try.pinned (OpenSpec.ofChange modeRestsWrong)

/-- 'radicandlaw08.ModeCuts': WHATEVER THE INPUT: true; the input reads as it did. -/
def modeCutsSpec : ChangeSpec := { name := "modeCuts", fn := fun _ => fun
  | [d1, d2, d3] => { results := [.lit (.bool true)], args := [d1, d2, d3] }
  | _ => none }
def modeCutsRow : OpenClaim := { program := "ytenkaobgoknlhaa", sum := "3bba351e2fefaeba9a4271995657dd17b40f14ad4156024edf09068149a8bf8e", func := "radicand/radicandlaw08.ModeCuts", spec := "modeCuts", inPlace := ["math/bits.Sub64", "math/bits.Add64"], unfollowed := true, recurses := true, apart := false }
def ModeCutsSaid : Prop := modeCutsRow.holds Try.pinned (OpenSpec.ofChange modeCutsSpec)

/-- ITS FALSE NEIGHBOUR: 'it returns false'. Refute it at one input. -/
def modeCutsWrong : ChangeSpec := { name := "modeCuts", fn := fun _ => fun
  | [d1, d2, d3] => { results := [.lit (.bool false)], args := [d1, d2, d3] }
  | _ => none }
def ModeCutsWrongFalsely : Prop := modeCutsRow.holds Try.pinned (OpenSpec.ofChange modeCutsWrong)

/-- 'radicandlaw11.Radix2Fractions': WHATEVER THE INPUT: true; the input reads as it did. -/
def radix2FractionsSpec : ChangeSpec := { name := "radix2Fractions", fn := fun _ => fun
  | [d1, d2, d3] => { results := [.lit (.bool true)], args := [d1, d2, d3] }
  | _ => none }
def radix2FractionsRow : OpenClaim := { program := "ytenkaobgoknlhaa", sum := "3bba351e2fefaeba9a4271995657dd17b40f14ad4156024edf09068149a8bf8e", func := "radicand/radicandlaw11.Radix2Fractions", spec := "radix2Fractions", inPlace := ["math/bits.Add64", "math/bits.Sub64"], unfollowed := true, recurses := true, apart := false }
def Radix2FractionsSaid : Prop := radix2FractionsRow.holds Try.pinned (OpenSpec.ofChange radix2FractionsSpec)

/-- ITS FALSE NEIGHBOUR: 'it returns false'. Refute it at one input. -/
def radix2FractionsWrong : ChangeSpec := { name := "radix2Fractions", fn := fun _ => fun
  | [d1, d2, d3] => { results := [.lit (.bool false)], args := [d1, d2, d3] }
  | _ => none }
def Radix2FractionsWrongFalsely : Prop := radix2FractionsRow.holds Try.pinned (OpenSpec.ofChange radix2FractionsWrong)

/-- 'radicandlaw11.Radix2Digits': WHATEVER THE INPUT: true; the input reads as it did. -/
def radix2DigitsSpec : ChangeSpec := { name := "radix2Digits", fn := fun _ => fun
  | [d1, d2] => { results := [.lit (.bool true)], args := [d1, d2] }
  | _ => none }
def radix2DigitsRow : OpenClaim := { program := "ytenkaobgoknlhaa", sum := "3bba351e2fefaeba9a4271995657dd17b40f14ad4156024edf09068149a8bf8e", func := "radicand/radicandlaw11.Radix2Digits", spec := "radix2Digits", inPlace := ["math/bits.Sub64", "math/bits.Add64"], unfollowed := true, recurses := true, apart := false }
def Radix2DigitsSaid : Prop := radix2DigitsRow.holds Try.pinned (OpenSpec.ofChange radix2DigitsSpec)

/-- ITS FALSE NEIGHBOUR: 'it returns false'. Refute it at one input. -/
def radix2DigitsWrong : ChangeSpec := { name := "radix2Digits", fn := fun _ => fun
  | [d1, d2] => { results := [.lit (.bool false)], args := [d1, d2] }
  | _ => none }
def Radix2DigitsWrongFalsely : Prop := radix2DigitsRow.holds Try.pinned (OpenSpec.ofChange radix2DigitsWrong)

/-- 'radicandlaw08.ModeRules': WHATEVER THE INPUT: true; the input reads as it did. -/
def modeRulesSpec : ChangeSpec := { name := "modeRules", fn := fun _ => fun
  | [d1, d2, d3] => { results := [.lit (.bool true)], args := [d1, d2, d3] }
  | _ => none }
def modeRulesRow : OpenClaim := { program := "ytenkaobgoknlhaa", sum := "3bba351e2fefaeba9a4271995657dd17b40f14ad4156024edf09068149a8bf8e", func := "radicand/radicandlaw08.ModeRules", spec := "modeRules", inPlace := ["math/bits.Sub64", "math/bits.Add64"], unfollowed := true, recurses := true, apart := false }
def ModeRulesSaid : Prop := modeRulesRow.holds Try.pinned (OpenSpec.ofChange modeRulesSpec)

/-- ITS FALSE NEIGHBOUR: 'it returns false'. Refute it at one input. -/
def modeRulesWrong : ChangeSpec := { name := "modeRules", fn := fun _ => fun
  | [d1, d2, d3] => { results := [.lit (.bool false)], args := [d1, d2, d3] }
  | _ => none }
def ModeRulesWrongFalsely : Prop := modeRulesRow.holds Try.pinned (OpenSpec.ofChange modeRulesWrong)

/-- 'radicandlaw11.Radix2Steps': WHATEVER THE INPUT: true; the input reads as it did. -/
def radix2StepsSpec : ChangeSpec := { name := "radix2Steps", fn := fun _ => fun
  | [d1, d2, d3] => { results := [.lit (.bool true)], args := [d1, d2, d3] }
  | _ => none }
def radix2StepsRow : OpenClaim := { program := "ytenkaobgoknlhaa", sum := "3bba351e2fefaeba9a4271995657dd17b40f14ad4156024edf09068149a8bf8e", func := "radicand/radicandlaw11.Radix2Steps", spec := "radix2Steps", inPlace := ["math/bits.Sub64", "math/bits.Add64"], unfollowed := true, recurses := true, apart := false }
def Radix2StepsSaid : Prop := radix2StepsRow.holds Try.pinned (OpenSpec.ofChange radix2StepsSpec)

/-- ITS FALSE NEIGHBOUR: 'it returns false'. Refute it at one input. -/
def radix2StepsWrong : ChangeSpec := { name := "radix2Steps", fn := fun _ => fun
  | [d1, d2, d3] => { results := [.lit (.bool false)], args := [d1, d2, d3] }
  | _ => none }
def Radix2StepsWrongFalsely : Prop := radix2StepsRow.holds Try.pinned (OpenSpec.ofChange radix2StepsWrong)

/-- 'radicandlaw03.ProdSums': WHATEVER THE INPUT: true; the input reads as it did. -/
def prodSumsSpec : ChangeSpec := { name := "prodSums", fn := fun _ => fun
  | [d1, d2, d3] => { results := [.lit (.bool true)], args := [d1, d2, d3] }
  | _ => none }
def prodSumsRow : OpenClaim := { program := "ytenkaobgoknlhaa", sum := "3bba351e2fefaeba9a4271995657dd17b40f14ad4156024edf09068149a8bf8e", func := "radicand/radicandlaw03.ProdSums", spec := "prodSums", inPlace := ["math/bits.Add64"], unfollowed := true, recurses := true, apart := false }
def ProdSumsSaid : Prop := prodSumsRow.holds Try.pinned (OpenSpec.ofChange prodSumsSpec)

/-- ITS FALSE NEIGHBOUR: 'it returns false'. Refute it at one input. -/
def prodSumsWrong : ChangeSpec := { name := "prodSums", fn := fun _ => fun
  | [d1, d2, d3] => { results := [.lit (.bool false)], args := [d1, d2, d3] }
  | _ => none }
def ProdSumsWrongFalsely : Prop := prodSumsRow.holds Try.pinned (OpenSpec.ofChange prodSumsWrong)

/-- 'radicandlaw12.Root2Cubes': WHATEVER THE INPUT: true; the input reads as it did. -/
def root2CubesSpec : ChangeSpec := { name := "root2Cubes", fn := fun _ => fun
  | [d] => { results := [.lit (.bool true)], args := [d] }
  | _ => none }
def root2CubesRow : OpenClaim := { program := "ytenkaobgoknlhaa", sum := "3bba351e2fefaeba9a4271995657dd17b40f14ad4156024edf09068149a8bf8e", func := "radicand/radicandlaw12.Root2Cubes", spec := "root2Cubes", inPlace := ["math/bits.Add64", "math/bits.Sub64"], unfollowed := true, recurses := true, apart := false }
def Root2CubesSaid : Prop := root2CubesRow.holds Try.pinned (OpenSpec.ofChange root2CubesSpec)

/-- ITS FALSE NEIGHBOUR: 'it returns false'. Refute it at one input. -/
def root2CubesWrong : ChangeSpec := { name := "root2Cubes", fn := fun _ => fun
  | [d] => { results := [.lit (.bool false)], args := [d] }
  | _ => none }
def Root2CubesWrongFalsely : Prop := root2CubesRow.holds Try.pinned (OpenSpec.ofChange root2CubesWrong)

/-- 'radicandlaw12.Root2Roots': WHATEVER THE INPUT: true; the input reads as it did. -/
def root2RootsSpec : ChangeSpec := { name := "root2Roots", fn := fun _ => fun
  | [d] => { results := [.lit (.bool true)], args := [d] }
  | _ => none }
def root2RootsRow : OpenClaim := { program := "ytenkaobgoknlhaa", sum := "3bba351e2fefaeba9a4271995657dd17b40f14ad4156024edf09068149a8bf8e", func := "radicand/radicandlaw12.Root2Roots", spec := "root2Roots", inPlace := ["math/bits.Add64", "math/bits.Sub64"], unfollowed := true, recurses := true, apart := false }
def Root2RootsSaid : Prop := root2RootsRow.holds Try.pinned (OpenSpec.ofChange root2RootsSpec)

/-- ITS FALSE NEIGHBOUR: 'it returns false'. Refute it at one input. -/
def root2RootsWrong : ChangeSpec := { name := "root2Roots", fn := fun _ => fun
  | [d] => { results := [.lit (.bool false)], args := [d] }
  | _ => none }
def Root2RootsWrongFalsely : Prop := root2RootsRow.holds Try.pinned (OpenSpec.ofChange root2RootsWrong)

/-- 'radicandlaw12.Root2Squares': WHATEVER THE INPUT: true; the input reads as it did. -/
def root2SquaresSpec : ChangeSpec := { name := "root2Squares", fn := fun _ => fun
  | [d1, d2] => { results := [.lit (.bool true)], args := [d1, d2] }
  | _ => none }
def root2SquaresRow : OpenClaim := { program := "ytenkaobgoknlhaa", sum := "3bba351e2fefaeba9a4271995657dd17b40f14ad4156024edf09068149a8bf8e", func := "radicand/radicandlaw12.Root2Squares", spec := "root2Squares", inPlace := ["math/bits.Add64", "math/bits.Sub64"], unfollowed := true, recurses := true, apart := false }
def Root2SquaresSaid : Prop := root2SquaresRow.holds Try.pinned (OpenSpec.ofChange root2SquaresSpec)

/-- ITS FALSE NEIGHBOUR: 'it returns false'. Refute it at one input. -/
def root2SquaresWrong : ChangeSpec := { name := "root2Squares", fn := fun _ => fun
  | [d1, d2] => { results := [.lit (.bool false)], args := [d1, d2] }
  | _ => none }
def Root2SquaresWrongFalsely : Prop := root2SquaresRow.holds Try.pinned (OpenSpec.ofChange root2SquaresWrong)

/-- 'radicandlaw12.Root2Rounds': WHATEVER THE INPUT: true; the input reads as it did. -/
def root2RoundsSpec : ChangeSpec := { name := "root2Rounds", fn := fun _ => fun
  | [d] => { results := [.lit (.bool true)], args := [d] }
  | _ => none }
def root2RoundsRow : OpenClaim := { program := "ytenkaobgoknlhaa", sum := "3bba351e2fefaeba9a4271995657dd17b40f14ad4156024edf09068149a8bf8e", func := "radicand/radicandlaw12.Root2Rounds", spec := "root2Rounds", inPlace := ["math/bits.Add64", "math/bits.Sub64"], unfollowed := true, recurses := true, apart := false }
def Root2RoundsSaid : Prop := root2RoundsRow.holds Try.pinned (OpenSpec.ofChange root2RoundsSpec)

/-- ITS FALSE NEIGHBOUR: 'it returns false'. Refute it at one input. -/
def root2RoundsWrong : ChangeSpec := { name := "root2Rounds", fn := fun _ => fun
  | [d] => { results := [.lit (.bool false)], args := [d] }
  | _ => none }
def Root2RoundsWrongFalsely : Prop := root2RoundsRow.holds Try.pinned (OpenSpec.ofChange root2RoundsWrong)

/-- 'radicandlaw12.Root2Digits': WHATEVER THE INPUT: true; the input reads as it did. -/
def root2DigitsSpec : ChangeSpec := { name := "root2Digits", fn := fun _ => fun
  | [d] => { results := [.lit (.bool true)], args := [d] }
  | _ => none }
def root2DigitsRow : OpenClaim := { program := "ytenkaobgoknlhaa", sum := "3bba351e2fefaeba9a4271995657dd17b40f14ad4156024edf09068149a8bf8e", func := "radicand/radicandlaw12.Root2Digits", spec := "root2Digits", inPlace := ["math/bits.Add64", "math/bits.Sub64"], unfollowed := true, recurses := true, apart := false }
def Root2DigitsSaid : Prop := root2DigitsRow.holds Try.pinned (OpenSpec.ofChange root2DigitsSpec)

/-- ITS FALSE NEIGHBOUR: 'it returns false'. Refute it at one input. -/
def root2DigitsWrong : ChangeSpec := { name := "root2Digits", fn := fun _ => fun
  | [d] => { results := [.lit (.bool false)], args := [d] }
  | _ => none }
def Root2DigitsWrongFalsely : Prop := root2DigitsRow.holds Try.pinned (OpenSpec.ofChange root2DigitsWrong)

/- THE SECOND FORM. 'bulk': how many values and letters a reading holds, each counted each time it is reached (what is shared counts as often as it is met; a slice's spare places count too). A statement '..UptoSaid' is the law's where the arguments, and the package variables that the reading takes, are together of bulk at most 1048576: NARROWER than '..Said'. Prove '..Said' where nothing that the law and all that it calls make is longer than what came in: it says more and counts as full. Else prove '..UptoSaid'. A law counts once. -/
mutual
def uptoBulk {H : Type} : DataW H → Nat
  | .lit (.string bytes) => bytes.length + 1
  | .lit _ => 1
  | .nil => 1
  | .ptr d => uptoBulk d + 1
  | .slice elems spare => uptoBulkAll elems + uptoBulkAll spare + 1
  | .agg parts => uptoBulkAll parts + 1
  | .iface _ d => uptoBulk d + 1
  | .map entries => uptoBulkEntries entries + 1
  | .held _ => 1
def uptoBulkAll {H : Type} : List (DataW H) → Nat
  | [] => 0
  | d :: r => uptoBulk d + uptoBulkAll r
def uptoBulkEntries {H : Type} : List (Lit × DataW H) → Nat
  | [] => 0
  | x :: r => uptoBulkEntry x + uptoBulkEntries r
def uptoBulkEntry {H : Type} : Lit × DataW H → Nat
  | (.string bytes, d) => bytes.length + uptoBulk d + 1
  | (_, d) => uptoBulk d + 1
 end
def uptoSmall : (H : Type) → List (DataW H) → Bool := fun _ ds => decide (uptoBulkAll ds ≤ 1048576)
def OpenSpec.upto (s : _root_.Go.ChangeSpec) : _root_.Go.OpenSpec := { _root_.Go.OpenSpec.ofChange s with cond := some uptoSmall }

/-- 'radicandlaw02.WideOf', WHERE WHAT IT READS IS OF BULK AT MOST 1048576: true; the input reads as it did. -/
def wideOfUptoRow : OpenClaim := { program := "ytenkaobgoknlhaa", sum := "3bba351e2fefaeba9a4271995657dd17b40f14ad4156024edf09068149a8bf8e", func := "radicand/radicandlaw02.WideOf", spec := "wideOf", inPlace := ["math/bits.Sub64"], unfollowed := true, recurses := true, apart := false, narrowed := true }
def WideOfUptoSaid : Prop := wideOfUptoRow.holds Try.pinned (OpenSpec.upto wideOfSpec)

/-- 'radicandlaw02.WideLooks', WHERE WHAT IT READS IS OF BULK AT MOST 1048576: true; the input reads as it did. -/
def wideLooksUptoRow : OpenClaim := { program := "ytenkaobgoknlhaa", sum := "3bba351e2fefaeba9a4271995657dd17b40f14ad4156024edf09068149a8bf8e", func := "radicand/radicandlaw02.WideLooks", spec := "wideLooks", inPlace := ["math/bits.Sub64"], unfollowed := true, recurses := true, apart := false, narrowed := true }
def WideLooksUptoSaid : Prop := wideLooksUptoRow.holds Try.pinned (OpenSpec.upto wideLooksSpec)

/-- 'radicandlaw02.WideShifts', WHERE WHAT IT READS IS OF BULK AT MOST 1048576: true; the input reads as it did. -/
def wideShiftsUptoRow : OpenClaim := { program := "ytenkaobgoknlhaa", sum := "3bba351e2fefaeba9a4271995657dd17b40f14ad4156024edf09068149a8bf8e", func := "radicand/radicandlaw02.WideShifts", spec := "wideShifts", inPlace := ["math/bits.Sub64"], unfollowed := true, recurses := true, apart := false, narrowed := true }
def WideShiftsUptoSaid : Prop := wideShiftsUptoRow.holds Try.pinned (OpenSpec.upto wideShiftsSpec)

/-- 'radicandlaw13.FlyConverts', WHERE WHAT IT READS IS OF BULK AT MOST 1048576: true; the input reads as it did. -/
def flyConvertsUptoRow : OpenClaim := { program := "ytenkaobgoknlhaa", sum := "3bba351e2fefaeba9a4271995657dd17b40f14ad4156024edf09068149a8bf8e", func := "radicand/radicandlaw13.FlyConverts", spec := "flyConverts", inPlace := ["math/bits.Sub64", "math/bits.Add64"], unfollowed := true, recurses := true, apart := false, narrowed := true }
def FlyConvertsUptoSaid : Prop := flyConvertsUptoRow.holds Try.pinned (OpenSpec.upto flyConvertsSpec)

/-- 'radicandlaw13.FlyNext', WHERE WHAT IT READS IS OF BULK AT MOST 1048576: true; the input reads as it did. -/
def flyNextUptoRow : OpenClaim := { program := "ytenkaobgoknlhaa", sum := "3bba351e2fefaeba9a4271995657dd17b40f14ad4156024edf09068149a8bf8e", func := "radicand/radicandlaw13.FlyNext", spec := "flyNext", inPlace := ["math/bits.Sub64", "math/bits.Add64"], unfollowed := true, recurses := true, apart := false, narrowed := true }
def FlyNextUptoSaid : Prop := flyNextUptoRow.holds Try.pinned (OpenSpec.upto flyNextSpec)

/-- 'radicandlaw02.WideAdds', WHERE WHAT IT READS IS OF BULK AT MOST 1048576: true; the input reads as it did. -/
def wideAddsUptoRow : OpenClaim := { program := "ytenkaobgoknlhaa", sum := "3bba351e2fefaeba9a4271995657dd17b40f14ad4156024edf09068149a8bf8e", func := "radicand/radicandlaw02.WideAdds", spec := "wideAdds", inPlace := ["math/bits.Add64", "math/bits.Sub64"], unfollowed := true, recurses := true, apart := false, narrowed := true }
def WideAddsUptoSaid : Prop := wideAddsUptoRow.holds Try.pinned (OpenSpec.upto wideAddsSpec)

/-- 'radicandlaw13.FlyTurns', WHERE WHAT IT READS IS OF BULK AT MOST 1048576: true; the input reads as it did. -/
def flyTurnsUptoRow : OpenClaim := { program := "ytenkaobgoknlhaa", sum := "3bba351e2fefaeba9a4271995657dd17b40f14ad4156024edf09068149a8bf8e", func := "radicand/radicandlaw13.FlyTurns", spec := "flyTurns", inPlace := ["math/bits.Sub64", "math/bits.Add64"], unfollowed := true, recurses := true, apart := false, narrowed := true }
def FlyTurnsUptoSaid : Prop := flyTurnsUptoRow.holds Try.pinned (OpenSpec.upto flyTurnsSpec)

/-- 'radicandlaw03.ProdHigh', WHERE WHAT IT READS IS OF BULK AT MOST 1048576: true; the input reads as it did. -/
def prodHighUptoRow : OpenClaim := { program := "ytenkaobgoknlhaa", sum := "3bba351e2fefaeba9a4271995657dd17b40f14ad4156024edf09068149a8bf8e", func := "radicand/radicandlaw03.ProdHigh", spec := "prodHigh", inPlace := ["math/bits.Add64"], unfollowed := true, recurses := true, apart := false, narrowed := true }
def ProdHighUptoSaid : Prop := prodHighUptoRow.holds Try.pinned (OpenSpec.upto prodHighSpec)

/-- 'radicandlaw03.ProdMuls', WHERE WHAT IT READS IS OF BULK AT MOST 1048576: true; the input reads as it did. -/
def prodMulsUptoRow : OpenClaim := { program := "ytenkaobgoknlhaa", sum := "3bba351e2fefaeba9a4271995657dd17b40f14ad4156024edf09068149a8bf8e", func := "radicand/radicandlaw03.ProdMuls", spec := "prodMuls", inPlace := ["math/bits.Add64"], unfollowed := true, recurses := true, apart := false, narrowed := true }
def ProdMulsUptoSaid : Prop := prodMulsUptoRow.holds Try.pinned (OpenSpec.upto prodMulsSpec)

/-- 'radicandlaw03.ProdParts', WHERE WHAT IT READS IS OF BULK AT MOST 1048576: true; the input reads as it did. -/
def prodPartsUptoRow : OpenClaim := { program := "ytenkaobgoknlhaa", sum := "3bba351e2fefaeba9a4271995657dd17b40f14ad4156024edf09068149a8bf8e", func := "radicand/radicandlaw03.ProdParts", spec := "prodParts", inPlace := ["math/bits.Add64"], unfollowed := true, recurses := true, apart := false, narrowed := true }
def ProdPartsUptoSaid : Prop := prodPartsUptoRow.holds Try.pinned (OpenSpec.upto prodPartsSpec)

/-- 'radicandlaw02.WideRules', WHERE WHAT IT READS IS OF BULK AT MOST 1048576: true; the input reads as it did. -/
def wideRulesUptoRow : OpenClaim := { program := "ytenkaobgoknlhaa", sum := "3bba351e2fefaeba9a4271995657dd17b40f14ad4156024edf09068149a8bf8e", func := "radicand/radicandlaw02.WideRules", spec := "wideRules", inPlace := ["math/bits.Add64", "math/bits.Sub64"], unfollowed := true, recurses := true, apart := false, narrowed := true }
def WideRulesUptoSaid : Prop := wideRulesUptoRow.holds Try.pinned (OpenSpec.upto wideRulesSpec)

/-- 'radicandlaw11.Radix2Divides', WHERE WHAT IT READS IS OF BULK AT MOST 1048576: true; the input reads as it did. -/
def radix2DividesUptoRow : OpenClaim := { program := "ytenkaobgoknlhaa", sum := "3bba351e2fefaeba9a4271995657dd17b40f14ad4156024edf09068149a8bf8e", func := "radicand/radicandlaw11.Radix2Divides", spec := "radix2Divides", inPlace := ["math/bits.Add64", "math/bits.Sub64"], unfollowed := true, recurses := true, apart := false, narrowed := true }
def Radix2DividesUptoSaid : Prop := radix2DividesUptoRow.holds Try.pinned (OpenSpec.upto radix2DividesSpec)

/-- 'radicandlaw11.Radix2Back', WHERE WHAT IT READS IS OF BULK AT MOST 1048576: true; the input reads as it did. -/
def radix2BackUptoRow : OpenClaim := { program := "ytenkaobgoknlhaa", sum := "3bba351e2fefaeba9a4271995657dd17b40f14ad4156024edf09068149a8bf8e", func := "radicand/radicandlaw11.Radix2Back", spec := "radix2Back", inPlace := ["math/bits.Add64", "math/bits.Sub64"], unfollowed := true, recurses := true, apart := false, narrowed := true }
def Radix2BackUptoSaid : Prop := radix2BackUptoRow.holds Try.pinned (OpenSpec.upto radix2BackSpec)

/-- 'radicandlaw08.ModeRests', WHERE WHAT IT READS IS OF BULK AT MOST 1048576: true; the input reads as it did. -/
def modeRestsUptoRow : OpenClaim := { program := "ytenkaobgoknlhaa", sum := "3bba351e2fefaeba9a4271995657dd17b40f14ad4156024edf09068149a8bf8e", func := "radicand/radicandlaw08.ModeRests", spec := "modeRests", inPlace := ["math/bits.Sub64", "math/bits.Add64"], unfollowed := true, recurses := true, apart := false, narrowed := true }
def ModeRestsUptoSaid : Prop := modeRestsUptoRow.holds Try.pinned (OpenSpec.upto modeRestsSpec)

/-- 'radicandlaw08.ModeCuts', WHERE WHAT IT READS IS OF BULK AT MOST 1048576: true; the input reads as it did. -/
def modeCutsUptoRow : OpenClaim := { program := "ytenkaobgoknlhaa", sum := "3bba351e2fefaeba9a4271995657dd17b40f14ad4156024edf09068149a8bf8e", func := "radicand/radicandlaw08.ModeCuts", spec := "modeCuts", inPlace := ["math/bits.Sub64", "math/bits.Add64"], unfollowed := true, recurses := true, apart := false, narrowed := true }
def ModeCutsUptoSaid : Prop := modeCutsUptoRow.holds Try.pinned (OpenSpec.upto modeCutsSpec)

/-- 'radicandlaw11.Radix2Fractions', WHERE WHAT IT READS IS OF BULK AT MOST 1048576: true; the input reads as it did. -/
def radix2FractionsUptoRow : OpenClaim := { program := "ytenkaobgoknlhaa", sum := "3bba351e2fefaeba9a4271995657dd17b40f14ad4156024edf09068149a8bf8e", func := "radicand/radicandlaw11.Radix2Fractions", spec := "radix2Fractions", inPlace := ["math/bits.Add64", "math/bits.Sub64"], unfollowed := true, recurses := true, apart := false, narrowed := true }
def Radix2FractionsUptoSaid : Prop := radix2FractionsUptoRow.holds Try.pinned (OpenSpec.upto radix2FractionsSpec)

/-- 'radicandlaw11.Radix2Digits', WHERE WHAT IT READS IS OF BULK AT MOST 1048576: true; the input reads as it did. -/
def radix2DigitsUptoRow : OpenClaim := { program := "ytenkaobgoknlhaa", sum := "3bba351e2fefaeba9a4271995657dd17b40f14ad4156024edf09068149a8bf8e", func := "radicand/radicandlaw11.Radix2Digits", spec := "radix2Digits", inPlace := ["math/bits.Sub64", "math/bits.Add64"], unfollowed := true, recurses := true, apart := false, narrowed := true }
def Radix2DigitsUptoSaid : Prop := radix2DigitsUptoRow.holds Try.pinned (OpenSpec.upto radix2DigitsSpec)

/-- 'radicandlaw08.ModeRules', WHERE WHAT IT READS IS OF BULK AT MOST 1048576: true; the input reads as it did. -/
def modeRulesUptoRow : OpenClaim := { program := "ytenkaobgoknlhaa", sum := "3bba351e2fefaeba9a4271995657dd17b40f14ad4156024edf09068149a8bf8e", func := "radicand/radicandlaw08.ModeRules", spec := "modeRules", inPlace := ["math/bits.Sub64", "math/bits.Add64"], unfollowed := true, recurses := true, apart := false, narrowed := true }
def ModeRulesUptoSaid : Prop := modeRulesUptoRow.holds Try.pinned (OpenSpec.upto modeRulesSpec)

/-- 'radicandlaw11.Radix2Steps', WHERE WHAT IT READS IS OF BULK AT MOST 1048576: true; the input reads as it did. -/
def radix2StepsUptoRow : OpenClaim := { program := "ytenkaobgoknlhaa", sum := "3bba351e2fefaeba9a4271995657dd17b40f14ad4156024edf09068149a8bf8e", func := "radicand/radicandlaw11.Radix2Steps", spec := "radix2Steps", inPlace := ["math/bits.Sub64", "math/bits.Add64"], unfollowed := true, recurses := true, apart := false, narrowed := true }
def Radix2StepsUptoSaid : Prop := radix2StepsUptoRow.holds Try.pinned (OpenSpec.upto radix2StepsSpec)

/-- 'radicandlaw03.ProdSums', WHERE WHAT IT READS IS OF BULK AT MOST 1048576: true; the input reads as it did. -/
def prodSumsUptoRow : OpenClaim := { program := "ytenkaobgoknlhaa", sum := "3bba351e2fefaeba9a4271995657dd17b40f14ad4156024edf09068149a8bf8e", func := "radicand/radicandlaw03.ProdSums", spec := "prodSums", inPlace := ["math/bits.Add64"], unfollowed := true, recurses := true, apart := false, narrowed := true }
def ProdSumsUptoSaid : Prop := prodSumsUptoRow.holds Try.pinned (OpenSpec.upto prodSumsSpec)

/-- 'radicandlaw12.Root2Cubes', WHERE WHAT IT READS IS OF BULK AT MOST 1048576: true; the input reads as it did. -/
def root2CubesUptoRow : OpenClaim := { program := "ytenkaobgoknlhaa", sum := "3bba351e2fefaeba9a4271995657dd17b40f14ad4156024edf09068149a8bf8e", func := "radicand/radicandlaw12.Root2Cubes", spec := "root2Cubes", inPlace := ["math/bits.Add64", "math/bits.Sub64"], unfollowed := true, recurses := true, apart := false, narrowed := true }
def Root2CubesUptoSaid : Prop := root2CubesUptoRow.holds Try.pinned (OpenSpec.upto root2CubesSpec)

/-- 'radicandlaw12.Root2Roots', WHERE WHAT IT READS IS OF BULK AT MOST 1048576: true; the input reads as it did. -/
def root2RootsUptoRow : OpenClaim := { program := "ytenkaobgoknlhaa", sum := "3bba351e2fefaeba9a4271995657dd17b40f14ad4156024edf09068149a8bf8e", func := "radicand/radicandlaw12.Root2Roots", spec := "root2Roots", inPlace := ["math/bits.Add64", "math/bits.Sub64"], unfollowed := true, recurses := true, apart := false, narrowed := true }
def Root2RootsUptoSaid : Prop := root2RootsUptoRow.holds Try.pinned (OpenSpec.upto root2RootsSpec)

/-- 'radicandlaw12.Root2Squares', WHERE WHAT IT READS IS OF BULK AT MOST 1048576: true; the input reads as it did. -/
def root2SquaresUptoRow : OpenClaim := { program := "ytenkaobgoknlhaa", sum := "3bba351e2fefaeba9a4271995657dd17b40f14ad4156024edf09068149a8bf8e", func := "radicand/radicandlaw12.Root2Squares", spec := "root2Squares", inPlace := ["math/bits.Add64", "math/bits.Sub64"], unfollowed := true, recurses := true, apart := false, narrowed := true }
def Root2SquaresUptoSaid : Prop := root2SquaresUptoRow.holds Try.pinned (OpenSpec.upto root2SquaresSpec)

/-- 'radicandlaw12.Root2Rounds', WHERE WHAT IT READS IS OF BULK AT MOST 1048576: true; the input reads as it did. -/
def root2RoundsUptoRow : OpenClaim := { program := "ytenkaobgoknlhaa", sum := "3bba351e2fefaeba9a4271995657dd17b40f14ad4156024edf09068149a8bf8e", func := "radicand/radicandlaw12.Root2Rounds", spec := "root2Rounds", inPlace := ["math/bits.Add64", "math/bits.Sub64"], unfollowed := true, recurses := true, apart := false, narrowed := true }
def Root2RoundsUptoSaid : Prop := root2RoundsUptoRow.holds Try.pinned (OpenSpec.upto root2RoundsSpec)

/-- 'radicandlaw12.Root2Digits', WHERE WHAT IT READS IS OF BULK AT MOST 1048576: true; the input reads as it did. -/
def root2DigitsUptoRow : OpenClaim := { program := "ytenkaobgoknlhaa", sum := "3bba351e2fefaeba9a4271995657dd17b40f14ad4156024edf09068149a8bf8e", func := "radicand/radicandlaw12.Root2Digits", spec := "root2Digits", inPlace := ["math/bits.Add64", "math/bits.Sub64"], unfollowed := true, recurses := true, apart := false, narrowed := true }
def Root2DigitsUptoSaid : Prop := root2DigitsUptoRow.holds Try.pinned (OpenSpec.upto root2DigitsSpec)

end Rows
end Go.Proofs.Ytenkaobgoknlhaa
