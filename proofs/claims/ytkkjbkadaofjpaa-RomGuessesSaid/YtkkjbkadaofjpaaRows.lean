/-
  No cell of these rows narrows 'for every input' (looked for: loops, veiled, ifaces, maps, wideKeys, modest, calm, conditions, laid).
  DERIVED. THE GIVEN ROWS OF THIS SEAT. 17 by the template 'for every input the law returns true; each argument reads behind the call as it read before'; 0 by the template 'total and deterministic' (their statements: YtkkjbkadaofjpaaTotals.lean).
  GIVEN WITH THE SEED: the statements are not yours to turn. If you find one false, say at which input.
  Laid BY PROGRAM, IN A SANDBOX (cutbox-rows.mjs): the forced cells as the released guide's own fill.sh prints them over the translation 2258f2ff1eaf018c… (all of the seat's roots in one cut). By AI agents, Wed Nov 11 2026. No macro, syntax, notation, axiom, sorry.
-/
import Derived.Test.YtkkjbkadaofjpaaChecked
import GoSem.Claim
import GoSem.ClaimJoined
import GoSem.ClaimMapViews
import Derived.JoinedTies
import Derived.KernelRfl
namespace Go.Proofs.Ytkkjbkadaofjpaa
/- THE CELL 'sum', in the pinned program and in every row, IS THE sha256 OF THE DUMP (.gsa) THAT YtkkjbkadaofjpaaProg.lean LOADS. Nothing in Lean hashes anything: it is a label: what it is worth is what the hold of that sum in a sandbox is worth. -/
noncomputable def Try.pinned : Pinned := { name := "ytkkjbkadaofjpaa", sum := "2258f2ff1eaf018c97b2d9da4c2020071b5b79da1e945136459bd5ee8dfe21c6", checked := Try.checked }
namespace Rows
def none {H : Type} : Left H := { results := [], args := [] }

/-- 'radicandlaw17.RomTables': WHATEVER THE INPUT: true; the input reads as it did. -/
def romTablesSpec : ChangeSpec := { name := "romTables", fn := fun _ => fun
  | [d] => { results := [.lit (.bool true)], args := [d] }
  | _ => none }
def romTablesRow : OpenClaim := { program := "ytkkjbkadaofjpaa", sum := "2258f2ff1eaf018c97b2d9da4c2020071b5b79da1e945136459bd5ee8dfe21c6", func := "radicand/radicandlaw17.RomTables", spec := "romTables", inPlace := ["sync/atomic.AddInt64", "sync/atomic.LoadUint32", "(*internal/sync.Mutex).Lock", "internal/race.Disable", "sync/atomic.CompareAndSwapInt32", "internal/race.Enable", "internal/race.Acquire", "(*internal/sync.Mutex).lockSlow", "internal/sync.runtime_canSpin", "internal/sync.runtime_doSpin", "internal/sync.throw", "internal/sync.runtime_nanotime", "internal/sync.runtime_SemacquireMutex", "sync/atomic.AddInt32", "(*internal/sync.Mutex).Unlock", "internal/race.ReleaseMerge", "(*internal/sync.Mutex).unlockSlow", "internal/sync.fatal", "internal/sync.runtime_Semrelease", "sync/atomic.StoreUint32"], unfollowed := true, recurses := true, apart := false }
def RomTablesSaid : Prop := romTablesRow.holds Try.pinned (OpenSpec.ofChange romTablesSpec)

/-- ITS FALSE NEIGHBOUR: 'it returns false'. Refute it at one input. -/
def romTablesWrong : ChangeSpec := { name := "romTables", fn := fun _ => fun
  | [d] => { results := [.lit (.bool false)], args := [d] }
  | _ => none }
def RomTablesWrongFalsely : Prop := romTablesRow.holds Try.pinned (OpenSpec.ofChange romTablesWrong)

/-- 'radicandlaw13.FlyConverts': WHATEVER THE INPUT: true; the input reads as it did. -/
def flyConvertsSpec : ChangeSpec := { name := "flyConverts", fn := fun _ => fun
  | [d] => { results := [.lit (.bool true)], args := [d] }
  | _ => none }
def flyConvertsRow : OpenClaim := { program := "ytkkjbkadaofjpaa", sum := "2258f2ff1eaf018c97b2d9da4c2020071b5b79da1e945136459bd5ee8dfe21c6", func := "radicand/radicandlaw13.FlyConverts", spec := "flyConverts", inPlace := ["math/bits.Sub64", "math/bits.Add64"], unfollowed := true, recurses := true, apart := false }
def FlyConvertsSaid : Prop := flyConvertsRow.holds Try.pinned (OpenSpec.ofChange flyConvertsSpec)

/-- ITS FALSE NEIGHBOUR: 'it returns false'. Refute it at one input. -/
def flyConvertsWrong : ChangeSpec := { name := "flyConverts", fn := fun _ => fun
  | [d] => { results := [.lit (.bool false)], args := [d] }
  | _ => none }
def FlyConvertsWrongFalsely : Prop := flyConvertsRow.holds Try.pinned (OpenSpec.ofChange flyConvertsWrong)

/-- 'radicandlaw13.FlyNext': WHATEVER THE INPUT: true; the input reads as it did. -/
def flyNextSpec : ChangeSpec := { name := "flyNext", fn := fun _ => fun
  | [d1, d2] => { results := [.lit (.bool true)], args := [d1, d2] }
  | _ => none }
def flyNextRow : OpenClaim := { program := "ytkkjbkadaofjpaa", sum := "2258f2ff1eaf018c97b2d9da4c2020071b5b79da1e945136459bd5ee8dfe21c6", func := "radicand/radicandlaw13.FlyNext", spec := "flyNext", inPlace := ["math/bits.Sub64", "math/bits.Add64"], unfollowed := true, recurses := true, apart := false }
def FlyNextSaid : Prop := flyNextRow.holds Try.pinned (OpenSpec.ofChange flyNextSpec)

/-- ITS FALSE NEIGHBOUR: 'it returns false'. Refute it at one input. -/
def flyNextWrong : ChangeSpec := { name := "flyNext", fn := fun _ => fun
  | [d1, d2] => { results := [.lit (.bool false)], args := [d1, d2] }
  | _ => none }
def FlyNextWrongFalsely : Prop := flyNextRow.holds Try.pinned (OpenSpec.ofChange flyNextWrong)

/-- 'radicandlaw13.FlyTurns': WHATEVER THE INPUT: true; the input reads as it did. -/
def flyTurnsSpec : ChangeSpec := { name := "flyTurns", fn := fun _ => fun
  | [d] => { results := [.lit (.bool true)], args := [d] }
  | _ => none }
def flyTurnsRow : OpenClaim := { program := "ytkkjbkadaofjpaa", sum := "2258f2ff1eaf018c97b2d9da4c2020071b5b79da1e945136459bd5ee8dfe21c6", func := "radicand/radicandlaw13.FlyTurns", spec := "flyTurns", inPlace := ["math/bits.Sub64", "math/bits.Add64"], unfollowed := true, recurses := true, apart := false }
def FlyTurnsSaid : Prop := flyTurnsRow.holds Try.pinned (OpenSpec.ofChange flyTurnsSpec)

/-- ITS FALSE NEIGHBOUR: 'it returns false'. Refute it at one input. -/
def flyTurnsWrong : ChangeSpec := { name := "flyTurns", fn := fun _ => fun
  | [d] => { results := [.lit (.bool false)], args := [d] }
  | _ => none }
def FlyTurnsWrongFalsely : Prop := flyTurnsRow.holds Try.pinned (OpenSpec.ofChange flyTurnsWrong)

/-- 'radicandlaw17.RomGuesses': WHATEVER THE INPUT: true; the input reads as it did. -/
def romGuessesSpec : ChangeSpec := { name := "romGuesses", fn := fun _ => fun
  | [d1, d2] => { results := [.lit (.bool true)], args := [d1, d2] }
  | _ => none }
def romGuessesRow : OpenClaim := { program := "ytkkjbkadaofjpaa", sum := "2258f2ff1eaf018c97b2d9da4c2020071b5b79da1e945136459bd5ee8dfe21c6", func := "radicand/radicandlaw17.RomGuesses", spec := "romGuesses", inPlace := ["sync/atomic.AddInt64", "sync/atomic.LoadUint32", "(*internal/sync.Mutex).Lock", "internal/race.Disable", "sync/atomic.CompareAndSwapInt32", "internal/race.Enable", "internal/race.Acquire", "(*internal/sync.Mutex).lockSlow", "internal/sync.runtime_canSpin", "internal/sync.runtime_doSpin", "internal/sync.throw", "internal/sync.runtime_nanotime", "internal/sync.runtime_SemacquireMutex", "sync/atomic.AddInt32", "(*internal/sync.Mutex).Unlock", "internal/race.ReleaseMerge", "(*internal/sync.Mutex).unlockSlow", "internal/sync.fatal", "internal/sync.runtime_Semrelease", "sync/atomic.StoreUint32"], unfollowed := true, recurses := true, apart := false }
def RomGuessesSaid : Prop := romGuessesRow.holds Try.pinned (OpenSpec.ofChange romGuessesSpec)

/-- ITS FALSE NEIGHBOUR: 'it returns false'. Refute it at one input. -/
def romGuessesWrong : ChangeSpec := { name := "romGuesses", fn := fun _ => fun
  | [d1, d2] => { results := [.lit (.bool false)], args := [d1, d2] }
  | _ => none }
def RomGuessesWrongFalsely : Prop := romGuessesRow.holds Try.pinned (OpenSpec.ofChange romGuessesWrong)

/-- 'radicandlaw17.RomOnce': WHATEVER THE INPUT: true; the input reads as it did. -/
def romOnceSpec : ChangeSpec := { name := "romOnce", fn := fun _ => fun
  | [d1, d2, d3] => { results := [.lit (.bool true)], args := [d1, d2, d3] }
  | _ => none }
def romOnceRow : OpenClaim := { program := "ytkkjbkadaofjpaa", sum := "2258f2ff1eaf018c97b2d9da4c2020071b5b79da1e945136459bd5ee8dfe21c6", func := "radicand/radicandlaw17.RomOnce", spec := "romOnce", inPlace := ["sync/atomic.AddInt64", "sync/atomic.LoadUint32", "(*internal/sync.Mutex).Lock", "internal/race.Disable", "sync/atomic.CompareAndSwapInt32", "internal/race.Enable", "internal/race.Acquire", "(*internal/sync.Mutex).lockSlow", "internal/sync.runtime_canSpin", "internal/sync.runtime_doSpin", "internal/sync.throw", "internal/sync.runtime_nanotime", "internal/sync.runtime_SemacquireMutex", "sync/atomic.AddInt32", "(*internal/sync.Mutex).Unlock", "internal/race.ReleaseMerge", "(*internal/sync.Mutex).unlockSlow", "internal/sync.fatal", "internal/sync.runtime_Semrelease", "sync/atomic.StoreUint32", "sync/atomic.LoadInt64"], unfollowed := true, recurses := true, apart := false }
def RomOnceSaid : Prop := romOnceRow.holds Try.pinned (OpenSpec.ofChange romOnceSpec)

/-- ITS FALSE NEIGHBOUR: 'it returns false'. Refute it at one input. -/
def romOnceWrong : ChangeSpec := { name := "romOnce", fn := fun _ => fun
  | [d1, d2, d3] => { results := [.lit (.bool false)], args := [d1, d2, d3] }
  | _ => none }
def RomOnceWrongFalsely : Prop := romOnceRow.holds Try.pinned (OpenSpec.ofChange romOnceWrong)

/-- 'radicandlaw18.FixQuotients': WHATEVER THE INPUT: true; the input reads as it did. -/
def fixQuotientsSpec : ChangeSpec := { name := "fixQuotients", fn := fun _ => fun
  | [d1, d2, d3] => { results := [.lit (.bool true)], args := [d1, d2, d3] }
  | _ => none }
def fixQuotientsRow : OpenClaim := { program := "ytkkjbkadaofjpaa", sum := "2258f2ff1eaf018c97b2d9da4c2020071b5b79da1e945136459bd5ee8dfe21c6", func := "radicand/radicandlaw18.FixQuotients", spec := "fixQuotients", inPlace := ["math/bits.Add64", "math/bits.Sub64"], unfollowed := true, recurses := true, apart := false }
def FixQuotientsSaid : Prop := fixQuotientsRow.holds Try.pinned (OpenSpec.ofChange fixQuotientsSpec)

/-- ITS FALSE NEIGHBOUR: 'it returns false'. Refute it at one input. -/
def fixQuotientsWrong : ChangeSpec := { name := "fixQuotients", fn := fun _ => fun
  | [d1, d2, d3] => { results := [.lit (.bool false)], args := [d1, d2, d3] }
  | _ => none }
def FixQuotientsWrongFalsely : Prop := fixQuotientsRow.holds Try.pinned (OpenSpec.ofChange fixQuotientsWrong)

/-- 'radicandlaw18.FixRoots': WHATEVER THE INPUT: true; the input reads as it did. -/
def fixRootsSpec : ChangeSpec := { name := "fixRoots", fn := fun _ => fun
  | [d1, d2] => { results := [.lit (.bool true)], args := [d1, d2] }
  | _ => none }
def fixRootsRow : OpenClaim := { program := "ytkkjbkadaofjpaa", sum := "2258f2ff1eaf018c97b2d9da4c2020071b5b79da1e945136459bd5ee8dfe21c6", func := "radicand/radicandlaw18.FixRoots", spec := "fixRoots", inPlace := ["math/bits.Add64", "math/bits.Sub64"], unfollowed := true, recurses := true, apart := false }
def FixRootsSaid : Prop := fixRootsRow.holds Try.pinned (OpenSpec.ofChange fixRootsSpec)

/-- ITS FALSE NEIGHBOUR: 'it returns false'. Refute it at one input. -/
def fixRootsWrong : ChangeSpec := { name := "fixRoots", fn := fun _ => fun
  | [d1, d2] => { results := [.lit (.bool false)], args := [d1, d2] }
  | _ => none }
def FixRootsWrongFalsely : Prop := fixRootsRow.holds Try.pinned (OpenSpec.ofChange fixRootsWrong)

/-- 'radicandlaw18.FixTimes': WHATEVER THE INPUT: true; the input reads as it did. -/
def fixTimesSpec : ChangeSpec := { name := "fixTimes", fn := fun _ => fun
  | [d1, d2, d3] => { results := [.lit (.bool true)], args := [d1, d2, d3] }
  | _ => none }
def fixTimesRow : OpenClaim := { program := "ytkkjbkadaofjpaa", sum := "2258f2ff1eaf018c97b2d9da4c2020071b5b79da1e945136459bd5ee8dfe21c6", func := "radicand/radicandlaw18.FixTimes", spec := "fixTimes", inPlace := ["math/bits.Add64", "math/bits.Sub64"], unfollowed := true, recurses := true, apart := false }
def FixTimesSaid : Prop := fixTimesRow.holds Try.pinned (OpenSpec.ofChange fixTimesSpec)

/-- ITS FALSE NEIGHBOUR: 'it returns false'. Refute it at one input. -/
def fixTimesWrong : ChangeSpec := { name := "fixTimes", fn := fun _ => fun
  | [d1, d2, d3] => { results := [.lit (.bool false)], args := [d1, d2, d3] }
  | _ => none }
def FixTimesWrongFalsely : Prop := fixTimesRow.holds Try.pinned (OpenSpec.ofChange fixTimesWrong)

/-- 'radicandlaw16.SrtrootRoots': WHATEVER THE INPUT: true; the input reads as it did. -/
def srtrootRootsSpec : ChangeSpec := { name := "srtrootRoots", fn := fun _ => fun
  | [d] => { results := [.lit (.bool true)], args := [d] }
  | _ => none }
def srtrootRootsRow : OpenClaim := { program := "ytkkjbkadaofjpaa", sum := "2258f2ff1eaf018c97b2d9da4c2020071b5b79da1e945136459bd5ee8dfe21c6", func := "radicand/radicandlaw16.SrtrootRoots", spec := "srtrootRoots", inPlace := ["math/bits.Sub64", "math/bits.Add64"], unfollowed := true, recurses := true, apart := false }
def SrtrootRootsSaid : Prop := srtrootRootsRow.holds Try.pinned (OpenSpec.ofChange srtrootRootsSpec)

/-- ITS FALSE NEIGHBOUR: 'it returns false'. Refute it at one input. -/
def srtrootRootsWrong : ChangeSpec := { name := "srtrootRoots", fn := fun _ => fun
  | [d] => { results := [.lit (.bool false)], args := [d] }
  | _ => none }
def SrtrootRootsWrongFalsely : Prop := srtrootRootsRow.holds Try.pinned (OpenSpec.ofChange srtrootRootsWrong)

/-- 'radicandlaw16.SrtrootDigits': WHATEVER THE INPUT: true; the input reads as it did. -/
def srtrootDigitsSpec : ChangeSpec := { name := "srtrootDigits", fn := fun _ => fun
  | [d] => { results := [.lit (.bool true)], args := [d] }
  | _ => none }
def srtrootDigitsRow : OpenClaim := { program := "ytkkjbkadaofjpaa", sum := "2258f2ff1eaf018c97b2d9da4c2020071b5b79da1e945136459bd5ee8dfe21c6", func := "radicand/radicandlaw16.SrtrootDigits", spec := "srtrootDigits", inPlace := ["math/bits.Sub64", "math/bits.Add64"], unfollowed := true, recurses := true, apart := false }
def SrtrootDigitsSaid : Prop := srtrootDigitsRow.holds Try.pinned (OpenSpec.ofChange srtrootDigitsSpec)

/-- ITS FALSE NEIGHBOUR: 'it returns false'. Refute it at one input. -/
def srtrootDigitsWrong : ChangeSpec := { name := "srtrootDigits", fn := fun _ => fun
  | [d] => { results := [.lit (.bool false)], args := [d] }
  | _ => none }
def SrtrootDigitsWrongFalsely : Prop := srtrootDigitsRow.holds Try.pinned (OpenSpec.ofChange srtrootDigitsWrong)

/-- 'radicandlaw16.SrtrootFar': WHATEVER THE INPUT: true; the input reads as it did. -/
def srtrootFarSpec : ChangeSpec := { name := "srtrootFar", fn := fun _ => fun
  | [d1, d2] => { results := [.lit (.bool true)], args := [d1, d2] }
  | _ => none }
def srtrootFarRow : OpenClaim := { program := "ytkkjbkadaofjpaa", sum := "2258f2ff1eaf018c97b2d9da4c2020071b5b79da1e945136459bd5ee8dfe21c6", func := "radicand/radicandlaw16.SrtrootFar", spec := "srtrootFar", inPlace := ["math/bits.Sub64", "math/bits.Add64"], unfollowed := true, recurses := true, apart := false }
def SrtrootFarSaid : Prop := srtrootFarRow.holds Try.pinned (OpenSpec.ofChange srtrootFarSpec)

/-- ITS FALSE NEIGHBOUR: 'it returns false'. Refute it at one input. -/
def srtrootFarWrong : ChangeSpec := { name := "srtrootFar", fn := fun _ => fun
  | [d1, d2] => { results := [.lit (.bool false)], args := [d1, d2] }
  | _ => none }
def SrtrootFarWrongFalsely : Prop := srtrootFarRow.holds Try.pinned (OpenSpec.ofChange srtrootFarWrong)

/-- 'radicandlaw16.SrtrootKeeps': WHATEVER THE INPUT: true; the input reads as it did. -/
def srtrootKeepsSpec : ChangeSpec := { name := "srtrootKeeps", fn := fun _ => fun
  | [d1, d2] => { results := [.lit (.bool true)], args := [d1, d2] }
  | _ => none }
def srtrootKeepsRow : OpenClaim := { program := "ytkkjbkadaofjpaa", sum := "2258f2ff1eaf018c97b2d9da4c2020071b5b79da1e945136459bd5ee8dfe21c6", func := "radicand/radicandlaw16.SrtrootKeeps", spec := "srtrootKeeps", inPlace := ["math/bits.Sub64", "math/bits.Add64"], unfollowed := true, recurses := true, apart := false }
def SrtrootKeepsSaid : Prop := srtrootKeepsRow.holds Try.pinned (OpenSpec.ofChange srtrootKeepsSpec)

/-- ITS FALSE NEIGHBOUR: 'it returns false'. Refute it at one input. -/
def srtrootKeepsWrong : ChangeSpec := { name := "srtrootKeeps", fn := fun _ => fun
  | [d1, d2] => { results := [.lit (.bool false)], args := [d1, d2] }
  | _ => none }
def SrtrootKeepsWrongFalsely : Prop := srtrootKeepsRow.holds Try.pinned (OpenSpec.ofChange srtrootKeepsWrong)

/-- 'radicandlaw22.GoldrootNone': WHATEVER THE INPUT: true; the input reads as it did. -/
def goldrootNoneSpec : ChangeSpec := { name := "goldrootNone", fn := fun _ => fun
  | [d1, d2] => { results := [.lit (.bool true)], args := [d1, d2] }
  | _ => none }
def goldrootNoneRow : OpenClaim := { program := "ytkkjbkadaofjpaa", sum := "2258f2ff1eaf018c97b2d9da4c2020071b5b79da1e945136459bd5ee8dfe21c6", func := "radicand/radicandlaw22.GoldrootNone", spec := "goldrootNone", inPlace := ["sync/atomic.AddInt64", "sync/atomic.LoadUint32", "(*internal/sync.Mutex).Lock", "internal/race.Disable", "sync/atomic.CompareAndSwapInt32", "internal/race.Enable", "internal/race.Acquire", "(*internal/sync.Mutex).lockSlow", "internal/sync.runtime_canSpin", "internal/sync.runtime_doSpin", "internal/sync.throw", "internal/sync.runtime_nanotime", "internal/sync.runtime_SemacquireMutex", "sync/atomic.AddInt32", "(*internal/sync.Mutex).Unlock", "internal/race.ReleaseMerge", "(*internal/sync.Mutex).unlockSlow", "internal/sync.fatal", "internal/sync.runtime_Semrelease", "sync/atomic.StoreUint32", "math/bits.Add64", "math/bits.Sub64"], unfollowed := true, recurses := true, apart := false }
def GoldrootNoneSaid : Prop := goldrootNoneRow.holds Try.pinned (OpenSpec.ofChange goldrootNoneSpec)

/-- ITS FALSE NEIGHBOUR: 'it returns false'. Refute it at one input. -/
def goldrootNoneWrong : ChangeSpec := { name := "goldrootNone", fn := fun _ => fun
  | [d1, d2] => { results := [.lit (.bool false)], args := [d1, d2] }
  | _ => none }
def GoldrootNoneWrongFalsely : Prop := goldrootNoneRow.holds Try.pinned (OpenSpec.ofChange goldrootNoneWrong)

/-- 'radicandlaw21.GoldNone': WHATEVER THE INPUT: true; the input reads as it did. -/
def goldNoneSpec : ChangeSpec := { name := "goldNone", fn := fun _ => fun
  | [d1, d2, d3] => { results := [.lit (.bool true)], args := [d1, d2, d3] }
  | _ => none }
def goldNoneRow : OpenClaim := { program := "ytkkjbkadaofjpaa", sum := "2258f2ff1eaf018c97b2d9da4c2020071b5b79da1e945136459bd5ee8dfe21c6", func := "radicand/radicandlaw21.GoldNone", spec := "goldNone", inPlace := ["sync/atomic.AddInt64", "sync/atomic.LoadUint32", "(*internal/sync.Mutex).Lock", "internal/race.Disable", "sync/atomic.CompareAndSwapInt32", "internal/race.Enable", "internal/race.Acquire", "(*internal/sync.Mutex).lockSlow", "internal/sync.runtime_canSpin", "internal/sync.runtime_doSpin", "internal/sync.throw", "internal/sync.runtime_nanotime", "internal/sync.runtime_SemacquireMutex", "sync/atomic.AddInt32", "(*internal/sync.Mutex).Unlock", "internal/race.ReleaseMerge", "(*internal/sync.Mutex).unlockSlow", "internal/sync.fatal", "internal/sync.runtime_Semrelease", "sync/atomic.StoreUint32", "math/bits.Add64", "math/bits.Sub64"], unfollowed := true, recurses := true, apart := false }
def GoldNoneSaid : Prop := goldNoneRow.holds Try.pinned (OpenSpec.ofChange goldNoneSpec)

/-- ITS FALSE NEIGHBOUR: 'it returns false'. Refute it at one input. -/
def goldNoneWrong : ChangeSpec := { name := "goldNone", fn := fun _ => fun
  | [d1, d2, d3] => { results := [.lit (.bool false)], args := [d1, d2, d3] }
  | _ => none }
def GoldNoneWrongFalsely : Prop := goldNoneRow.holds Try.pinned (OpenSpec.ofChange goldNoneWrong)

/-- 'radicandlaw20.NewtonrootNone': WHATEVER THE INPUT: true; the input reads as it did. -/
def newtonrootNoneSpec : ChangeSpec := { name := "newtonrootNone", fn := fun _ => fun
  | [d1, d2] => { results := [.lit (.bool true)], args := [d1, d2] }
  | _ => none }
def newtonrootNoneRow : OpenClaim := { program := "ytkkjbkadaofjpaa", sum := "2258f2ff1eaf018c97b2d9da4c2020071b5b79da1e945136459bd5ee8dfe21c6", func := "radicand/radicandlaw20.NewtonrootNone", spec := "newtonrootNone", inPlace := ["math/bits.Add64", "math/bits.Sub64", "sync/atomic.AddInt64", "sync/atomic.LoadUint32", "(*internal/sync.Mutex).Lock", "internal/race.Disable", "sync/atomic.CompareAndSwapInt32", "internal/race.Enable", "internal/race.Acquire", "(*internal/sync.Mutex).lockSlow", "internal/sync.runtime_canSpin", "internal/sync.runtime_doSpin", "internal/sync.throw", "internal/sync.runtime_nanotime", "internal/sync.runtime_SemacquireMutex", "sync/atomic.AddInt32", "(*internal/sync.Mutex).Unlock", "internal/race.ReleaseMerge", "(*internal/sync.Mutex).unlockSlow", "internal/sync.fatal", "internal/sync.runtime_Semrelease", "sync/atomic.StoreUint32"], unfollowed := true, recurses := true, apart := false }
def NewtonrootNoneSaid : Prop := newtonrootNoneRow.holds Try.pinned (OpenSpec.ofChange newtonrootNoneSpec)

/-- ITS FALSE NEIGHBOUR: 'it returns false'. Refute it at one input. -/
def newtonrootNoneWrong : ChangeSpec := { name := "newtonrootNone", fn := fun _ => fun
  | [d1, d2] => { results := [.lit (.bool false)], args := [d1, d2] }
  | _ => none }
def NewtonrootNoneWrongFalsely : Prop := newtonrootNoneRow.holds Try.pinned (OpenSpec.ofChange newtonrootNoneWrong)

/-- 'radicandlaw19.NewtonNone': WHATEVER THE INPUT: true; the input reads as it did. -/
def newtonNoneSpec : ChangeSpec := { name := "newtonNone", fn := fun _ => fun
  | [d1, d2, d3] => { results := [.lit (.bool true)], args := [d1, d2, d3] }
  | _ => none }
def newtonNoneRow : OpenClaim := { program := "ytkkjbkadaofjpaa", sum := "2258f2ff1eaf018c97b2d9da4c2020071b5b79da1e945136459bd5ee8dfe21c6", func := "radicand/radicandlaw19.NewtonNone", spec := "newtonNone", inPlace := ["sync/atomic.AddInt64", "sync/atomic.LoadUint32", "(*internal/sync.Mutex).Lock", "internal/race.Disable", "sync/atomic.CompareAndSwapInt32", "internal/race.Enable", "internal/race.Acquire", "(*internal/sync.Mutex).lockSlow", "internal/sync.runtime_canSpin", "internal/sync.runtime_doSpin", "internal/sync.throw", "internal/sync.runtime_nanotime", "internal/sync.runtime_SemacquireMutex", "sync/atomic.AddInt32", "(*internal/sync.Mutex).Unlock", "internal/race.ReleaseMerge", "(*internal/sync.Mutex).unlockSlow", "internal/sync.fatal", "internal/sync.runtime_Semrelease", "sync/atomic.StoreUint32", "math/bits.Add64", "math/bits.Sub64"], unfollowed := true, recurses := true, apart := false }
def NewtonNoneSaid : Prop := newtonNoneRow.holds Try.pinned (OpenSpec.ofChange newtonNoneSpec)

/-- ITS FALSE NEIGHBOUR: 'it returns false'. Refute it at one input. -/
def newtonNoneWrong : ChangeSpec := { name := "newtonNone", fn := fun _ => fun
  | [d1, d2, d3] => { results := [.lit (.bool false)], args := [d1, d2, d3] }
  | _ => none }
def NewtonNoneWrongFalsely : Prop := newtonNoneRow.holds Try.pinned (OpenSpec.ofChange newtonNoneWrong)

/- THE SECOND FORM. 'bulk': how many values and letters a reading holds, each counted each time it is reached (what is shared counts as often as it is met; a slice's spare places count too). A statement '..UptoSaid' is the law's where the arguments, and the package variables that the reading takes, are together of bulk at most 1048576: NARROWER than '..Said'. Prove '..Said' where nothing that the law and all that it calls make is longer than what came in: it says more and counts as full. Else prove '..UptoSaid'. A law counts once. -/
mutual
def uptoBulk {H : Type} : DataW H → Nat
  | .lit (.string bytes) => bytes.length + 1
  | .lit _ => 1
  | .nil => 1
  | .ptr d => uptoBulk d + 1
  | .slice elems spare => uptoBulkAll elems + uptoBulkAll spare + 1
  | .agg parts => uptoBulkAll parts + 1
  | .iface _ d => uptoBulk d + 1
  | .map entries => uptoBulkEntries entries + 1
  | .held _ => 1
def uptoBulkAll {H : Type} : List (DataW H) → Nat
  | [] => 0
  | d :: r => uptoBulk d + uptoBulkAll r
def uptoBulkEntries {H : Type} : List (Lit × DataW H) → Nat
  | [] => 0
  | x :: r => uptoBulkEntry x + uptoBulkEntries r
def uptoBulkEntry {H : Type} : Lit × DataW H → Nat
  | (.string bytes, d) => bytes.length + uptoBulk d + 1
  | (_, d) => uptoBulk d + 1
 end
def uptoSmall : (H : Type) → List (DataW H) → Bool := fun _ ds => decide (uptoBulkAll ds ≤ 1048576)
def OpenSpec.upto (s : _root_.Go.ChangeSpec) : _root_.Go.OpenSpec := { _root_.Go.OpenSpec.ofChange s with cond := some uptoSmall }

/-- 'radicandlaw17.RomTables', WHERE WHAT IT READS IS OF BULK AT MOST 1048576: true; the input reads as it did. -/
def romTablesUptoRow : OpenClaim := { program := "ytkkjbkadaofjpaa", sum := "2258f2ff1eaf018c97b2d9da4c2020071b5b79da1e945136459bd5ee8dfe21c6", func := "radicand/radicandlaw17.RomTables", spec := "romTables", inPlace := ["sync/atomic.AddInt64", "sync/atomic.LoadUint32", "(*internal/sync.Mutex).Lock", "internal/race.Disable", "sync/atomic.CompareAndSwapInt32", "internal/race.Enable", "internal/race.Acquire", "(*internal/sync.Mutex).lockSlow", "internal/sync.runtime_canSpin", "internal/sync.runtime_doSpin", "internal/sync.throw", "internal/sync.runtime_nanotime", "internal/sync.runtime_SemacquireMutex", "sync/atomic.AddInt32", "(*internal/sync.Mutex).Unlock", "internal/race.ReleaseMerge", "(*internal/sync.Mutex).unlockSlow", "internal/sync.fatal", "internal/sync.runtime_Semrelease", "sync/atomic.StoreUint32"], unfollowed := true, recurses := true, apart := false, narrowed := true }
def RomTablesUptoSaid : Prop := romTablesUptoRow.holds Try.pinned (OpenSpec.upto romTablesSpec)

/-- 'radicandlaw13.FlyConverts', WHERE WHAT IT READS IS OF BULK AT MOST 1048576: true; the input reads as it did. -/
def flyConvertsUptoRow : OpenClaim := { program := "ytkkjbkadaofjpaa", sum := "2258f2ff1eaf018c97b2d9da4c2020071b5b79da1e945136459bd5ee8dfe21c6", func := "radicand/radicandlaw13.FlyConverts", spec := "flyConverts", inPlace := ["math/bits.Sub64", "math/bits.Add64"], unfollowed := true, recurses := true, apart := false, narrowed := true }
def FlyConvertsUptoSaid : Prop := flyConvertsUptoRow.holds Try.pinned (OpenSpec.upto flyConvertsSpec)

/-- 'radicandlaw13.FlyNext', WHERE WHAT IT READS IS OF BULK AT MOST 1048576: true; the input reads as it did. -/
def flyNextUptoRow : OpenClaim := { program := "ytkkjbkadaofjpaa", sum := "2258f2ff1eaf018c97b2d9da4c2020071b5b79da1e945136459bd5ee8dfe21c6", func := "radicand/radicandlaw13.FlyNext", spec := "flyNext", inPlace := ["math/bits.Sub64", "math/bits.Add64"], unfollowed := true, recurses := true, apart := false, narrowed := true }
def FlyNextUptoSaid : Prop := flyNextUptoRow.holds Try.pinned (OpenSpec.upto flyNextSpec)

/-- 'radicandlaw13.FlyTurns', WHERE WHAT IT READS IS OF BULK AT MOST 1048576: true; the input reads as it did. -/
def flyTurnsUptoRow : OpenClaim := { program := "ytkkjbkadaofjpaa", sum := "2258f2ff1eaf018c97b2d9da4c2020071b5b79da1e945136459bd5ee8dfe21c6", func := "radicand/radicandlaw13.FlyTurns", spec := "flyTurns", inPlace := ["math/bits.Sub64", "math/bits.Add64"], unfollowed := true, recurses := true, apart := false, narrowed := true }
def FlyTurnsUptoSaid : Prop := flyTurnsUptoRow.holds Try.pinned (OpenSpec.upto flyTurnsSpec)

/-- 'radicandlaw17.RomGuesses', WHERE WHAT IT READS IS OF BULK AT MOST 1048576: true; the input reads as it did. -/
def romGuessesUptoRow : OpenClaim := { program := "ytkkjbkadaofjpaa", sum := "2258f2ff1eaf018c97b2d9da4c2020071b5b79da1e945136459bd5ee8dfe21c6", func := "radicand/radicandlaw17.RomGuesses", spec := "romGuesses", inPlace := ["sync/atomic.AddInt64", "sync/atomic.LoadUint32", "(*internal/sync.Mutex).Lock", "internal/race.Disable", "sync/atomic.CompareAndSwapInt32", "internal/race.Enable", "internal/race.Acquire", "(*internal/sync.Mutex).lockSlow", "internal/sync.runtime_canSpin", "internal/sync.runtime_doSpin", "internal/sync.throw", "internal/sync.runtime_nanotime", "internal/sync.runtime_SemacquireMutex", "sync/atomic.AddInt32", "(*internal/sync.Mutex).Unlock", "internal/race.ReleaseMerge", "(*internal/sync.Mutex).unlockSlow", "internal/sync.fatal", "internal/sync.runtime_Semrelease", "sync/atomic.StoreUint32"], unfollowed := true, recurses := true, apart := false, narrowed := true }
def RomGuessesUptoSaid : Prop := romGuessesUptoRow.holds Try.pinned (OpenSpec.upto romGuessesSpec)

/-- 'radicandlaw17.RomOnce', WHERE WHAT IT READS IS OF BULK AT MOST 1048576: true; the input reads as it did. -/
def romOnceUptoRow : OpenClaim := { program := "ytkkjbkadaofjpaa", sum := "2258f2ff1eaf018c97b2d9da4c2020071b5b79da1e945136459bd5ee8dfe21c6", func := "radicand/radicandlaw17.RomOnce", spec := "romOnce", inPlace := ["sync/atomic.AddInt64", "sync/atomic.LoadUint32", "(*internal/sync.Mutex).Lock", "internal/race.Disable", "sync/atomic.CompareAndSwapInt32", "internal/race.Enable", "internal/race.Acquire", "(*internal/sync.Mutex).lockSlow", "internal/sync.runtime_canSpin", "internal/sync.runtime_doSpin", "internal/sync.throw", "internal/sync.runtime_nanotime", "internal/sync.runtime_SemacquireMutex", "sync/atomic.AddInt32", "(*internal/sync.Mutex).Unlock", "internal/race.ReleaseMerge", "(*internal/sync.Mutex).unlockSlow", "internal/sync.fatal", "internal/sync.runtime_Semrelease", "sync/atomic.StoreUint32", "sync/atomic.LoadInt64"], unfollowed := true, recurses := true, apart := false, narrowed := true }
def RomOnceUptoSaid : Prop := romOnceUptoRow.holds Try.pinned (OpenSpec.upto romOnceSpec)

/-- 'radicandlaw18.FixQuotients', WHERE WHAT IT READS IS OF BULK AT MOST 1048576: true; the input reads as it did. -/
def fixQuotientsUptoRow : OpenClaim := { program := "ytkkjbkadaofjpaa", sum := "2258f2ff1eaf018c97b2d9da4c2020071b5b79da1e945136459bd5ee8dfe21c6", func := "radicand/radicandlaw18.FixQuotients", spec := "fixQuotients", inPlace := ["math/bits.Add64", "math/bits.Sub64"], unfollowed := true, recurses := true, apart := false, narrowed := true }
def FixQuotientsUptoSaid : Prop := fixQuotientsUptoRow.holds Try.pinned (OpenSpec.upto fixQuotientsSpec)

/-- 'radicandlaw18.FixRoots', WHERE WHAT IT READS IS OF BULK AT MOST 1048576: true; the input reads as it did. -/
def fixRootsUptoRow : OpenClaim := { program := "ytkkjbkadaofjpaa", sum := "2258f2ff1eaf018c97b2d9da4c2020071b5b79da1e945136459bd5ee8dfe21c6", func := "radicand/radicandlaw18.FixRoots", spec := "fixRoots", inPlace := ["math/bits.Add64", "math/bits.Sub64"], unfollowed := true, recurses := true, apart := false, narrowed := true }
def FixRootsUptoSaid : Prop := fixRootsUptoRow.holds Try.pinned (OpenSpec.upto fixRootsSpec)

/-- 'radicandlaw18.FixTimes', WHERE WHAT IT READS IS OF BULK AT MOST 1048576: true; the input reads as it did. -/
def fixTimesUptoRow : OpenClaim := { program := "ytkkjbkadaofjpaa", sum := "2258f2ff1eaf018c97b2d9da4c2020071b5b79da1e945136459bd5ee8dfe21c6", func := "radicand/radicandlaw18.FixTimes", spec := "fixTimes", inPlace := ["math/bits.Add64", "math/bits.Sub64"], unfollowed := true, recurses := true, apart := false, narrowed := true }
def FixTimesUptoSaid : Prop := fixTimesUptoRow.holds Try.pinned (OpenSpec.upto fixTimesSpec)

/-- 'radicandlaw16.SrtrootRoots', WHERE WHAT IT READS IS OF BULK AT MOST 1048576: true; the input reads as it did. -/
def srtrootRootsUptoRow : OpenClaim := { program := "ytkkjbkadaofjpaa", sum := "2258f2ff1eaf018c97b2d9da4c2020071b5b79da1e945136459bd5ee8dfe21c6", func := "radicand/radicandlaw16.SrtrootRoots", spec := "srtrootRoots", inPlace := ["math/bits.Sub64", "math/bits.Add64"], unfollowed := true, recurses := true, apart := false, narrowed := true }
def SrtrootRootsUptoSaid : Prop := srtrootRootsUptoRow.holds Try.pinned (OpenSpec.upto srtrootRootsSpec)

/-- 'radicandlaw16.SrtrootDigits', WHERE WHAT IT READS IS OF BULK AT MOST 1048576: true; the input reads as it did. -/
def srtrootDigitsUptoRow : OpenClaim := { program := "ytkkjbkadaofjpaa", sum := "2258f2ff1eaf018c97b2d9da4c2020071b5b79da1e945136459bd5ee8dfe21c6", func := "radicand/radicandlaw16.SrtrootDigits", spec := "srtrootDigits", inPlace := ["math/bits.Sub64", "math/bits.Add64"], unfollowed := true, recurses := true, apart := false, narrowed := true }
def SrtrootDigitsUptoSaid : Prop := srtrootDigitsUptoRow.holds Try.pinned (OpenSpec.upto srtrootDigitsSpec)

/-- 'radicandlaw16.SrtrootFar', WHERE WHAT IT READS IS OF BULK AT MOST 1048576: true; the input reads as it did. -/
def srtrootFarUptoRow : OpenClaim := { program := "ytkkjbkadaofjpaa", sum := "2258f2ff1eaf018c97b2d9da4c2020071b5b79da1e945136459bd5ee8dfe21c6", func := "radicand/radicandlaw16.SrtrootFar", spec := "srtrootFar", inPlace := ["math/bits.Sub64", "math/bits.Add64"], unfollowed := true, recurses := true, apart := false, narrowed := true }
def SrtrootFarUptoSaid : Prop := srtrootFarUptoRow.holds Try.pinned (OpenSpec.upto srtrootFarSpec)

/-- 'radicandlaw16.SrtrootKeeps', WHERE WHAT IT READS IS OF BULK AT MOST 1048576: true; the input reads as it did. -/
def srtrootKeepsUptoRow : OpenClaim := { program := "ytkkjbkadaofjpaa", sum := "2258f2ff1eaf018c97b2d9da4c2020071b5b79da1e945136459bd5ee8dfe21c6", func := "radicand/radicandlaw16.SrtrootKeeps", spec := "srtrootKeeps", inPlace := ["math/bits.Sub64", "math/bits.Add64"], unfollowed := true, recurses := true, apart := false, narrowed := true }
def SrtrootKeepsUptoSaid : Prop := srtrootKeepsUptoRow.holds Try.pinned (OpenSpec.upto srtrootKeepsSpec)

/-- 'radicandlaw22.GoldrootNone', WHERE WHAT IT READS IS OF BULK AT MOST 1048576: true; the input reads as it did. -/
def goldrootNoneUptoRow : OpenClaim := { program := "ytkkjbkadaofjpaa", sum := "2258f2ff1eaf018c97b2d9da4c2020071b5b79da1e945136459bd5ee8dfe21c6", func := "radicand/radicandlaw22.GoldrootNone", spec := "goldrootNone", inPlace := ["sync/atomic.AddInt64", "sync/atomic.LoadUint32", "(*internal/sync.Mutex).Lock", "internal/race.Disable", "sync/atomic.CompareAndSwapInt32", "internal/race.Enable", "internal/race.Acquire", "(*internal/sync.Mutex).lockSlow", "internal/sync.runtime_canSpin", "internal/sync.runtime_doSpin", "internal/sync.throw", "internal/sync.runtime_nanotime", "internal/sync.runtime_SemacquireMutex", "sync/atomic.AddInt32", "(*internal/sync.Mutex).Unlock", "internal/race.ReleaseMerge", "(*internal/sync.Mutex).unlockSlow", "internal/sync.fatal", "internal/sync.runtime_Semrelease", "sync/atomic.StoreUint32", "math/bits.Add64", "math/bits.Sub64"], unfollowed := true, recurses := true, apart := false, narrowed := true }
def GoldrootNoneUptoSaid : Prop := goldrootNoneUptoRow.holds Try.pinned (OpenSpec.upto goldrootNoneSpec)

/-- 'radicandlaw21.GoldNone', WHERE WHAT IT READS IS OF BULK AT MOST 1048576: true; the input reads as it did. -/
def goldNoneUptoRow : OpenClaim := { program := "ytkkjbkadaofjpaa", sum := "2258f2ff1eaf018c97b2d9da4c2020071b5b79da1e945136459bd5ee8dfe21c6", func := "radicand/radicandlaw21.GoldNone", spec := "goldNone", inPlace := ["sync/atomic.AddInt64", "sync/atomic.LoadUint32", "(*internal/sync.Mutex).Lock", "internal/race.Disable", "sync/atomic.CompareAndSwapInt32", "internal/race.Enable", "internal/race.Acquire", "(*internal/sync.Mutex).lockSlow", "internal/sync.runtime_canSpin", "internal/sync.runtime_doSpin", "internal/sync.throw", "internal/sync.runtime_nanotime", "internal/sync.runtime_SemacquireMutex", "sync/atomic.AddInt32", "(*internal/sync.Mutex).Unlock", "internal/race.ReleaseMerge", "(*internal/sync.Mutex).unlockSlow", "internal/sync.fatal", "internal/sync.runtime_Semrelease", "sync/atomic.StoreUint32", "math/bits.Add64", "math/bits.Sub64"], unfollowed := true, recurses := true, apart := false, narrowed := true }
def GoldNoneUptoSaid : Prop := goldNoneUptoRow.holds Try.pinned (OpenSpec.upto goldNoneSpec)

/-- 'radicandlaw20.NewtonrootNone', WHERE WHAT IT READS IS OF BULK AT MOST 1048576: true; the input reads as it did. -/
def newtonrootNoneUptoRow : OpenClaim := { program := "ytkkjbkadaofjpaa", sum := "2258f2ff1eaf018c97b2d9da4c2020071b5b79da1e945136459bd5ee8dfe21c6", func := "radicand/radicandlaw20.NewtonrootNone", spec := "newtonrootNone", inPlace := ["math/bits.Add64", "math/bits.Sub64", "sync/atomic.AddInt64", "sync/atomic.LoadUint32", "(*internal/sync.Mutex).Lock", "internal/race.Disable", "sync/atomic.CompareAndSwapInt32", "internal/race.Enable", "internal/race.Acquire", "(*internal/sync.Mutex).lockSlow", "internal/sync.runtime_canSpin", "internal/sync.runtime_doSpin", "internal/sync.throw", "internal/sync.runtime_nanotime", "internal/sync.runtime_SemacquireMutex", "sync/atomic.AddInt32", "(*internal/sync.Mutex).Unlock", "internal/race.ReleaseMerge", "(*internal/sync.Mutex).unlockSlow", "internal/sync.fatal", "internal/sync.runtime_Semrelease", "sync/atomic.StoreUint32"], unfollowed := true, recurses := true, apart := false, narrowed := true }
def NewtonrootNoneUptoSaid : Prop := newtonrootNoneUptoRow.holds Try.pinned (OpenSpec.upto newtonrootNoneSpec)

/-- 'radicandlaw19.NewtonNone', WHERE WHAT IT READS IS OF BULK AT MOST 1048576: true; the input reads as it did. -/
def newtonNoneUptoRow : OpenClaim := { program := "ytkkjbkadaofjpaa", sum := "2258f2ff1eaf018c97b2d9da4c2020071b5b79da1e945136459bd5ee8dfe21c6", func := "radicand/radicandlaw19.NewtonNone", spec := "newtonNone", inPlace := ["sync/atomic.AddInt64", "sync/atomic.LoadUint32", "(*internal/sync.Mutex).Lock", "internal/race.Disable", "sync/atomic.CompareAndSwapInt32", "internal/race.Enable", "internal/race.Acquire", "(*internal/sync.Mutex).lockSlow", "internal/sync.runtime_canSpin", "internal/sync.runtime_doSpin", "internal/sync.throw", "internal/sync.runtime_nanotime", "internal/sync.runtime_SemacquireMutex", "sync/atomic.AddInt32", "(*internal/sync.Mutex).Unlock", "internal/race.ReleaseMerge", "(*internal/sync.Mutex).unlockSlow", "internal/sync.fatal", "internal/sync.runtime_Semrelease", "sync/atomic.StoreUint32", "math/bits.Add64", "math/bits.Sub64"], unfollowed := true, recurses := true, apart := false, narrowed := true }
def NewtonNoneUptoSaid : Prop := newtonNoneUptoRow.holds Try.pinned (OpenSpec.upto newtonNoneSpec)

end Rows
end Go.Proofs.Ytkkjbkadaofjpaa
