/-
  No cell of these rows narrows 'for every input' (looked for: loops, veiled, ifaces, maps, wideKeys, modest, calm, conditions, laid).
  DERIVED. THE GIVEN ROWS OF THIS SEAT. 12 by the template 'for every input the law returns true; each argument reads behind the call as it read before'; 0 by the template 'total and deterministic' (their statements: YtegmmaaapdgocaaGreatTotals.lean).
  GIVEN WITH THE SEED: the statements are not yours to turn. If you find one false, say at which input.
  Laid BY PROGRAM, IN A SANDBOX (cutbox-rows.mjs): the forced cells as the released guide's own fill.sh prints them over the translation e04446e75af27518… (all of the seat's roots in one cut). By AI agents, Wed Nov 11 2026. No macro, syntax, notation, axiom, sorry.
-/
import Derived.Test.YtegmmaaapdgocaaGreatChecked
import GoSem.Claim
import GoSem.ClaimJoined
import GoSem.ClaimMapViews
import Derived.JoinedTies
import Derived.KernelRfl
namespace Go.Proofs.YtegmmaaapdgocaaGreat
/- THE CELL 'sum', in the pinned program and in every row, IS THE sha256 OF THE DUMP (.gsa) THAT YtegmmaaapdgocaaGreatProg.lean LOADS. Nothing in Lean hashes anything: it is a label: what it is worth is what the hold of that sum in a sandbox is worth. -/
noncomputable def Tryz.pinned : Pinned := { name := "ytegmmaaapdgocaagreat", sum := "e04446e75af27518a47aee970c92c048f5494c7f389759f2bcbd75f7e4fef255", checked := Tryz.checked }
namespace Rows
def none {H : Type} : Left H := { results := [], args := [] }

/-- 'radicandlaw20.NewtonrootRoots': WHATEVER THE INPUT: true; the input reads as it did. -/
def newtonrootRootsSpec : ChangeSpec := { name := "newtonrootRoots", fn := fun _ => fun
  | [d] => { results := [.lit (.bool true)], args := [d] }
  | _ => none }
def newtonrootRootsRow : OpenClaim := { program := "ytegmmaaapdgocaagreat", sum := "e04446e75af27518a47aee970c92c048f5494c7f389759f2bcbd75f7e4fef255", func := "radicand/radicandlaw20.NewtonrootRoots", spec := "newtonrootRoots", inPlace := ["math/bits.Add64", "math/bits.Sub64", "sync/atomic.AddInt64", "sync/atomic.LoadUint32", "(*internal/sync.Mutex).Lock", "internal/race.Disable", "sync/atomic.CompareAndSwapInt32", "internal/race.Enable", "internal/race.Acquire", "(*internal/sync.Mutex).lockSlow", "internal/sync.runtime_canSpin", "internal/sync.runtime_doSpin", "internal/sync.throw", "internal/sync.runtime_nanotime", "internal/sync.runtime_SemacquireMutex", "sync/atomic.AddInt32", "(*internal/sync.Mutex).Unlock", "internal/race.ReleaseMerge", "(*internal/sync.Mutex).unlockSlow", "internal/sync.fatal", "internal/sync.runtime_Semrelease", "sync/atomic.StoreUint32"], unfollowed := true, recurses := true, apart := false }
def NewtonrootRootsSaid : Prop := newtonrootRootsRow.holds Tryz.pinned (OpenSpec.ofChange newtonrootRootsSpec)

/-- ITS FALSE NEIGHBOUR: 'it returns false'. Refute it at one input. -/
def newtonrootRootsWrong : ChangeSpec := { name := "newtonrootRoots", fn := fun _ => fun
  | [d] => { results := [.lit (.bool false)], args := [d] }
  | _ => none }
def NewtonrootRootsWrongFalsely : Prop := newtonrootRootsRow.holds Tryz.pinned (OpenSpec.ofChange newtonrootRootsWrong)

/-- 'radicandlaw19.NewtonDivides': WHATEVER THE INPUT: true; the input reads as it did. -/
def newtonDividesSpec : ChangeSpec := { name := "newtonDivides", fn := fun _ => fun
  | [d1, d2] => { results := [.lit (.bool true)], args := [d1, d2] }
  | _ => none }
def newtonDividesRow : OpenClaim := { program := "ytegmmaaapdgocaagreat", sum := "e04446e75af27518a47aee970c92c048f5494c7f389759f2bcbd75f7e4fef255", func := "radicand/radicandlaw19.NewtonDivides", spec := "newtonDivides", inPlace := ["sync/atomic.AddInt64", "sync/atomic.LoadUint32", "(*internal/sync.Mutex).Lock", "internal/race.Disable", "sync/atomic.CompareAndSwapInt32", "internal/race.Enable", "internal/race.Acquire", "(*internal/sync.Mutex).lockSlow", "internal/sync.runtime_canSpin", "internal/sync.runtime_doSpin", "internal/sync.throw", "internal/sync.runtime_nanotime", "internal/sync.runtime_SemacquireMutex", "sync/atomic.AddInt32", "(*internal/sync.Mutex).Unlock", "internal/race.ReleaseMerge", "(*internal/sync.Mutex).unlockSlow", "internal/sync.fatal", "internal/sync.runtime_Semrelease", "sync/atomic.StoreUint32", "math/bits.Add64", "math/bits.Sub64"], unfollowed := true, recurses := true, apart := false }
def NewtonDividesSaid : Prop := newtonDividesRow.holds Tryz.pinned (OpenSpec.ofChange newtonDividesSpec)

/-- ITS FALSE NEIGHBOUR: 'it returns false'. Refute it at one input. -/
def newtonDividesWrong : ChangeSpec := { name := "newtonDivides", fn := fun _ => fun
  | [d1, d2] => { results := [.lit (.bool false)], args := [d1, d2] }
  | _ => none }
def NewtonDividesWrongFalsely : Prop := newtonDividesRow.holds Tryz.pinned (OpenSpec.ofChange newtonDividesWrong)

/-- 'radicandlaw22.GoldrootRoots': WHATEVER THE INPUT: true; the input reads as it did. -/
def goldrootRootsSpec : ChangeSpec := { name := "goldrootRoots", fn := fun _ => fun
  | [d] => { results := [.lit (.bool true)], args := [d] }
  | _ => none }
def goldrootRootsRow : OpenClaim := { program := "ytegmmaaapdgocaagreat", sum := "e04446e75af27518a47aee970c92c048f5494c7f389759f2bcbd75f7e4fef255", func := "radicand/radicandlaw22.GoldrootRoots", spec := "goldrootRoots", inPlace := ["sync/atomic.AddInt64", "sync/atomic.LoadUint32", "(*internal/sync.Mutex).Lock", "internal/race.Disable", "sync/atomic.CompareAndSwapInt32", "internal/race.Enable", "internal/race.Acquire", "(*internal/sync.Mutex).lockSlow", "internal/sync.runtime_canSpin", "internal/sync.runtime_doSpin", "internal/sync.throw", "internal/sync.runtime_nanotime", "internal/sync.runtime_SemacquireMutex", "sync/atomic.AddInt32", "(*internal/sync.Mutex).Unlock", "internal/race.ReleaseMerge", "(*internal/sync.Mutex).unlockSlow", "internal/sync.fatal", "internal/sync.runtime_Semrelease", "sync/atomic.StoreUint32", "math/bits.Add64", "math/bits.Sub64"], unfollowed := true, recurses := true, apart := false }
def GoldrootRootsSaid : Prop := goldrootRootsRow.holds Tryz.pinned (OpenSpec.ofChange goldrootRootsSpec)

/-- ITS FALSE NEIGHBOUR: 'it returns false'. Refute it at one input. -/
def goldrootRootsWrong : ChangeSpec := { name := "goldrootRoots", fn := fun _ => fun
  | [d] => { results := [.lit (.bool false)], args := [d] }
  | _ => none }
def GoldrootRootsWrongFalsely : Prop := goldrootRootsRow.holds Tryz.pinned (OpenSpec.ofChange goldrootRootsWrong)

/-- 'radicandlaw20.NewtonrootGuesses': WHATEVER THE INPUT: true; the input reads as it did. -/
def newtonrootGuessesSpec : ChangeSpec := { name := "newtonrootGuesses", fn := fun _ => fun
  | [d] => { results := [.lit (.bool true)], args := [d] }
  | _ => none }
def newtonrootGuessesRow : OpenClaim := { program := "ytegmmaaapdgocaagreat", sum := "e04446e75af27518a47aee970c92c048f5494c7f389759f2bcbd75f7e4fef255", func := "radicand/radicandlaw20.NewtonrootGuesses", spec := "newtonrootGuesses", inPlace := ["math/bits.Add64", "math/bits.Sub64", "sync/atomic.AddInt64", "sync/atomic.LoadUint32", "(*internal/sync.Mutex).Lock", "internal/race.Disable", "sync/atomic.CompareAndSwapInt32", "internal/race.Enable", "internal/race.Acquire", "(*internal/sync.Mutex).lockSlow", "internal/sync.runtime_canSpin", "internal/sync.runtime_doSpin", "internal/sync.throw", "internal/sync.runtime_nanotime", "internal/sync.runtime_SemacquireMutex", "sync/atomic.AddInt32", "(*internal/sync.Mutex).Unlock", "internal/race.ReleaseMerge", "(*internal/sync.Mutex).unlockSlow", "internal/sync.fatal", "internal/sync.runtime_Semrelease", "sync/atomic.StoreUint32"], unfollowed := true, recurses := true, apart := false }
def NewtonrootGuessesSaid : Prop := newtonrootGuessesRow.holds Tryz.pinned (OpenSpec.ofChange newtonrootGuessesSpec)

/-- ITS FALSE NEIGHBOUR: 'it returns false'. Refute it at one input. -/
def newtonrootGuessesWrong : ChangeSpec := { name := "newtonrootGuesses", fn := fun _ => fun
  | [d] => { results := [.lit (.bool false)], args := [d] }
  | _ => none }
def NewtonrootGuessesWrongFalsely : Prop := newtonrootGuessesRow.holds Tryz.pinned (OpenSpec.ofChange newtonrootGuessesWrong)

/-- 'radicandlaw22.GoldrootPairs': WHATEVER THE INPUT: true; the input reads as it did. -/
def goldrootPairsSpec : ChangeSpec := { name := "goldrootPairs", fn := fun _ => fun
  | [d1, d2] => { results := [.lit (.bool true)], args := [d1, d2] }
  | _ => none }
def goldrootPairsRow : OpenClaim := { program := "ytegmmaaapdgocaagreat", sum := "e04446e75af27518a47aee970c92c048f5494c7f389759f2bcbd75f7e4fef255", func := "radicand/radicandlaw22.GoldrootPairs", spec := "goldrootPairs", inPlace := ["sync/atomic.AddInt64", "sync/atomic.LoadUint32", "(*internal/sync.Mutex).Lock", "internal/race.Disable", "sync/atomic.CompareAndSwapInt32", "internal/race.Enable", "internal/race.Acquire", "(*internal/sync.Mutex).lockSlow", "internal/sync.runtime_canSpin", "internal/sync.runtime_doSpin", "internal/sync.throw", "internal/sync.runtime_nanotime", "internal/sync.runtime_SemacquireMutex", "sync/atomic.AddInt32", "(*internal/sync.Mutex).Unlock", "internal/race.ReleaseMerge", "(*internal/sync.Mutex).unlockSlow", "internal/sync.fatal", "internal/sync.runtime_Semrelease", "sync/atomic.StoreUint32", "math/bits.Add64", "math/bits.Sub64"], unfollowed := true, recurses := true, apart := false }
def GoldrootPairsSaid : Prop := goldrootPairsRow.holds Tryz.pinned (OpenSpec.ofChange goldrootPairsSpec)

/-- ITS FALSE NEIGHBOUR: 'it returns false'. Refute it at one input. -/
def goldrootPairsWrong : ChangeSpec := { name := "goldrootPairs", fn := fun _ => fun
  | [d1, d2] => { results := [.lit (.bool false)], args := [d1, d2] }
  | _ => none }
def GoldrootPairsWrongFalsely : Prop := goldrootPairsRow.holds Tryz.pinned (OpenSpec.ofChange goldrootPairsWrong)

/-- 'radicandlaw22.GoldrootNear': WHATEVER THE INPUT: true; the input reads as it did. -/
def goldrootNearSpec : ChangeSpec := { name := "goldrootNear", fn := fun _ => fun
  | [d] => { results := [.lit (.bool true)], args := [d] }
  | _ => none }
def goldrootNearRow : OpenClaim := { program := "ytegmmaaapdgocaagreat", sum := "e04446e75af27518a47aee970c92c048f5494c7f389759f2bcbd75f7e4fef255", func := "radicand/radicandlaw22.GoldrootNear", spec := "goldrootNear", inPlace := ["sync/atomic.AddInt64", "sync/atomic.LoadUint32", "(*internal/sync.Mutex).Lock", "internal/race.Disable", "sync/atomic.CompareAndSwapInt32", "internal/race.Enable", "internal/race.Acquire", "(*internal/sync.Mutex).lockSlow", "internal/sync.runtime_canSpin", "internal/sync.runtime_doSpin", "internal/sync.throw", "internal/sync.runtime_nanotime", "internal/sync.runtime_SemacquireMutex", "sync/atomic.AddInt32", "(*internal/sync.Mutex).Unlock", "internal/race.ReleaseMerge", "(*internal/sync.Mutex).unlockSlow", "internal/sync.fatal", "internal/sync.runtime_Semrelease", "sync/atomic.StoreUint32", "math/bits.Add64", "math/bits.Sub64"], unfollowed := true, recurses := true, apart := false }
def GoldrootNearSaid : Prop := goldrootNearRow.holds Tryz.pinned (OpenSpec.ofChange goldrootNearSpec)

/-- ITS FALSE NEIGHBOUR: 'it returns false'. Refute it at one input. -/
def goldrootNearWrong : ChangeSpec := { name := "goldrootNear", fn := fun _ => fun
  | [d] => { results := [.lit (.bool false)], args := [d] }
  | _ => none }
def GoldrootNearWrongFalsely : Prop := goldrootNearRow.holds Tryz.pinned (OpenSpec.ofChange goldrootNearWrong)

/-- 'radicandlaw19.NewtonGuesses': WHATEVER THE INPUT: true; the input reads as it did. -/
def newtonGuessesSpec : ChangeSpec := { name := "newtonGuesses", fn := fun _ => fun
  | [d1, d2] => { results := [.lit (.bool true)], args := [d1, d2] }
  | _ => none }
def newtonGuessesRow : OpenClaim := { program := "ytegmmaaapdgocaagreat", sum := "e04446e75af27518a47aee970c92c048f5494c7f389759f2bcbd75f7e4fef255", func := "radicand/radicandlaw19.NewtonGuesses", spec := "newtonGuesses", inPlace := ["sync/atomic.AddInt64", "sync/atomic.LoadUint32", "(*internal/sync.Mutex).Lock", "internal/race.Disable", "sync/atomic.CompareAndSwapInt32", "internal/race.Enable", "internal/race.Acquire", "(*internal/sync.Mutex).lockSlow", "internal/sync.runtime_canSpin", "internal/sync.runtime_doSpin", "internal/sync.throw", "internal/sync.runtime_nanotime", "internal/sync.runtime_SemacquireMutex", "sync/atomic.AddInt32", "(*internal/sync.Mutex).Unlock", "internal/race.ReleaseMerge", "(*internal/sync.Mutex).unlockSlow", "internal/sync.fatal", "internal/sync.runtime_Semrelease", "sync/atomic.StoreUint32", "math/bits.Add64", "math/bits.Sub64"], unfollowed := true, recurses := true, apart := false }
def NewtonGuessesSaid : Prop := newtonGuessesRow.holds Tryz.pinned (OpenSpec.ofChange newtonGuessesSpec)

/-- ITS FALSE NEIGHBOUR: 'it returns false'. Refute it at one input. -/
def newtonGuessesWrong : ChangeSpec := { name := "newtonGuesses", fn := fun _ => fun
  | [d1, d2] => { results := [.lit (.bool false)], args := [d1, d2] }
  | _ => none }
def NewtonGuessesWrongFalsely : Prop := newtonGuessesRow.holds Tryz.pinned (OpenSpec.ofChange newtonGuessesWrong)

/-- 'radicandlaw21.GoldDivides': WHATEVER THE INPUT: true; the input reads as it did. -/
def goldDividesSpec : ChangeSpec := { name := "goldDivides", fn := fun _ => fun
  | [d1, d2] => { results := [.lit (.bool true)], args := [d1, d2] }
  | _ => none }
def goldDividesRow : OpenClaim := { program := "ytegmmaaapdgocaagreat", sum := "e04446e75af27518a47aee970c92c048f5494c7f389759f2bcbd75f7e4fef255", func := "radicand/radicandlaw21.GoldDivides", spec := "goldDivides", inPlace := ["sync/atomic.AddInt64", "sync/atomic.LoadUint32", "(*internal/sync.Mutex).Lock", "internal/race.Disable", "sync/atomic.CompareAndSwapInt32", "internal/race.Enable", "internal/race.Acquire", "(*internal/sync.Mutex).lockSlow", "internal/sync.runtime_canSpin", "internal/sync.runtime_doSpin", "internal/sync.throw", "internal/sync.runtime_nanotime", "internal/sync.runtime_SemacquireMutex", "sync/atomic.AddInt32", "(*internal/sync.Mutex).Unlock", "internal/race.ReleaseMerge", "(*internal/sync.Mutex).unlockSlow", "internal/sync.fatal", "internal/sync.runtime_Semrelease", "sync/atomic.StoreUint32", "math/bits.Add64", "math/bits.Sub64"], unfollowed := true, recurses := true, apart := false }
def GoldDividesSaid : Prop := goldDividesRow.holds Tryz.pinned (OpenSpec.ofChange goldDividesSpec)

/-- ITS FALSE NEIGHBOUR: 'it returns false'. Refute it at one input. -/
def goldDividesWrong : ChangeSpec := { name := "goldDivides", fn := fun _ => fun
  | [d1, d2] => { results := [.lit (.bool false)], args := [d1, d2] }
  | _ => none }
def GoldDividesWrongFalsely : Prop := goldDividesRow.holds Tryz.pinned (OpenSpec.ofChange goldDividesWrong)

/-- 'radicandlaw21.GoldPairs': WHATEVER THE INPUT: true; the input reads as it did. -/
def goldPairsSpec : ChangeSpec := { name := "goldPairs", fn := fun _ => fun
  | [d1, d2, d3] => { results := [.lit (.bool true)], args := [d1, d2, d3] }
  | _ => none }
def goldPairsRow : OpenClaim := { program := "ytegmmaaapdgocaagreat", sum := "e04446e75af27518a47aee970c92c048f5494c7f389759f2bcbd75f7e4fef255", func := "radicand/radicandlaw21.GoldPairs", spec := "goldPairs", inPlace := ["sync/atomic.AddInt64", "sync/atomic.LoadUint32", "(*internal/sync.Mutex).Lock", "internal/race.Disable", "sync/atomic.CompareAndSwapInt32", "internal/race.Enable", "internal/race.Acquire", "(*internal/sync.Mutex).lockSlow", "internal/sync.runtime_canSpin", "internal/sync.runtime_doSpin", "internal/sync.throw", "internal/sync.runtime_nanotime", "internal/sync.runtime_SemacquireMutex", "sync/atomic.AddInt32", "(*internal/sync.Mutex).Unlock", "internal/race.ReleaseMerge", "(*internal/sync.Mutex).unlockSlow", "internal/sync.fatal", "internal/sync.runtime_Semrelease", "sync/atomic.StoreUint32", "math/bits.Add64", "math/bits.Sub64"], unfollowed := true, recurses := true, apart := false }
def GoldPairsSaid : Prop := goldPairsRow.holds Tryz.pinned (OpenSpec.ofChange goldPairsSpec)

/-- ITS FALSE NEIGHBOUR: 'it returns false'. Refute it at one input. -/
def goldPairsWrong : ChangeSpec := { name := "goldPairs", fn := fun _ => fun
  | [d1, d2, d3] => { results := [.lit (.bool false)], args := [d1, d2, d3] }
  | _ => none }
def GoldPairsWrongFalsely : Prop := goldPairsRow.holds Tryz.pinned (OpenSpec.ofChange goldPairsWrong)

/-- 'radicandlaw21.GoldNear': WHATEVER THE INPUT: true; the input reads as it did. -/
def goldNearSpec : ChangeSpec := { name := "goldNear", fn := fun _ => fun
  | [d1, d2] => { results := [.lit (.bool true)], args := [d1, d2] }
  | _ => none }
def goldNearRow : OpenClaim := { program := "ytegmmaaapdgocaagreat", sum := "e04446e75af27518a47aee970c92c048f5494c7f389759f2bcbd75f7e4fef255", func := "radicand/radicandlaw21.GoldNear", spec := "goldNear", inPlace := ["sync/atomic.AddInt64", "sync/atomic.LoadUint32", "(*internal/sync.Mutex).Lock", "internal/race.Disable", "sync/atomic.CompareAndSwapInt32", "internal/race.Enable", "internal/race.Acquire", "(*internal/sync.Mutex).lockSlow", "internal/sync.runtime_canSpin", "internal/sync.runtime_doSpin", "internal/sync.throw", "internal/sync.runtime_nanotime", "internal/sync.runtime_SemacquireMutex", "sync/atomic.AddInt32", "(*internal/sync.Mutex).Unlock", "internal/race.ReleaseMerge", "(*internal/sync.Mutex).unlockSlow", "internal/sync.fatal", "internal/sync.runtime_Semrelease", "sync/atomic.StoreUint32", "math/bits.Add64", "math/bits.Sub64"], unfollowed := true, recurses := true, apart := false }
def GoldNearSaid : Prop := goldNearRow.holds Tryz.pinned (OpenSpec.ofChange goldNearSpec)

/-- ITS FALSE NEIGHBOUR: 'it returns false'. Refute it at one input. -/
def goldNearWrong : ChangeSpec := { name := "goldNear", fn := fun _ => fun
  | [d1, d2] => { results := [.lit (.bool false)], args := [d1, d2] }
  | _ => none }
def GoldNearWrongFalsely : Prop := goldNearRow.holds Tryz.pinned (OpenSpec.ofChange goldNearWrong)

/-- 'radicandlaw20.NewtonrootReciprocals': WHATEVER THE INPUT: true; the input reads as it did. -/
def newtonrootReciprocalsSpec : ChangeSpec := { name := "newtonrootReciprocals", fn := fun _ => fun
  | [d1, d2] => { results := [.lit (.bool true)], args := [d1, d2] }
  | _ => none }
def newtonrootReciprocalsRow : OpenClaim := { program := "ytegmmaaapdgocaagreat", sum := "e04446e75af27518a47aee970c92c048f5494c7f389759f2bcbd75f7e4fef255", func := "radicand/radicandlaw20.NewtonrootReciprocals", spec := "newtonrootReciprocals", inPlace := ["math/bits.Add64", "math/bits.Sub64", "sync/atomic.AddInt64", "sync/atomic.LoadUint32", "(*internal/sync.Mutex).Lock", "internal/race.Disable", "sync/atomic.CompareAndSwapInt32", "internal/race.Enable", "internal/race.Acquire", "(*internal/sync.Mutex).lockSlow", "internal/sync.runtime_canSpin", "internal/sync.runtime_doSpin", "internal/sync.throw", "internal/sync.runtime_nanotime", "internal/sync.runtime_SemacquireMutex", "sync/atomic.AddInt32", "(*internal/sync.Mutex).Unlock", "internal/race.ReleaseMerge", "(*internal/sync.Mutex).unlockSlow", "internal/sync.fatal", "internal/sync.runtime_Semrelease", "sync/atomic.StoreUint32"], unfollowed := true, recurses := true, apart := false }
def NewtonrootReciprocalsSaid : Prop := newtonrootReciprocalsRow.holds Tryz.pinned (OpenSpec.ofChange newtonrootReciprocalsSpec)

/-- ITS FALSE NEIGHBOUR: 'it returns false'. Refute it at one input. -/
def newtonrootReciprocalsWrong : ChangeSpec := { name := "newtonrootReciprocals", fn := fun _ => fun
  | [d1, d2] => { results := [.lit (.bool false)], args := [d1, d2] }
  | _ => none }
def NewtonrootReciprocalsWrongFalsely : Prop := newtonrootReciprocalsRow.holds Tryz.pinned (OpenSpec.ofChange newtonrootReciprocalsWrong)

/-- 'radicandlaw19.NewtonReciprocals': WHATEVER THE INPUT: true; the input reads as it did. -/
def newtonReciprocalsSpec : ChangeSpec := { name := "newtonReciprocals", fn := fun _ => fun
  | [d1, d2] => { results := [.lit (.bool true)], args := [d1, d2] }
  | _ => none }
def newtonReciprocalsRow : OpenClaim := { program := "ytegmmaaapdgocaagreat", sum := "e04446e75af27518a47aee970c92c048f5494c7f389759f2bcbd75f7e4fef255", func := "radicand/radicandlaw19.NewtonReciprocals", spec := "newtonReciprocals", inPlace := ["sync/atomic.AddInt64", "sync/atomic.LoadUint32", "(*internal/sync.Mutex).Lock", "internal/race.Disable", "sync/atomic.CompareAndSwapInt32", "internal/race.Enable", "internal/race.Acquire", "(*internal/sync.Mutex).lockSlow", "internal/sync.runtime_canSpin", "internal/sync.runtime_doSpin", "internal/sync.throw", "internal/sync.runtime_nanotime", "internal/sync.runtime_SemacquireMutex", "sync/atomic.AddInt32", "(*internal/sync.Mutex).Unlock", "internal/race.ReleaseMerge", "(*internal/sync.Mutex).unlockSlow", "internal/sync.fatal", "internal/sync.runtime_Semrelease", "sync/atomic.StoreUint32", "math/bits.Add64", "math/bits.Sub64"], unfollowed := true, recurses := true, apart := false }
def NewtonReciprocalsSaid : Prop := newtonReciprocalsRow.holds Tryz.pinned (OpenSpec.ofChange newtonReciprocalsSpec)

/-- ITS FALSE NEIGHBOUR: 'it returns false'. Refute it at one input. -/
def newtonReciprocalsWrong : ChangeSpec := { name := "newtonReciprocals", fn := fun _ => fun
  | [d1, d2] => { results := [.lit (.bool false)], args := [d1, d2] }
  | _ => none }
def NewtonReciprocalsWrongFalsely : Prop := newtonReciprocalsRow.holds Tryz.pinned (OpenSpec.ofChange newtonReciprocalsWrong)

/- THE SECOND FORM. 'bulk': how many values and letters a reading holds, each counted each time it is reached (what is shared counts as often as it is met; a slice's spare places count too). A statement '..UptoSaid' is the law's where the arguments, and the package variables that the reading takes, are together of bulk at most 1048576: NARROWER than '..Said'. Prove '..Said' where nothing that the law and all that it calls make is longer than what came in: it says more and counts as full. Else prove '..UptoSaid'. A law counts once. -/
mutual
def uptoBulk {H : Type} : DataW H → Nat
  | .lit (.string bytes) => bytes.length + 1
  | .lit _ => 1
  | .nil => 1
  | .ptr d => uptoBulk d + 1
  | .slice elems spare => uptoBulkAll elems + uptoBulkAll spare + 1
  | .agg parts => uptoBulkAll parts + 1
  | .iface _ d => uptoBulk d + 1
  | .map entries => uptoBulkEntries entries + 1
  | .held _ => 1
def uptoBulkAll {H : Type} : List (DataW H) → Nat
  | [] => 0
  | d :: r => uptoBulk d + uptoBulkAll r
def uptoBulkEntries {H : Type} : List (Lit × DataW H) → Nat
  | [] => 0
  | x :: r => uptoBulkEntry x + uptoBulkEntries r
def uptoBulkEntry {H : Type} : Lit × DataW H → Nat
  | (.string bytes, d) => bytes.length + uptoBulk d + 1
  | (_, d) => uptoBulk d + 1
 end
def uptoSmall : (H : Type) → List (DataW H) → Bool := fun _ ds => decide (uptoBulkAll ds ≤ 1048576)
def OpenSpec.upto (s : _root_.Go.ChangeSpec) : _root_.Go.OpenSpec := { _root_.Go.OpenSpec.ofChange s with cond := some uptoSmall }

/-- 'radicandlaw20.NewtonrootRoots', WHERE WHAT IT READS IS OF BULK AT MOST 1048576: true; the input reads as it did. -/
def newtonrootRootsUptoRow : OpenClaim := { program := "ytegmmaaapdgocaagreat", sum := "e04446e75af27518a47aee970c92c048f5494c7f389759f2bcbd75f7e4fef255", func := "radicand/radicandlaw20.NewtonrootRoots", spec := "newtonrootRoots", inPlace := ["math/bits.Add64", "math/bits.Sub64", "sync/atomic.AddInt64", "sync/atomic.LoadUint32", "(*internal/sync.Mutex).Lock", "internal/race.Disable", "sync/atomic.CompareAndSwapInt32", "internal/race.Enable", "internal/race.Acquire", "(*internal/sync.Mutex).lockSlow", "internal/sync.runtime_canSpin", "internal/sync.runtime_doSpin", "internal/sync.throw", "internal/sync.runtime_nanotime", "internal/sync.runtime_SemacquireMutex", "sync/atomic.AddInt32", "(*internal/sync.Mutex).Unlock", "internal/race.ReleaseMerge", "(*internal/sync.Mutex).unlockSlow", "internal/sync.fatal", "internal/sync.runtime_Semrelease", "sync/atomic.StoreUint32"], unfollowed := true, recurses := true, apart := false, narrowed := true }
def NewtonrootRootsUptoSaid : Prop := newtonrootRootsUptoRow.holds Tryz.pinned (OpenSpec.upto newtonrootRootsSpec)

/-- 'radicandlaw19.NewtonDivides', WHERE WHAT IT READS IS OF BULK AT MOST 1048576: true; the input reads as it did. -/
def newtonDividesUptoRow : OpenClaim := { program := "ytegmmaaapdgocaagreat", sum := "e04446e75af27518a47aee970c92c048f5494c7f389759f2bcbd75f7e4fef255", func := "radicand/radicandlaw19.NewtonDivides", spec := "newtonDivides", inPlace := ["sync/atomic.AddInt64", "sync/atomic.LoadUint32", "(*internal/sync.Mutex).Lock", "internal/race.Disable", "sync/atomic.CompareAndSwapInt32", "internal/race.Enable", "internal/race.Acquire", "(*internal/sync.Mutex).lockSlow", "internal/sync.runtime_canSpin", "internal/sync.runtime_doSpin", "internal/sync.throw", "internal/sync.runtime_nanotime", "internal/sync.runtime_SemacquireMutex", "sync/atomic.AddInt32", "(*internal/sync.Mutex).Unlock", "internal/race.ReleaseMerge", "(*internal/sync.Mutex).unlockSlow", "internal/sync.fatal", "internal/sync.runtime_Semrelease", "sync/atomic.StoreUint32", "math/bits.Add64", "math/bits.Sub64"], unfollowed := true, recurses := true, apart := false, narrowed := true }
def NewtonDividesUptoSaid : Prop := newtonDividesUptoRow.holds Tryz.pinned (OpenSpec.upto newtonDividesSpec)

/-- 'radicandlaw22.GoldrootRoots', WHERE WHAT IT READS IS OF BULK AT MOST 1048576: true; the input reads as it did. -/
def goldrootRootsUptoRow : OpenClaim := { program := "ytegmmaaapdgocaagreat", sum := "e04446e75af27518a47aee970c92c048f5494c7f389759f2bcbd75f7e4fef255", func := "radicand/radicandlaw22.GoldrootRoots", spec := "goldrootRoots", inPlace := ["sync/atomic.AddInt64", "sync/atomic.LoadUint32", "(*internal/sync.Mutex).Lock", "internal/race.Disable", "sync/atomic.CompareAndSwapInt32", "internal/race.Enable", "internal/race.Acquire", "(*internal/sync.Mutex).lockSlow", "internal/sync.runtime_canSpin", "internal/sync.runtime_doSpin", "internal/sync.throw", "internal/sync.runtime_nanotime", "internal/sync.runtime_SemacquireMutex", "sync/atomic.AddInt32", "(*internal/sync.Mutex).Unlock", "internal/race.ReleaseMerge", "(*internal/sync.Mutex).unlockSlow", "internal/sync.fatal", "internal/sync.runtime_Semrelease", "sync/atomic.StoreUint32", "math/bits.Add64", "math/bits.Sub64"], unfollowed := true, recurses := true, apart := false, narrowed := true }
def GoldrootRootsUptoSaid : Prop := goldrootRootsUptoRow.holds Tryz.pinned (OpenSpec.upto goldrootRootsSpec)

/-- 'radicandlaw20.NewtonrootGuesses', WHERE WHAT IT READS IS OF BULK AT MOST 1048576: true; the input reads as it did. -/
def newtonrootGuessesUptoRow : OpenClaim := { program := "ytegmmaaapdgocaagreat", sum := "e04446e75af27518a47aee970c92c048f5494c7f389759f2bcbd75f7e4fef255", func := "radicand/radicandlaw20.NewtonrootGuesses", spec := "newtonrootGuesses", inPlace := ["math/bits.Add64", "math/bits.Sub64", "sync/atomic.AddInt64", "sync/atomic.LoadUint32", "(*internal/sync.Mutex).Lock", "internal/race.Disable", "sync/atomic.CompareAndSwapInt32", "internal/race.Enable", "internal/race.Acquire", "(*internal/sync.Mutex).lockSlow", "internal/sync.runtime_canSpin", "internal/sync.runtime_doSpin", "internal/sync.throw", "internal/sync.runtime_nanotime", "internal/sync.runtime_SemacquireMutex", "sync/atomic.AddInt32", "(*internal/sync.Mutex).Unlock", "internal/race.ReleaseMerge", "(*internal/sync.Mutex).unlockSlow", "internal/sync.fatal", "internal/sync.runtime_Semrelease", "sync/atomic.StoreUint32"], unfollowed := true, recurses := true, apart := false, narrowed := true }
def NewtonrootGuessesUptoSaid : Prop := newtonrootGuessesUptoRow.holds Tryz.pinned (OpenSpec.upto newtonrootGuessesSpec)

/-- 'radicandlaw22.GoldrootPairs', WHERE WHAT IT READS IS OF BULK AT MOST 1048576: true; the input reads as it did. -/
def goldrootPairsUptoRow : OpenClaim := { program := "ytegmmaaapdgocaagreat", sum := "e04446e75af27518a47aee970c92c048f5494c7f389759f2bcbd75f7e4fef255", func := "radicand/radicandlaw22.GoldrootPairs", spec := "goldrootPairs", inPlace := ["sync/atomic.AddInt64", "sync/atomic.LoadUint32", "(*internal/sync.Mutex).Lock", "internal/race.Disable", "sync/atomic.CompareAndSwapInt32", "internal/race.Enable", "internal/race.Acquire", "(*internal/sync.Mutex).lockSlow", "internal/sync.runtime_canSpin", "internal/sync.runtime_doSpin", "internal/sync.throw", "internal/sync.runtime_nanotime", "internal/sync.runtime_SemacquireMutex", "sync/atomic.AddInt32", "(*internal/sync.Mutex).Unlock", "internal/race.ReleaseMerge", "(*internal/sync.Mutex).unlockSlow", "internal/sync.fatal", "internal/sync.runtime_Semrelease", "sync/atomic.StoreUint32", "math/bits.Add64", "math/bits.Sub64"], unfollowed := true, recurses := true, apart := false, narrowed := true }
def GoldrootPairsUptoSaid : Prop := goldrootPairsUptoRow.holds Tryz.pinned (OpenSpec.upto goldrootPairsSpec)

/-- 'radicandlaw22.GoldrootNear', WHERE WHAT IT READS IS OF BULK AT MOST 1048576: true; the input reads as it did. -/
def goldrootNearUptoRow : OpenClaim := { program := "ytegmmaaapdgocaagreat", sum := "e04446e75af27518a47aee970c92c048f5494c7f389759f2bcbd75f7e4fef255", func := "radicand/radicandlaw22.GoldrootNear", spec := "goldrootNear", inPlace := ["sync/atomic.AddInt64", "sync/atomic.LoadUint32", "(*internal/sync.Mutex).Lock", "internal/race.Disable", "sync/atomic.CompareAndSwapInt32", "internal/race.Enable", "internal/race.Acquire", "(*internal/sync.Mutex).lockSlow", "internal/sync.runtime_canSpin", "internal/sync.runtime_doSpin", "internal/sync.throw", "internal/sync.runtime_nanotime", "internal/sync.runtime_SemacquireMutex", "sync/atomic.AddInt32", "(*internal/sync.Mutex).Unlock", "internal/race.ReleaseMerge", "(*internal/sync.Mutex).unlockSlow", "internal/sync.fatal", "internal/sync.runtime_Semrelease", "sync/atomic.StoreUint32", "math/bits.Add64", "math/bits.Sub64"], unfollowed := true, recurses := true, apart := false, narrowed := true }
def GoldrootNearUptoSaid : Prop := goldrootNearUptoRow.holds Tryz.pinned (OpenSpec.upto goldrootNearSpec)

/-- 'radicandlaw19.NewtonGuesses', WHERE WHAT IT READS IS OF BULK AT MOST 1048576: true; the input reads as it did. -/
def newtonGuessesUptoRow : OpenClaim := { program := "ytegmmaaapdgocaagreat", sum := "e04446e75af27518a47aee970c92c048f5494c7f389759f2bcbd75f7e4fef255", func := "radicand/radicandlaw19.NewtonGuesses", spec := "newtonGuesses", inPlace := ["sync/atomic.AddInt64", "sync/atomic.LoadUint32", "(*internal/sync.Mutex).Lock", "internal/race.Disable", "sync/atomic.CompareAndSwapInt32", "internal/race.Enable", "internal/race.Acquire", "(*internal/sync.Mutex).lockSlow", "internal/sync.runtime_canSpin", "internal/sync.runtime_doSpin", "internal/sync.throw", "internal/sync.runtime_nanotime", "internal/sync.runtime_SemacquireMutex", "sync/atomic.AddInt32", "(*internal/sync.Mutex).Unlock", "internal/race.ReleaseMerge", "(*internal/sync.Mutex).unlockSlow", "internal/sync.fatal", "internal/sync.runtime_Semrelease", "sync/atomic.StoreUint32", "math/bits.Add64", "math/bits.Sub64"], unfollowed := true, recurses := true, apart := false, narrowed := true }
def NewtonGuessesUptoSaid : Prop := newtonGuessesUptoRow.holds Tryz.pinned (OpenSpec.upto newtonGuessesSpec)

/-- 'radicandlaw21.GoldDivides', WHERE WHAT IT READS IS OF BULK AT MOST 1048576: true; the input reads as it did. -/
def goldDividesUptoRow : OpenClaim := { program := "ytegmmaaapdgocaagreat", sum := "e04446e75af27518a47aee970c92c048f5494c7f389759f2bcbd75f7e4fef255", func := "radicand/radicandlaw21.GoldDivides", spec := "goldDivides", inPlace := ["sync/atomic.AddInt64", "sync/atomic.LoadUint32", "(*internal/sync.Mutex).Lock", "internal/race.Disable", "sync/atomic.CompareAndSwapInt32", "internal/race.Enable", "internal/race.Acquire", "(*internal/sync.Mutex).lockSlow", "internal/sync.runtime_canSpin", "internal/sync.runtime_doSpin", "internal/sync.throw", "internal/sync.runtime_nanotime", "internal/sync.runtime_SemacquireMutex", "sync/atomic.AddInt32", "(*internal/sync.Mutex).Unlock", "internal/race.ReleaseMerge", "(*internal/sync.Mutex).unlockSlow", "internal/sync.fatal", "internal/sync.runtime_Semrelease", "sync/atomic.StoreUint32", "math/bits.Add64", "math/bits.Sub64"], unfollowed := true, recurses := true, apart := false, narrowed := true }
def GoldDividesUptoSaid : Prop := goldDividesUptoRow.holds Tryz.pinned (OpenSpec.upto goldDividesSpec)

/-- 'radicandlaw21.GoldPairs', WHERE WHAT IT READS IS OF BULK AT MOST 1048576: true; the input reads as it did. -/
def goldPairsUptoRow : OpenClaim := { program := "ytegmmaaapdgocaagreat", sum := "e04446e75af27518a47aee970c92c048f5494c7f389759f2bcbd75f7e4fef255", func := "radicand/radicandlaw21.GoldPairs", spec := "goldPairs", inPlace := ["sync/atomic.AddInt64", "sync/atomic.LoadUint32", "(*internal/sync.Mutex).Lock", "internal/race.Disable", "sync/atomic.CompareAndSwapInt32", "internal/race.Enable", "internal/race.Acquire", "(*internal/sync.Mutex).lockSlow", "internal/sync.runtime_canSpin", "internal/sync.runtime_doSpin", "internal/sync.throw", "internal/sync.runtime_nanotime", "internal/sync.runtime_SemacquireMutex", "sync/atomic.AddInt32", "(*internal/sync.Mutex).Unlock", "internal/race.ReleaseMerge", "(*internal/sync.Mutex).unlockSlow", "internal/sync.fatal", "internal/sync.runtime_Semrelease", "sync/atomic.StoreUint32", "math/bits.Add64", "math/bits.Sub64"], unfollowed := true, recurses := true, apart := false, narrowed := true }
def GoldPairsUptoSaid : Prop := goldPairsUptoRow.holds Tryz.pinned (OpenSpec.upto goldPairsSpec)

/-- 'radicandlaw21.GoldNear', WHERE WHAT IT READS IS OF BULK AT MOST 1048576: true; the input reads as it did. -/
def goldNearUptoRow : OpenClaim := { program := "ytegmmaaapdgocaagreat", sum := "e04446e75af27518a47aee970c92c048f5494c7f389759f2bcbd75f7e4fef255", func := "radicand/radicandlaw21.GoldNear", spec := "goldNear", inPlace := ["sync/atomic.AddInt64", "sync/atomic.LoadUint32", "(*internal/sync.Mutex).Lock", "internal/race.Disable", "sync/atomic.CompareAndSwapInt32", "internal/race.Enable", "internal/race.Acquire", "(*internal/sync.Mutex).lockSlow", "internal/sync.runtime_canSpin", "internal/sync.runtime_doSpin", "internal/sync.throw", "internal/sync.runtime_nanotime", "internal/sync.runtime_SemacquireMutex", "sync/atomic.AddInt32", "(*internal/sync.Mutex).Unlock", "internal/race.ReleaseMerge", "(*internal/sync.Mutex).unlockSlow", "internal/sync.fatal", "internal/sync.runtime_Semrelease", "sync/atomic.StoreUint32", "math/bits.Add64", "math/bits.Sub64"], unfollowed := true, recurses := true, apart := false, narrowed := true }
def GoldNearUptoSaid : Prop := goldNearUptoRow.holds Tryz.pinned (OpenSpec.upto goldNearSpec)

/-- 'radicandlaw20.NewtonrootReciprocals', WHERE WHAT IT READS IS OF BULK AT MOST 1048576: true; the input reads as it did. -/
def newtonrootReciprocalsUptoRow : OpenClaim := { program := "ytegmmaaapdgocaagreat", sum := "e04446e75af27518a47aee970c92c048f5494c7f389759f2bcbd75f7e4fef255", func := "radicand/radicandlaw20.NewtonrootReciprocals", spec := "newtonrootReciprocals", inPlace := ["math/bits.Add64", "math/bits.Sub64", "sync/atomic.AddInt64", "sync/atomic.LoadUint32", "(*internal/sync.Mutex).Lock", "internal/race.Disable", "sync/atomic.CompareAndSwapInt32", "internal/race.Enable", "internal/race.Acquire", "(*internal/sync.Mutex).lockSlow", "internal/sync.runtime_canSpin", "internal/sync.runtime_doSpin", "internal/sync.throw", "internal/sync.runtime_nanotime", "internal/sync.runtime_SemacquireMutex", "sync/atomic.AddInt32", "(*internal/sync.Mutex).Unlock", "internal/race.ReleaseMerge", "(*internal/sync.Mutex).unlockSlow", "internal/sync.fatal", "internal/sync.runtime_Semrelease", "sync/atomic.StoreUint32"], unfollowed := true, recurses := true, apart := false, narrowed := true }
def NewtonrootReciprocalsUptoSaid : Prop := newtonrootReciprocalsUptoRow.holds Tryz.pinned (OpenSpec.upto newtonrootReciprocalsSpec)

/-- 'radicandlaw19.NewtonReciprocals', WHERE WHAT IT READS IS OF BULK AT MOST 1048576: true; the input reads as it did. -/
def newtonReciprocalsUptoRow : OpenClaim := { program := "ytegmmaaapdgocaagreat", sum := "e04446e75af27518a47aee970c92c048f5494c7f389759f2bcbd75f7e4fef255", func := "radicand/radicandlaw19.NewtonReciprocals", spec := "newtonReciprocals", inPlace := ["sync/atomic.AddInt64", "sync/atomic.LoadUint32", "(*internal/sync.Mutex).Lock", "internal/race.Disable", "sync/atomic.CompareAndSwapInt32", "internal/race.Enable", "internal/race.Acquire", "(*internal/sync.Mutex).lockSlow", "internal/sync.runtime_canSpin", "internal/sync.runtime_doSpin", "internal/sync.throw", "internal/sync.runtime_nanotime", "internal/sync.runtime_SemacquireMutex", "sync/atomic.AddInt32", "(*internal/sync.Mutex).Unlock", "internal/race.ReleaseMerge", "(*internal/sync.Mutex).unlockSlow", "internal/sync.fatal", "internal/sync.runtime_Semrelease", "sync/atomic.StoreUint32", "math/bits.Add64", "math/bits.Sub64"], unfollowed := true, recurses := true, apart := false, narrowed := true }
def NewtonReciprocalsUptoSaid : Prop := newtonReciprocalsUptoRow.holds Tryz.pinned (OpenSpec.upto newtonReciprocalsSpec)

end Rows
end Go.Proofs.YtegmmaaapdgocaaGreat
