/-
  No cell of these rows narrows 'for every input' (looked for: loops, veiled, ifaces, maps, wideKeys, modest, calm, conditions, laid).
  DERIVED. THE GIVEN ROWS OF THIS SEAT. 4 by the template 'for every input the law returns true; each argument reads behind the call as it read before'; 0 by the template 'total and deterministic' (their statements: YtegmmaaapdgocaaTotals.lean).
  GIVEN WITH THE SEED: the statements are not yours to turn. If you find one false, say at which input.
  Laid BY PROGRAM, IN A SANDBOX (cutbox-rows.mjs): the forced cells as the released guide's own fill.sh prints them over the translation db60a21d34888b7f… (all of the seat's roots in one cut). By AI agents, Wed Nov 11 2026. No macro, syntax, notation, axiom, sorry.
-/
import Derived.Test.YtegmmaaapdgocaaChecked
import GoSem.Claim
import GoSem.ClaimJoined
import GoSem.ClaimMapViews
import Derived.JoinedTies
import Derived.KernelRfl
namespace Go.Proofs.Ytegmmaaapdgocaa
/- THE CELL 'sum', in the pinned program and in every row, IS THE sha256 OF THE DUMP (.gsa) THAT YtegmmaaapdgocaaProg.lean LOADS. Nothing in Lean hashes anything: it is a label: what it is worth is what the hold of that sum in a sandbox is worth. -/
noncomputable def Try.pinned : Pinned := { name := "ytegmmaaapdgocaa", sum := "db60a21d34888b7f47cb087d2d46a84c95a9309180e11f436b035e864f1cda64", checked := Try.checked }
namespace Rows
def none {H : Type} : Left H := { results := [], args := [] }

/-- 'radicandlaw22.GoldrootNone': WHATEVER THE INPUT: true; the input reads as it did. -/
def goldrootNoneSpec : ChangeSpec := { name := "goldrootNone", fn := fun _ => fun
  | [d1, d2] => { results := [.lit (.bool true)], args := [d1, d2] }
  | _ => none }
def goldrootNoneRow : OpenClaim := { program := "ytegmmaaapdgocaa", sum := "db60a21d34888b7f47cb087d2d46a84c95a9309180e11f436b035e864f1cda64", func := "radicand/radicandlaw22.GoldrootNone", spec := "goldrootNone", inPlace := ["sync/atomic.AddInt64", "sync/atomic.LoadUint32", "(*internal/sync.Mutex).Lock", "internal/race.Disable", "sync/atomic.CompareAndSwapInt32", "internal/race.Enable", "internal/race.Acquire", "(*internal/sync.Mutex).lockSlow", "internal/sync.runtime_canSpin", "internal/sync.runtime_doSpin", "internal/sync.throw", "internal/sync.runtime_nanotime", "internal/sync.runtime_SemacquireMutex", "sync/atomic.AddInt32", "(*internal/sync.Mutex).Unlock", "internal/race.ReleaseMerge", "(*internal/sync.Mutex).unlockSlow", "internal/sync.fatal", "internal/sync.runtime_Semrelease", "sync/atomic.StoreUint32", "math/bits.Add64", "math/bits.Sub64"], unfollowed := true, recurses := true, apart := false }
def GoldrootNoneSaid : Prop := goldrootNoneRow.holds Try.pinned (OpenSpec.ofChange goldrootNoneSpec)

/-- ITS FALSE NEIGHBOUR: 'it returns false'. Refute it at one input. -/
def goldrootNoneWrong : ChangeSpec := { name := "goldrootNone", fn := fun _ => fun
  | [d1, d2] => { results := [.lit (.bool false)], args := [d1, d2] }
  | _ => none }
def GoldrootNoneWrongFalsely : Prop := goldrootNoneRow.holds Try.pinned (OpenSpec.ofChange goldrootNoneWrong)

/-- 'radicandlaw21.GoldNone': WHATEVER THE INPUT: true; the input reads as it did. -/
def goldNoneSpec : ChangeSpec := { name := "goldNone", fn := fun _ => fun
  | [d1, d2, d3] => { results := [.lit (.bool true)], args := [d1, d2, d3] }
  | _ => none }
def goldNoneRow : OpenClaim := { program := "ytegmmaaapdgocaa", sum := "db60a21d34888b7f47cb087d2d46a84c95a9309180e11f436b035e864f1cda64", func := "radicand/radicandlaw21.GoldNone", spec := "goldNone", inPlace := ["sync/atomic.AddInt64", "sync/atomic.LoadUint32", "(*internal/sync.Mutex).Lock", "internal/race.Disable", "sync/atomic.CompareAndSwapInt32", "internal/race.Enable", "internal/race.Acquire", "(*internal/sync.Mutex).lockSlow", "internal/sync.runtime_canSpin", "internal/sync.runtime_doSpin", "internal/sync.throw", "internal/sync.runtime_nanotime", "internal/sync.runtime_SemacquireMutex", "sync/atomic.AddInt32", "(*internal/sync.Mutex).Unlock", "internal/race.ReleaseMerge", "(*internal/sync.Mutex).unlockSlow", "internal/sync.fatal", "internal/sync.runtime_Semrelease", "sync/atomic.StoreUint32", "math/bits.Add64", "math/bits.Sub64"], unfollowed := true, recurses := true, apart := false }
def GoldNoneSaid : Prop := goldNoneRow.holds Try.pinned (OpenSpec.ofChange goldNoneSpec)

/-- ITS FALSE NEIGHBOUR: 'it returns false'. Refute it at one input. -/
def goldNoneWrong : ChangeSpec := { name := "goldNone", fn := fun _ => fun
  | [d1, d2, d3] => { results := [.lit (.bool false)], args := [d1, d2, d3] }
  | _ => none }
def GoldNoneWrongFalsely : Prop := goldNoneRow.holds Try.pinned (OpenSpec.ofChange goldNoneWrong)

/-- 'radicandlaw20.NewtonrootNone': WHATEVER THE INPUT: true; the input reads as it did. -/
def newtonrootNoneSpec : ChangeSpec := { name := "newtonrootNone", fn := fun _ => fun
  | [d1, d2] => { results := [.lit (.bool true)], args := [d1, d2] }
  | _ => none }
def newtonrootNoneRow : OpenClaim := { program := "ytegmmaaapdgocaa", sum := "db60a21d34888b7f47cb087d2d46a84c95a9309180e11f436b035e864f1cda64", func := "radicand/radicandlaw20.NewtonrootNone", spec := "newtonrootNone", inPlace := ["math/bits.Add64", "math/bits.Sub64", "sync/atomic.AddInt64", "sync/atomic.LoadUint32", "(*internal/sync.Mutex).Lock", "internal/race.Disable", "sync/atomic.CompareAndSwapInt32", "internal/race.Enable", "internal/race.Acquire", "(*internal/sync.Mutex).lockSlow", "internal/sync.runtime_canSpin", "internal/sync.runtime_doSpin", "internal/sync.throw", "internal/sync.runtime_nanotime", "internal/sync.runtime_SemacquireMutex", "sync/atomic.AddInt32", "(*internal/sync.Mutex).Unlock", "internal/race.ReleaseMerge", "(*internal/sync.Mutex).unlockSlow", "internal/sync.fatal", "internal/sync.runtime_Semrelease", "sync/atomic.StoreUint32"], unfollowed := true, recurses := true, apart := false }
def NewtonrootNoneSaid : Prop := newtonrootNoneRow.holds Try.pinned (OpenSpec.ofChange newtonrootNoneSpec)

/-- ITS FALSE NEIGHBOUR: 'it returns false'. Refute it at one input. -/
def newtonrootNoneWrong : ChangeSpec := { name := "newtonrootNone", fn := fun _ => fun
  | [d1, d2] => { results := [.lit (.bool false)], args := [d1, d2] }
  | _ => none }
def NewtonrootNoneWrongFalsely : Prop := newtonrootNoneRow.holds Try.pinned (OpenSpec.ofChange newtonrootNoneWrong)

/-- 'radicandlaw19.NewtonNone': WHATEVER THE INPUT: true; the input reads as it did. -/
def newtonNoneSpec : ChangeSpec := { name := "newtonNone", fn := fun _ => fun
  | [d1, d2, d3] => { results := [.lit (.bool true)], args := [d1, d2, d3] }
  | _ => none }
def newtonNoneRow : OpenClaim := { program := "ytegmmaaapdgocaa", sum := "db60a21d34888b7f47cb087d2d46a84c95a9309180e11f436b035e864f1cda64", func := "radicand/radicandlaw19.NewtonNone", spec := "newtonNone", inPlace := ["sync/atomic.AddInt64", "sync/atomic.LoadUint32", "(*internal/sync.Mutex).Lock", "internal/race.Disable", "sync/atomic.CompareAndSwapInt32", "internal/race.Enable", "internal/race.Acquire", "(*internal/sync.Mutex).lockSlow", "internal/sync.runtime_canSpin", "internal/sync.runtime_doSpin", "internal/sync.throw", "internal/sync.runtime_nanotime", "internal/sync.runtime_SemacquireMutex", "sync/atomic.AddInt32", "(*internal/sync.Mutex).Unlock", "internal/race.ReleaseMerge", "(*internal/sync.Mutex).unlockSlow", "internal/sync.fatal", "internal/sync.runtime_Semrelease", "sync/atomic.StoreUint32", "math/bits.Add64", "math/bits.Sub64"], unfollowed := true, recurses := true, apart := false }
def NewtonNoneSaid : Prop := newtonNoneRow.holds Try.pinned (OpenSpec.ofChange newtonNoneSpec)

/-- ITS FALSE NEIGHBOUR: 'it returns false'. Refute it at one input. -/
def newtonNoneWrong : ChangeSpec := { name := "newtonNone", fn := fun _ => fun
  | [d1, d2, d3] => { results := [.lit (.bool false)], args := [d1, d2, d3] }
  | _ => none }
def NewtonNoneWrongFalsely : Prop := newtonNoneRow.holds Try.pinned (OpenSpec.ofChange newtonNoneWrong)

/- THE SECOND FORM. 'bulk': how many values and letters a reading holds, each counted each time it is reached (what is shared counts as often as it is met; a slice's spare places count too). A statement '..UptoSaid' is the law's where the arguments, and the package variables that the reading takes, are together of bulk at most 1048576: NARROWER than '..Said'. Prove '..Said' where nothing that the law and all that it calls make is longer than what came in: it says more and counts as full. Else prove '..UptoSaid'. A law counts once. -/
mutual
def uptoBulk {H : Type} : DataW H → Nat
  | .lit (.string bytes) => bytes.length + 1
  | .lit _ => 1
  | .nil => 1
  | .ptr d => uptoBulk d + 1
  | .slice elems spare => uptoBulkAll elems + uptoBulkAll spare + 1
  | .agg parts => uptoBulkAll parts + 1
  | .iface _ d => uptoBulk d + 1
  | .map entries => uptoBulkEntries entries + 1
  | .held _ => 1
def uptoBulkAll {H : Type} : List (DataW H) → Nat
  | [] => 0
  | d :: r => uptoBulk d + uptoBulkAll r
def uptoBulkEntries {H : Type} : List (Lit × DataW H) → Nat
  | [] => 0
  | x :: r => uptoBulkEntry x + uptoBulkEntries r
def uptoBulkEntry {H : Type} : Lit × DataW H → Nat
  | (.string bytes, d) => bytes.length + uptoBulk d + 1
  | (_, d) => uptoBulk d + 1
 end
def uptoSmall : (H : Type) → List (DataW H) → Bool := fun _ ds => decide (uptoBulkAll ds ≤ 1048576)
def OpenSpec.upto (s : _root_.Go.ChangeSpec) : _root_.Go.OpenSpec := { _root_.Go.OpenSpec.ofChange s with cond := some uptoSmall }

/-- 'radicandlaw22.GoldrootNone', WHERE WHAT IT READS IS OF BULK AT MOST 1048576: true; the input reads as it did. -/
def goldrootNoneUptoRow : OpenClaim := { program := "ytegmmaaapdgocaa", sum := "db60a21d34888b7f47cb087d2d46a84c95a9309180e11f436b035e864f1cda64", func := "radicand/radicandlaw22.GoldrootNone", spec := "goldrootNone", inPlace := ["sync/atomic.AddInt64", "sync/atomic.LoadUint32", "(*internal/sync.Mutex).Lock", "internal/race.Disable", "sync/atomic.CompareAndSwapInt32", "internal/race.Enable", "internal/race.Acquire", "(*internal/sync.Mutex).lockSlow", "internal/sync.runtime_canSpin", "internal/sync.runtime_doSpin", "internal/sync.throw", "internal/sync.runtime_nanotime", "internal/sync.runtime_SemacquireMutex", "sync/atomic.AddInt32", "(*internal/sync.Mutex).Unlock", "internal/race.ReleaseMerge", "(*internal/sync.Mutex).unlockSlow", "internal/sync.fatal", "internal/sync.runtime_Semrelease", "sync/atomic.StoreUint32", "math/bits.Add64", "math/bits.Sub64"], unfollowed := true, recurses := true, apart := false, narrowed := true }
def GoldrootNoneUptoSaid : Prop := goldrootNoneUptoRow.holds Try.pinned (OpenSpec.upto goldrootNoneSpec)

/-- 'radicandlaw21.GoldNone', WHERE WHAT IT READS IS OF BULK AT MOST 1048576: true; the input reads as it did. -/
def goldNoneUptoRow : OpenClaim := { program := "ytegmmaaapdgocaa", sum := "db60a21d34888b7f47cb087d2d46a84c95a9309180e11f436b035e864f1cda64", func := "radicand/radicandlaw21.GoldNone", spec := "goldNone", inPlace := ["sync/atomic.AddInt64", "sync/atomic.LoadUint32", "(*internal/sync.Mutex).Lock", "internal/race.Disable", "sync/atomic.CompareAndSwapInt32", "internal/race.Enable", "internal/race.Acquire", "(*internal/sync.Mutex).lockSlow", "internal/sync.runtime_canSpin", "internal/sync.runtime_doSpin", "internal/sync.throw", "internal/sync.runtime_nanotime", "internal/sync.runtime_SemacquireMutex", "sync/atomic.AddInt32", "(*internal/sync.Mutex).Unlock", "internal/race.ReleaseMerge", "(*internal/sync.Mutex).unlockSlow", "internal/sync.fatal", "internal/sync.runtime_Semrelease", "sync/atomic.StoreUint32", "math/bits.Add64", "math/bits.Sub64"], unfollowed := true, recurses := true, apart := false, narrowed := true }
def GoldNoneUptoSaid : Prop := goldNoneUptoRow.holds Try.pinned (OpenSpec.upto goldNoneSpec)

/-- 'radicandlaw20.NewtonrootNone', WHERE WHAT IT READS IS OF BULK AT MOST 1048576: true; the input reads as it did. -/
def newtonrootNoneUptoRow : OpenClaim := { program := "ytegmmaaapdgocaa", sum := "db60a21d34888b7f47cb087d2d46a84c95a9309180e11f436b035e864f1cda64", func := "radicand/radicandlaw20.NewtonrootNone", spec := "newtonrootNone", inPlace := ["math/bits.Add64", "math/bits.Sub64", "sync/atomic.AddInt64", "sync/atomic.LoadUint32", "(*internal/sync.Mutex).Lock", "internal/race.Disable", "sync/atomic.CompareAndSwapInt32", "internal/race.Enable", "internal/race.Acquire", "(*internal/sync.Mutex).lockSlow", "internal/sync.runtime_canSpin", "internal/sync.runtime_doSpin", "internal/sync.throw", "internal/sync.runtime_nanotime", "internal/sync.runtime_SemacquireMutex", "sync/atomic.AddInt32", "(*internal/sync.Mutex).Unlock", "internal/race.ReleaseMerge", "(*internal/sync.Mutex).unlockSlow", "internal/sync.fatal", "internal/sync.runtime_Semrelease", "sync/atomic.StoreUint32"], unfollowed := true, recurses := true, apart := false, narrowed := true }
def NewtonrootNoneUptoSaid : Prop := newtonrootNoneUptoRow.holds Try.pinned (OpenSpec.upto newtonrootNoneSpec)

/-- 'radicandlaw19.NewtonNone', WHERE WHAT IT READS IS OF BULK AT MOST 1048576: true; the input reads as it did. -/
def newtonNoneUptoRow : OpenClaim := { program := "ytegmmaaapdgocaa", sum := "db60a21d34888b7f47cb087d2d46a84c95a9309180e11f436b035e864f1cda64", func := "radicand/radicandlaw19.NewtonNone", spec := "newtonNone", inPlace := ["sync/atomic.AddInt64", "sync/atomic.LoadUint32", "(*internal/sync.Mutex).Lock", "internal/race.Disable", "sync/atomic.CompareAndSwapInt32", "internal/race.Enable", "internal/race.Acquire", "(*internal/sync.Mutex).lockSlow", "internal/sync.runtime_canSpin", "internal/sync.runtime_doSpin", "internal/sync.throw", "internal/sync.runtime_nanotime", "internal/sync.runtime_SemacquireMutex", "sync/atomic.AddInt32", "(*internal/sync.Mutex).Unlock", "internal/race.ReleaseMerge", "(*internal/sync.Mutex).unlockSlow", "internal/sync.fatal", "internal/sync.runtime_Semrelease", "sync/atomic.StoreUint32", "math/bits.Add64", "math/bits.Sub64"], unfollowed := true, recurses := true, apart := false, narrowed := true }
def NewtonNoneUptoSaid : Prop := newtonNoneUptoRow.holds Try.pinned (OpenSpec.upto newtonNoneSpec)

end Rows
end Go.Proofs.Ytegmmaaapdgocaa
