/- THE LIBRARY's functions on bits, by the kit's shelf: bits.Mul64 is a product, in two halves. -/
import Derived.Shelf.Bits.Mul64
import Derived.Test.YtbjofgoimkmbfaaBut
import Derived.Test.YtbjofgoimkmbfaaRows
namespace Go.Proofs.Ytbjofgoimkmbfaa
open Go Go.Shelf
def mulRen : Go.Shelf.Ren := ⟨fun | 264 => 204 | n => n, fun | 53 => 24 | 46 => 113 | n => n, fun n => n⟩
theorem mulLaid : Lays.n264 Try.prog mulRen where
  mixed := by kernel_rfl
  f264 := Try.func204.trans (congrArg some (by kernel_rfl))
  t46 := Try.underlying113
  a46 := Try.isAgg113
  z46 := Try.sizeOf113
  v46 := Try.zeroValue113
  t53 := Try.underlying24
  a53 := Try.isAgg24
  z53 := Try.sizeOf24
  v53 := Try.zeroValue24
theorem bits_Mul64 (x y : Nat) (hx : x < P2 64) (hy : y < P2 64) (w : World) :
    Calls Try.prog 204 #[.int .u64 x, .int .u64 y] w fun e w' => e = .returned (.tuple #[.int .u64 (x * y / P2 64 : Nat), .int .u64 (x * y % P2 64 : Nat)]) ∧ w' = w := by
  have h64 := P2_64
  rw [h64] at hx hy ⊢
  exact Any.bits_Mul64 mulLaid x y hx hy w
open Go.RowKit
theorem limbMul_any (x y : Nat) (hx : x < P2 64) (hy : y < P2 64) (w : World) :
    Calls Try.prog 190 #[.int .u64 x, .int .u64 y] w fun e w' => e = .returned (.tuple #[.int .u64 (x * y / P2 64 : Nat), .int .u64 (x * y % P2 64 : Nat)]) ∧ w' = w := by
  have h := Lib.hid (fun w' => bits_Mul64 x y hx hy w')
  obtain ⟨s, hs⟩ : ∃ s, s = x * y / P2 64 := ⟨_, rfl⟩
  obtain ⟨d, hd⟩ : ∃ d, d = x * y % P2 64 := ⟨_, rfl⟩
  rw [← hs, ← hd] at h ⊢
  clear hs hd hx hy
  go_enter Try.func190, Try.ntmps190
  go_wp2_with fail
  refine (h.out _).mono ?_
  rintro e w1 ⟨rfl, rfl⟩
  go_wp2
  exact bodyPost_ret (v := .tuple #[.int .u64 s, .int .u64 d]) (by simp [results, Try.results190, go_sem]) rfl ⟨rfl, rfl⟩
end Go.Proofs.Ytbjofgoimkmbfaa
