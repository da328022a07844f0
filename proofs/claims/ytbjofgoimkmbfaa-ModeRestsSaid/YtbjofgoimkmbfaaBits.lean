/- THE LIBRARY's functions on bits, by the kit's shelf: bits.Len64 tells how many binary digits a number below 2^64 has. -/
import Derived.Shelf.Strconv.Itoa0
import Derived.Test.YtbjofgoimkmbfaaRows
namespace Go.Proofs.Ytbjofgoimkmbfaa
open Go Go.Shelf
def bitsRen : Go.Shelf.Ren := ⟨fun | 129 => 183 | n => n, fun | 53 => 24 | 3 => 3 | 4 => 4 | 46 => 113 | 5 => 5 | 9 => 9 | n => n, fun n => n⟩
theorem bitsLaid : Lays.n129 Try.prog bitsRen where
  mixed := by kernel_rfl
  f129 := Try.func183.trans (congrArg some (by kernel_rfl))
  t3 := Try.underlying3
  a3 := Try.isAgg3
  z3 := Try.sizeOf3
  v3 := Try.zeroValue3
  t4 := Try.underlying4
  a4 := Try.isAgg4
  z4 := Try.sizeOf4
  v4 := Try.zeroValue4
  t5 := Try.underlying5
  a5 := Try.isAgg5
  z5 := Try.sizeOf5
  v5 := Try.zeroValue5
  t9 := Try.underlying9
  a9 := Try.isAgg9
  z9 := Try.sizeOf9
  v9 := Try.zeroValue9
  t46 := Try.underlying113
  a46 := Try.isAgg113
  z46 := Try.sizeOf113
  v46 := Try.zeroValue113
  t53 := Try.underlying24
  a53 := Try.isAgg24
  z53 := Try.sizeOf24
  v53 := Try.zeroValue24
theorem bits_Len64 (x : Int) (w : World) (h0 : 0 ≤ x) (h1 : x ≤ 18446744073709551615) :
    Calls Try.prog 183 #[.int .u64 x] w fun e w' => e = .returned (.int .i64 (Lib.bitLen x.toNat)) ∧ w' = w := Any.bits_Len64 bitsLaid x w h0 h1
end Go.Proofs.Ytbjofgoimkmbfaa
