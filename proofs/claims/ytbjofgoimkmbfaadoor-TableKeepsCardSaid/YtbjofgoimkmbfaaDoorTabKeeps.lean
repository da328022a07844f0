/- THE WALK of the law that behind the digit what is left isn't beyond two thirds of the divisor. -/
import Derived.Test.YtbjofgoimkmbfaaDoorTabLaw
namespace Go.Proofs.YtbjofgoimkmbfaaDoor
open Go Go.RowKit

/-- The plain law: a sixteenth is U; the row i's divisor is d, what is left y, rounded down a. -/
theorem keeps_plain (i d y a : Int) (h8 : 8 ≤ i) (h15 : i ≤ 15) (d0 : i * 196608 ≤ d) (d1 : d < (i + 1) * 196608) (y0 : -8 * d ≤ 3 * y) (y1 : 3 * y ≤ 8 * d) (a0 : a * 196608 ≤ y) (a1 : y < (a + 1) * 196608) :
    (dgAt i a = 2 ∧ -2 * d ≤ 3 * (y - 2 * d) ∧ 3 * (y - 2 * d) ≤ 2 * d) ∨ (dgAt i a = 1 ∧ -2 * d ≤ 3 * (y - d) ∧ 3 * (y - d) ≤ 2 * d) ∨ (dgAt i a = 0 ∧ -2 * d ≤ 3 * y ∧ 3 * y ≤ 2 * d) ∨
      (dgAt i a = -1 ∧ -2 * d ≤ 3 * (y + d) ∧ 3 * (y + d) ≤ 2 * d) ∨ (dgAt i a = -2 ∧ -2 * d ≤ 3 * (y + 2 * d) ∧ 3 * (y + 2 * d) ≤ 2 * d) := by
  unfold dgAt dg l3
  have hi : i = 8 ∨ i = 9 ∨ i = 10 ∨ i = 11 ∨ i = 12 ∨ i = 13 ∨ i = 14 ∨ i = 15 := by omega
  rcases hi with rfl | rfl | rfl | rfl | rfl | rfl | rfl | rfl <;> (repeat' split) <;> omega

theorem digit_inK (i y K : Int) (w : World) (h8 : 8 ≤ i) (h15 : i ≤ 15) (hK : dgAt i y = K) (hl : Laid w) :
    Calls Tryd.prog 9 #[.int .i64 i, .int .i64 y] w fun e w' => e = .returned (.tuple #[.int .i64 K, .bool true]) ∧ Below w.heap.size w w' := by
  have := digit_in i y w h8 h15 hl
  rwa [hK] at this

theorem eight_thirds (D : Int) : (-8 * (D * 3)).tdiv 3 = -8 * D := by
  rw [show -8 * (D * 3) = (-8 * D) * 3 from by omega]
  exact Int.mul_tdiv_cancel _ (by decide)
theorem share (l X : Int) (l0 : 0 ≤ l) (l1 : l ≤ 65535) (x0 : 0 ≤ X) : 0 ≤ l * X / 65535 ∧ l * X / 65535 ≤ X ∧ 0 ≤ l * X ∧ l * X ≤ 65535 * X := by
  have h1 : 0 ≤ l * X := Int.mul_nonneg l0 x0
  have h2 : l * X ≤ 65535 * X := Int.mul_le_mul_of_nonneg_right l1 x0
  refine ⟨by omega, by omega, h1, h2⟩

set_option maxHeartbeats 1000000 in
theorem tableKeeps_any (part left row : Int) (w : World) (p0 : 0 ≤ part) (p1 : part ≤ 65535) (l0 : 0 ≤ left) (l1 : left ≤ 65535) (r0 : 0 ≤ row) (r1 : row ≤ 255) (hl : Laid w) :
    Calls Tryd.prog 4 #[.int .u16 part, .int .u16 left, .int .u8 row] w fun e w' => e = .returned (.bool true) ∧ Below w.heap.size w w' := by
  have HL := Lib.hid hl
  have hlt := hl.lt
  clear hl
  obtain ⟨m, hm⟩ : ∃ m, row % 8 = m := ⟨_, rfl⟩
  have m0 : 0 ≤ m := by omega
  have m7 : m ≤ 7 := by omega
  obtain ⟨d, hd⟩ : ∃ d, (8 + m) * 196608 + 3 * part = d := ⟨_, rfl⟩
  obtain ⟨h3, h4, h5, h6⟩ := share left (16 * d / 3) l0 l1 (by omega)
  obtain ⟨X, hX⟩ : ∃ X, left * (16 * d / 3) = X := ⟨_, rfl⟩
  rw [hX] at h3 h4 h5 h6
  have hT : wrap64 (left * (16 * d / 3)) = X := by rw [hX]; unfold wrap64; omega
  obtain ⟨t, ht⟩ : ∃ t, X / 65535 = t := ⟨_, rfl⟩
  rw [ht] at h3 h4
  obtain ⟨e, he⟩ : ∃ e, (-8 * d).tdiv 3 = e := ⟨_, rfl⟩
  have he2 : 3 * e = -8 * d := by
    have := eight_thirds ((8 + m) * 65536 + part)
    rw [show ((8 + m) * 65536 + part) * 3 = d from by omega] at this
    omega
  obtain ⟨y, hy⟩ : ∃ y, e + t = y := ⟨_, rfl⟩
  obtain ⟨Q, hQ⟩ : ∃ Q, y.tdiv 196608 = Q := ⟨_, rfl⟩
  have hQ2 : (Q * 196608 ≤ y ∧ y < (Q + 1) * 196608) ∨ (y < Q * 196608 ∧ (Q - 1) * 196608 ≤ y) := by
    rcases Int.lt_or_le y 0 with hn | hn
    · have e' : y = -(-y) := by omega
      rw [e', Int.neg_tdiv, Int.tdiv_eq_ediv_of_nonneg (by omega)] at hQ
      omega
    · rw [Int.tdiv_eq_ediv_of_nonneg hn] at hQ
      omega
  have y0 : -8 * d ≤ 3 * y := by omega
  have y1 : 3 * y ≤ 8 * d := by omega
  have d0 : (8 + m) * 196608 ≤ d := by omega
  have d1 : d < (8 + m + 1) * 196608 := by omega
  have d2 : d ≤ 3145728 := by omega
  have e0 : -8388608 ≤ e := by omega
  have e1 : e ≤ 0 := by omega
  have t1 : t ≤ 16777216 := by omega
  have x1 : X ≤ 1099511627776 := by omega
  clear hX he2 h4 h6
  rcases hQ2 with ⟨q1, q2⟩ | ⟨q1, q2⟩
  · have hk := keeps_plain (8 + m) d y Q (by omega) (by omega) d0 d1 y0 y1 q1 q2
    clear d0 d1
    rcases hk with ⟨hK, k1, k2⟩ | ⟨hK, k1, k2⟩ | ⟨hK, k1, k2⟩ | ⟨hK, k1, k2⟩ | ⟨hK, k1, k2⟩
    all_goals
      have HK := Lib.hid hK; clear hK
      go_enter Tryd.func4, Tryd.ntmps4
      go_wp2_with fail
      refine (digit_inK _ _ _ _ (by omega) (by omega) HK.out HL.out).mono ?_
      rintro e w1 ⟨rfl, hb1⟩
      have HL1 := Lib.hid (HL.out.below hb1 hlt)
      go_wp2_with fail
      refine (tabAwake_any _ HL1.out).mono ?_
      rintro e w2 ⟨rfl, hb2⟩
      have hB := Lib.hid (below_then hb1 hb2)
      clear hb1 hb2
      go_wp2_with fail
      go_ret
      exact ⟨rfl, hB.out⟩
  · have hk := keeps_plain (8 + m) d y (Q - 1) (by omega) (by omega) d0 d1 y0 y1 q2 (by omega)
    clear d0 d1
    rcases hk with ⟨hK, k1, k2⟩ | ⟨hK, k1, k2⟩ | ⟨hK, k1, k2⟩ | ⟨hK, k1, k2⟩ | ⟨hK, k1, k2⟩
    all_goals
      have HK := Lib.hid hK; clear hK
      go_enter Tryd.func4, Tryd.ntmps4
      go_wp2_with fail
      refine (digit_inK _ _ _ _ (by omega) (by omega) HK.out HL.out).mono ?_
      rintro e w1 ⟨rfl, hb1⟩
      have HL1 := Lib.hid (HL.out.below hb1 hlt)
      go_wp2_with fail
      refine (tabAwake_any _ HL1.out).mono ?_
      rintro e w2 ⟨rfl, hb2⟩
      have hB := Lib.hid (below_then hb1 hb2)
      clear hb1 hb2
      go_wp2_with fail
      go_ret
      exact ⟨rfl, hB.out⟩
end Go.Proofs.YtbjofgoimkmbfaaDoor
