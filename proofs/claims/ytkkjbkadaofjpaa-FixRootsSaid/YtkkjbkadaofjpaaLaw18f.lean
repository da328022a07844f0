/- THE LAW FixRoots, all its ways. -/
import Derived.Test.YtkkjbkadaofjpaaLaw18eA1
import Derived.Test.YtkkjbkadaofjpaaLaw18eA2
import Derived.Test.YtkkjbkadaofjpaaLaw18eB
namespace Go.Proofs.Ytkkjbkadaofjpaa
open Go Go.RowKit

theorem frS_1 (n g : Nat) (m : Int) (hn : n < M) (hg : g < M) (hm : m < 0 ∨ 100 < m) (w : World) :
    Calls Try.prog 54 #[wv n, wv g, .int .i64 m] w fun e w' => e = .returned (.tuple #[wv 0, wv 0, .int .i64 0, .int .i64 1]) ∧ Below w.heap.size w w' := by
  have e : frE n g m = 1 := by unfold frE; rw [if_pos hm]
  have := fixroot_err n g m hn hg (by rw [e]; decide) w
  rwa [e] at this
theorem frS_2 (n g : Nat) (m : Int) (hn : n < M) (hg : g < M) (hm0 : 0 ≤ m) (hm1 : m ≤ 100) (hc : 256 < blen n ∨ 200 < blen g) (w : World) :
    Calls Try.prog 54 #[wv n, wv g, .int .i64 m] w fun e w' => e = .returned (.tuple #[wv 0, wv 0, .int .i64 0, .int .i64 4]) ∧ Below w.heap.size w w' := by
  have e : frE n g m = 4 := by unfold frE; rw [if_neg (by omega), if_pos hc]
  have := fixroot_err n g m hn hg (by rw [e]; decide) w
  rwa [e] at this
theorem frS_4 (n g : Nat) (m : Int) (hm0 : 0 ≤ m) (hm1 : m ≤ 100) (hc : n < P2 256) (hl : ¬ 200 < blen g) (hf : withinB ((rtN 2 n - g) + (g - rtN 2 n)) m = false) (w : World) :
    Calls Try.prog 54 #[wv n, wv g, .int .i64 m] w fun e w' => e = .returned (.tuple #[wv 0, wv 0, .int .i64 0, .int .i64 6]) ∧ Below w.heap.size w w' := by
  obtain ⟨k, rfl⟩ := Int.eq_ofNat_of_zero_le hm0
  unfold withinB at hf
  refine fixroot_far n g k hc (lt_of_blen (by omega)) (by omega) ?_ w
  simp at hf
  omega
theorem frS_5 (n g : Nat) (m : Int) (hm0 : 0 ≤ m) (hm1 : m ≤ 100) (hc : n < P2 256) (hl : ¬ 200 < blen g) (hf : withinB ((rtN 2 n - g) + (g - rtN 2 n)) m = true) (w : World) :
    Calls Try.prog 54 #[wv n, wv g, .int .i64 m] w fun e w' => e = .returned (.tuple #[wv (rtN 2 n), wv (n - rtN 2 n * rtN 2 n), .int .i64 (((rtN 2 n - g) + (g - rtN 2 n) : Nat) : Int), .int .i64 0]) ∧ Below w.heap.size w w' := by
  obtain ⟨k, rfl⟩ := Int.eq_ofNat_of_zero_le hm0
  unfold withinB at hf
  rw [Nat.add_comm] at hf ⊢
  refine fixroot_yes n g k hc (lt_of_blen (by omega)) (by omega) ?_ w
  simp at hf
  omega
theorem fixRoots_any (n a : Nat) (raw : Bool) (b m : Int) (w : World) (hn : n < M) (ha : a < M) (hb1 : -128 ≤ b) (hb2 : b ≤ 127) :
    Calls Try.prog 10 #[wv n, .agg (gcells a raw b m)] w fun e w' => e = .returned (.bool true) ∧ Below w.heap.size w w' := by
  by_cases hc : n < P2 256
  · have hqM : rtN 2 n < M := Nat.lt_trans (rt_lt hc) (by rw [M_eq]; exact P2_lt (by omega))
    have hG := bentN_lt hqM b
    cases raw
    · by_cases h1 : m < 0
      · exact fr_B_T1a n a b m w hn hb1 hb2 hc h1 (frS_1 n _ m hn hG (Or.inl h1))
      by_cases h2 : 100 < m
      · exact fr_B_T1b n a b m w hn hb1 hb2 hc h2 (frS_1 n _ m hn hG (Or.inr h2))
      by_cases h3 : 200 < blen (bentN (rtN 2 n) b)
      · exact fr_B_T3 n a b m w hn hb1 hb2 hc (by omega) (by omega) h3 (frS_2 n _ m hn hG (by omega) (by omega) (Or.inr h3))
      cases h4 : withinB ((rtN 2 n - bentN (rtN 2 n) b) + (bentN (rtN 2 n) b - rtN 2 n)) m
      · exact fr_B_T4 n a b m w hn hb1 hb2 hc (by omega) (by omega) h3 h4 (frS_4 n _ m (by omega) (by omega) hc h3 h4)
      · exact fr_B_T5 n a b m w hn hb1 hb2 hc (by omega) (by omega) h3 h4 (frS_5 n _ m (by omega) (by omega) hc h3 h4)
    · by_cases h1 : m < 0
      · exact fr_A2_T1a n a b m w hn hc h1 (frS_1 n _ m hn ha (Or.inl h1))
      by_cases h2 : 100 < m
      · exact fr_A2_T1b n a b m w hn hc h2 (frS_1 n _ m hn ha (Or.inr h2))
      by_cases h3 : 200 < blen a
      · exact fr_A2_T3 n a b m w hn ha hc (by omega) (by omega) h3 (frS_2 n _ m hn ha (by omega) (by omega) (Or.inr h3))
      cases h4 : withinB ((rtN 2 n - a) + (a - rtN 2 n)) m
      · exact fr_A2_T4 n a b m w hn ha hc (by omega) (by omega) h3 h4 (frS_4 n _ m (by omega) (by omega) hc h3 h4)
      · exact fr_A2_T5 n a b m w hn ha hc (by omega) (by omega) h3 h4 (frS_5 n _ m (by omega) (by omega) hc h3 h4)
  · have hb : 256 < blen n := by
      apply Nat.lt_of_not_le
      intro h
      exact hc (lt_of_blen h)
    by_cases h1 : m < 0
    · exact fr_A1_T1a n a raw b m w hn hc h1 (frS_1 n _ m hn ha (Or.inl h1))
    by_cases h2 : 100 < m
    · exact fr_A1_T1b n a raw b m w hn hc h2 (frS_1 n _ m hn ha (Or.inr h2))
    exact fr_A1_T2 n a raw b m w hn hc (by omega) (by omega) (frS_2 n _ m hn ha (by omega) (by omega) (Or.inl hb))
end Go.Proofs.Ytkkjbkadaofjpaa
