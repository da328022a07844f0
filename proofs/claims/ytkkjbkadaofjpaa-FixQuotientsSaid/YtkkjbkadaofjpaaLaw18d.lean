/- THE LAW FixQuotients, all its ways. -/
import Derived.Test.YtkkjbkadaofjpaaLaw18cA1
import Derived.Test.YtkkjbkadaofjpaaLaw18cA2
import Derived.Test.YtkkjbkadaofjpaaLaw18cB
namespace Go.Proofs.Ytkkjbkadaofjpaa
open Go Go.RowKit

theorem fqS_1 (n d g : Nat) (m : Int) (hn : n < M) (hd : d < M) (hg : g < M) (hm : m < 0 ∨ 100 < m) (w : World) :
    Calls Try.prog 48 #[wv n, wv d, wv g, .int .i64 m] w fun e w' => e = .returned (.tuple #[wv 0, wv 0, .int .i64 0, .int .i64 1]) ∧ Below w.heap.size w w' := by
  have e : fqE n d g m = 1 := by unfold fqE; rw [if_pos hm]
  have := quotient_err n d g m hn hd hg (by rw [e]; decide) w
  rwa [e] at this
theorem fqS_2 (n d g : Nat) (m : Int) (hn : n < M) (hd : d < M) (hg : g < M) (hm0 : 0 ≤ m) (hm1 : m ≤ 100) (hc : mayN n d ≠ 0) (w : World) :
    Calls Try.prog 48 #[wv n, wv d, wv g, .int .i64 m] w fun e w' => e = .returned (.tuple #[wv 0, wv 0, .int .i64 0, .int .i64 (mayN n d)]) ∧ Below w.heap.size w w' := by
  have e : fqE n d g m = mayN n d := by unfold fqE; rw [if_neg (by omega), if_neg (fun h => hc h.1)]
  have := quotient_err n d g m hn hd hg (by rw [e]; exact hc) w
  rwa [e] at this
theorem fqS_3 (n d g : Nat) (m : Int) (hn : n < M) (hd : d < M) (hg : g < M) (hm0 : 0 ≤ m) (hm1 : m ≤ 100) (hc : mayN n d = 0) (hl : 200 < blen g) (w : World) :
    Calls Try.prog 48 #[wv n, wv d, wv g, .int .i64 m] w fun e w' => e = .returned (.tuple #[wv 0, wv 0, .int .i64 0, .int .i64 4]) ∧ Below w.heap.size w w' := by
  have e : fqE n d g m = 4 := by unfold fqE; rw [if_neg (by omega), if_pos ⟨hc, hl⟩]
  have := quotient_err n d g m hn hd hg (by rw [e]; decide) w
  rwa [e] at this
theorem fqS_4 (n d g : Nat) (m : Int) (hn : n < M) (hd : d < M) (hm0 : 0 ≤ m) (hm1 : m ≤ 100) (hc : mayN n d = 0) (hl : ¬ 200 < blen g) (hf : withinB ((n / d - g) + (g - n / d)) m = false) (w : World) :
    Calls Try.prog 48 #[wv n, wv d, wv g, .int .i64 m] w fun e w' => e = .returned (.tuple #[wv 0, wv 0, .int .i64 0, .int .i64 6]) ∧ Below w.heap.size w w' := by
  obtain ⟨k, rfl⟩ := Int.eq_ofNat_of_zero_le hm0
  unfold withinB at hf
  obtain ⟨q, hq⟩ : ∃ q, q = n / d := ⟨_, rfl⟩
  refine quotient_far n d g k hn hd hc (lt_of_blen (by omega)) (by omega) ?_ w
  rw [← hq] at hf ⊢
  simp at hf
  omega
theorem fqS_5 (n d g : Nat) (m : Int) (hn : n < M) (hd : d < M) (hm0 : 0 ≤ m) (hm1 : m ≤ 100) (hc : mayN n d = 0) (hl : ¬ 200 < blen g) (hf : withinB ((n / d - g) + (g - n / d)) m = true) (w : World) :
    Calls Try.prog 48 #[wv n, wv d, wv g, .int .i64 m] w fun e w' => e = .returned (.tuple #[wv (n / d), wv (n % d), .int .i64 (((n / d - g) + (g - n / d) : Nat) : Int), .int .i64 0]) ∧ Below w.heap.size w w' := by
  obtain ⟨k, rfl⟩ := Int.eq_ofNat_of_zero_le hm0
  unfold withinB at hf
  rw [Nat.add_comm] at hf ⊢
  obtain ⟨q, hq⟩ : ∃ q, q = n / d := ⟨_, rfl⟩
  refine quotient_yes n d g k hn hd hc (lt_of_blen (by omega)) (by omega) ?_ w
  rw [← hq] at hf ⊢
  simp at hf
  omega
theorem fixQuotients_any (n d a : Nat) (raw : Bool) (b m : Int) (w : World) (hn : n < M) (hd : d < M) (ha : a < M) (hb1 : -128 ≤ b) (hb2 : b ≤ 127) :
    Calls Try.prog 9 #[wv n, wv d, .agg (gcells a raw b m)] w fun e w' => e = .returned (.bool true) ∧ Below w.heap.size w w' := by
  have hqM : n / d < M := Nat.lt_of_le_of_lt (Nat.div_le_self _ _) hn
  have hG := bentN_lt hqM b
  by_cases hc : mayN n d = 0
  · cases raw
    · by_cases h1 : m < 0
      · exact fq_B_T1a n d a b m w hn hd hb1 hb2 hc h1 (fqS_1 n d _ m hn hd hG (Or.inl h1))
      by_cases h2 : 100 < m
      · exact fq_B_T1b n d a b m w hn hd hb1 hb2 hc h2 (fqS_1 n d _ m hn hd hG (Or.inr h2))
      by_cases h3 : 200 < blen (bentN (n / d) b)
      · exact fq_B_T3 n d a b m w hn hd hb1 hb2 hc (by omega) (by omega) h3 (fqS_3 n d _ m hn hd hG (by omega) (by omega) hc h3)
      cases h4 : withinB ((n / d - bentN (n / d) b) + (bentN (n / d) b - n / d)) m
      · exact fq_B_T4 n d a b m w hn hd hb1 hb2 hc (by omega) (by omega) h3 h4 (fqS_4 n d _ m hn hd (by omega) (by omega) hc h3 h4)
      · exact fq_B_T5 n d a b m w hn hd hb1 hb2 hc (by omega) (by omega) h3 h4 (fqS_5 n d _ m hn hd (by omega) (by omega) hc h3 h4)
    · by_cases h1 : m < 0
      · exact fq_A2_T1a n d a b m w hn hd hc h1 (fqS_1 n d _ m hn hd ha (Or.inl h1))
      by_cases h2 : 100 < m
      · exact fq_A2_T1b n d a b m w hn hd hc h2 (fqS_1 n d _ m hn hd ha (Or.inr h2))
      by_cases h3 : 200 < blen a
      · exact fq_A2_T3 n d a b m w hn hd ha hc (by omega) (by omega) h3 (fqS_3 n d _ m hn hd ha (by omega) (by omega) hc h3)
      cases h4 : withinB ((n / d - a) + (a - n / d)) m
      · exact fq_A2_T4 n d a b m w hn hd ha hc (by omega) (by omega) h3 h4 (fqS_4 n d _ m hn hd (by omega) (by omega) hc h3 h4)
      · exact fq_A2_T5 n d a b m w hn hd ha hc (by omega) (by omega) h3 h4 (fqS_5 n d _ m hn hd (by omega) (by omega) hc h3 h4)
  · by_cases h1 : m < 0
    · exact fq_A1_T1a n d a raw b m w hn hd hc h1 (fqS_1 n d _ m hn hd ha (Or.inl h1))
    by_cases h2 : 100 < m
    · exact fq_A1_T1b n d a raw b m w hn hd hc h2 (fqS_1 n d _ m hn hd ha (Or.inr h2))
    exact fq_A1_T2 n d a raw b m w hn hd hc (by omega) (by omega) (fqS_2 n d _ m hn hd ha (by omega) (by omega) hc)
end Go.Proofs.Ytkkjbkadaofjpaa
