/- THE WALK of the law on a rom's guesses. -/
import Derived.Test.YtkkjbkadaofjpaaLaw17d
import Derived.Test.YtkkjbkadaofjpaaLoose3
import Derived.Test.YtkkjbkadaofjpaaK9
namespace Go.Proofs.Ytkkjbkadaofjpaa
open Go Go.RowKit

theorem limb_head {a m : Nat} (h : a < P2 64) : limb (a + P2 64 * m) 0 = a := by
  unfold limb
  rw [Nat.mul_zero, P2_0, Nat.div_one, Nat.add_mul_mod_self_left, Nat.mod_eq_of_lt h]
theorem limb_tail {a m : Nat} (h : a < P2 64) (i : Nat) : limb (a + P2 64 * m) (i + 1) = limb m i := by
  unfold limb
  rw [show 64 * (i + 1) = 64 + 64 * i by omega, P2_add, ← Nat.div_div_eq_div_mul, Nat.add_mul_div_left _ _ (P2_pos _), Nat.div_eq_of_lt h, Nat.zero_add]
theorem limb_lone {a : Nat} (h : a < P2 64) : limb a 0 = a ∧ ∀ i, limb a (i + 1) = 0 := by
  have e : a = a + P2 64 * 0 := by rw [Nat.mul_zero, Nat.add_zero]
  refine ⟨by rw [e, limb_head h, ← e], fun i => by rw [e, limb_tail h, limb_zero]⟩
/-- A number of two limbs, of four. -/
def two64 (a b : Nat) : Nat := a + P2 64 * b
theorem cells_2 {a b : Nat} (ha : a < P2 64) (hb : b < P2 64) : (#[.int .u64 (a : Int), .int .u64 (b : Int), .int .u64 0, .int .u64 0, .int .u64 0, .int .u64 0, .int .u64 0, .int .u64 0] : Array Value) = wcells (two64 a b) := by
  obtain ⟨h0, hs⟩ := limb_lone hb
  unfold wcells two64
  rw [limb_head ha, limb_tail ha 0, limb_tail ha 1, limb_tail ha 2, limb_tail ha 3, limb_tail ha 4, limb_tail ha 5, limb_tail ha 6, h0, hs 0, hs 1, hs 2, hs 3, hs 4, hs 5]
  rfl
theorem cells_4 {a b c d : Nat} (ha : a < P2 64) (hb : b < P2 64) (hc : c < P2 64) (hd : d < P2 64) : (#[.int .u64 (a : Int), .int .u64 (b : Int), .int .u64 (c : Int), .int .u64 (d : Int), .int .u64 0, .int .u64 0, .int .u64 0, .int .u64 0] : Array Value) = wcells (two64 a (two64 b (two64 c d))) := by
  obtain ⟨h0, hs⟩ := limb_lone hd
  unfold wcells two64
  rw [limb_head ha, limb_tail ha 0, limb_tail ha 1, limb_tail ha 2, limb_tail ha 3, limb_tail ha 4, limb_tail ha 5, limb_tail ha 6,
    limb_head hb, limb_tail hb 0, limb_tail hb 1, limb_tail hb 2, limb_tail hb 3, limb_tail hb 4, limb_tail hb 5,
    limb_head hc, limb_tail hc 0, limb_tail hc 1, limb_tail hc 2, limb_tail hc 3, limb_tail hc 4, h0, hs 0, hs 1, hs 2, hs 3]
  rfl
theorem cells_3 {a b : Nat} (ha : a < P2 64) (hb : b < P2 64) : (#[.int .u64 (a : Int), .int .u64 (b : Int), .int .u64 1, .int .u64 0, .int .u64 0, .int .u64 0, .int .u64 0, .int .u64 0] : Array Value) = wcells (two64 a (two64 b 1)) := by
  have h1 : 1 < P2 64 := by rw [P2_64]; decide
  have := cells_4 ha hb h1 (P2_pos 64)
  rw [show two64 1 0 = 1 by unfold two64; rw [Nat.mul_zero]] at this
  exact this
theorem cells_5 : (#[.int .u64 0, .int .u64 0, .int .u64 0, .int .u64 0, .int .u64 1, .int .u64 0, .int .u64 0, .int .u64 0] : Array Value) = wcells (P2 256) := by
  have h0 := P2_pos 64
  have e : P2 256 = 0 + P2 64 * (0 + P2 64 * (0 + P2 64 * (0 + P2 64 * 1))) := by simp only [Nat.zero_add, Nat.mul_one, ← P2_add]
  obtain ⟨h1, hs⟩ := limb_lone (a := 1) (by rw [P2_64]; decide)
  unfold wcells
  rw [e, limb_head h0, limb_tail h0 0, limb_tail h0 1, limb_tail h0 2, limb_tail h0 3, limb_tail h0 4, limb_tail h0 5, limb_tail h0 6,
    limb_head h0, limb_tail h0 0, limb_tail h0 1, limb_tail h0 2, limb_tail h0 3, limb_tail h0 4, limb_tail h0 5,
    limb_head h0, limb_tail h0 0, limb_tail h0 1, limb_tail h0 2, limb_tail h0 3, limb_tail h0 4,
    limb_head h0, limb_tail h0 0, limb_tail h0 1, limb_tail h0 2, limb_tail h0 3, h1, hs 0, hs 1, hs 2]
  rfl
theorem two_div {a b : Nat} (ha : a < P2 64) (k : Nat) : two64 a b / P2 (64 + k) = b / P2 k := by
  unfold two64
  rw [P2_add, ← Nat.div_div_eq_div_mul, Nat.add_mul_div_left _ _ (P2_pos _), Nat.div_eq_of_lt ha, Nat.zero_add]
theorem two_lt {a b k : Nat} (ha : a < P2 64) (hb : b < P2 k) : two64 a b < P2 (64 + k) := by
  unfold two64
  rw [P2_add]
  have := Nat.mul_le_mul_left (P2 64) (show b + 1 ≤ P2 k from hb)
  rw [Nat.mul_add, Nat.mul_one] at this
  omega
theorem two_ge {a b k : Nat} (hb : P2 k ≤ b) : P2 (64 + k) ≤ two64 a b := by
  unfold two64
  rw [P2_add]
  have := Nat.mul_le_mul_left (P2 64) hb
  omega
theorem two_blen {a b l : Nat} (ha : a < P2 64) (h1 : b < P2 l) (h2 : P2 (l - 1) ≤ b) (hl : 0 < l) : blen (two64 a b) = 64 + l := by
  refine blen_eq (two_lt ha h1) fun _ => ?_
  rw [show 64 + l - 1 = 64 + (l - 1) by omega]
  exact two_ge h2
attribute [local go_sem ↓] Go.wp_at_zero Go.wp_at_succ
set_option maxRecDepth 100000 in
set_option maxHeartbeats 4000000 in
theorem romGuesses_BD (x y p q : Nat) (w : World) (hx : x < P2 64) (hy : y < P2 64) (hp : p < P2 64) (hq : q < P2 64) (hB : P2 63 ≤ x) (hD : P2 62 ≤ p) :
    Calls Try.prog 7 #[.agg #[.int .u64 (x : Int), .int .u64 (y : Int)], .agg #[.int .u64 (p : Int), .int .u64 (q : Int)]] w fun e w' => e = .returned (.bool true) ∧ Below w.heap.size w w' := by
  have SA := Lib.hid (fun w' => awake17_any w')
  have S0 := Lib.hid (fun w' => romNew_any w')
  have HE2 := Lib.hid (cells_2 hy hx)
  have HE4 := Lib.hid (cells_4 hy hx hq hp)
  have HE3 := Lib.hid (cells_3 hy hx)
  have hDM : two64 y x < M := by rw [M_eq]; exact Nat.lt_of_lt_of_le (two_lt hy hx) (P2_le (by omega))
  have hNM : two64 y (two64 x (two64 q p)) < M := by rw [M_eq]; exact Nat.lt_of_lt_of_le (two_lt hy (two_lt hx (two_lt hq hp))) (P2_le (by omega))
  have S1 := Lib.hid (fun g w' h => guess_any g (two64 y x) hDM w' h)
  have S2 := Lib.hid (fun g w' h => guessRoot_any g (two64 y (two64 x (two64 q p))) hNM w' h)
  have hb1 : blen (two64 y x) = 128 := two_blen (l := 64) hy hx hB (by decide)
  have hb2 : blen (two64 y (two64 x (two64 q p))) = 255 ∨ blen (two64 y (two64 x (two64 q p))) = 256 := by
    rcases Nat.lt_or_ge p (P2 63) with h | h
    · left
      exact two_blen (l := 191) hy (two_lt (k := 127) hx (two_lt (k := 63) hq h)) (two_ge (k := 126) (two_ge (k := 62) hD)) (by decide)
    · right
      exact two_blen (l := 192) hy (two_lt (k := 128) hx (two_lt (k := 64) hq hp)) (two_ge (k := 127) (two_ge (k := 63) h)) (by decide)
  rw [show guessB (two64 y x) = true by unfold guessB; exact decide_eq_true hb1] at S1
  rw [show guessRB (two64 y (two64 x (two64 q p))) = true by unfold guessRB; exact decide_eq_true hb2] at S2
  have hrv : recipV (((x / P2 57 : Nat) : Int) - 64) = guessV (two64 y x) := by
    have h1 : 64 ≤ x / P2 57 := (Nat.le_div_iff_mul_le (P2_pos _)).2 (by rw [show (64 : Nat) = P2 6 by rw [P2_eq], ← P2_add]; exact hB)
    have h2 : x / P2 57 < 128 := (Nat.div_lt_iff_lt_mul (P2_pos _)).2 (by rw [show (128 : Nat) = P2 7 by rw [P2_eq], ← P2_add]; exact hx)
    unfold recipV guessV
    rw [if_pos (by omega), if_pos hb1, show (121 : Nat) = 64 + 57 from rfl, two_div hy]
    congr 1
    omega
  have hrb : recipB (((x / P2 57 : Nat) : Int) - 64) = true := by
    have h1 : 64 ≤ x / P2 57 := (Nat.le_div_iff_mul_le (P2_pos _)).2 (by rw [show (64 : Nat) = P2 6 by rw [P2_eq], ← P2_add]; exact hB)
    have h2 : x / P2 57 < 128 := (Nat.div_lt_iff_lt_mul (P2_pos _)).2 (by rw [show (128 : Nat) = P2 7 by rw [P2_eq], ← P2_add]; exact hx)
    unfold recipB
    rw [decide_eq_true (by omega), decide_eq_true (by omega)]
    rfl
  have hr2 : 32 ≤ p / P2 57 ∧ p / P2 57 < 128 := ⟨(Nat.le_div_iff_mul_le (P2_pos _)).2 (by rw [show (32 : Nat) = P2 5 by rw [P2_eq], ← P2_add]; exact hD), (Nat.div_lt_iff_lt_mul (P2_pos _)).2 (by rw [show (128 : Nat) = P2 7 by rw [P2_eq], ← P2_add]; exact hp)⟩
  have hsv : rootV ((p / P2 57 : Nat) : Int) = guessRV (two64 y (two64 x (two64 q p))) := by
    unfold rootV guessRV
    rw [if_pos (by omega), if_pos hb2, show (249 : Nat) = 64 + (64 + (64 + 57)) from rfl, two_div hy, two_div hx, two_div hq]
    congr 1
    omega
  have hsb : rootB ((p / P2 57 : Nat) : Int) = true := by
    unfold rootB
    rw [decide_eq_true (by omega), decide_eq_true (by omega)]
    rfl
  obtain ⟨na1, na2, na3⟩ := guess_near hb1
  obtain ⟨nb1, nb2, nb3⟩ := guessR_near hb2
  have S11 := Lib.hid (fun w' => rrecip_any (((x / P2 57 : Nat) : Int) - 64) w')
  rw [hrv, hrb] at S11
  have S21 := Lib.hid (fun w' => rroot17_any ((p / P2 57 : Nat) : Int) w')
  rw [hsv, hsb] at S21
  have S13 := Lib.hid (fun w' => big_any (two64 y x) hDM w')
  have S23 := Lib.hid (fun w' => big_any (two64 y (two64 x (two64 q p))) hNM w')
  have h1 : 1 < P2 64 := by rw [P2_64]; decide
  have hLM : two64 y (two64 x 1) < M := by rw [M_eq]; exact Nat.lt_of_lt_of_le (two_lt hy (two_lt hx h1)) (P2_le (by omega))
  have hb3 : blen (two64 y (two64 x 1)) = 129 := two_blen (l := 65) hy (two_lt (k := 1) hx (by rw [P2_eq]; decide)) (two_ge (k := 0) (by rw [P2_0]; exact Nat.le_refl _)) (by decide)
  have S31 := Lib.hid (fun g w' h => guess_any g (two64 y (two64 x 1)) hLM w' h)
  rw [show guessV (two64 y (two64 x 1)) = 0 by unfold guessV; rw [hb3]; rfl, show guessB (two64 y (two64 x 1)) = false by unfold guessB; rw [hb3]; rfl] at S31
  have h256 : P2 256 < M := by rw [M_eq]; exact P2_lt (by omega)
  have hb4 : blen (P2 256) = 257 := blen_eq (P2_lt (by omega)) fun _ => Nat.le_refl _
  have S32 := Lib.hid (fun g w' h => guessRoot_any g (P2 256) h256 w' h)
  rw [show guessRV (P2 256) = 0 by unfold guessRV; rw [hb4]; rfl, show guessRB (P2 256) = false by unfold guessRB; rw [hb4]; rfl] at S32
  have HE5 : Hid ((((((wcells 0).setIfInBounds 1 (.int .u64 0)).setIfInBounds 2 (.int .u64 0)).setIfInBounds 3 (.int .u64 0)).setIfInBounds 4 (.int .u64 1)) = wcells (P2 256)) := Lib.hid (by rw [← wcells_zero]; exact cells_5)
  obtain ⟨T5, hT5⟩ : ∃ T, T = P2 256 := ⟨_, rfl⟩
  rw [← hT5] at S32 HE5
  obtain ⟨L, hLe⟩ : ∃ D, D = two64 y (two64 x 1) := ⟨_, rfl⟩
  rw [← hLe] at HE3 S31
  obtain ⟨v, hv⟩ : ∃ u, u = p / P2 57 := ⟨_, rfl⟩
  rw [← hv] at S21 hr2
  have HPS := Lib.hid (show (p : Int) / 144115188075855872 = (v : Int) by rw [hv, P2_eq]; rfl)
  have hv2 : (v : Int) < 128 := by omega
  have hwv : IntKind.i64.wrap (v : Int) = (v : Int) := IntWalk.i64_in _ (by omega)
  obtain ⟨D, hDe⟩ : ∃ D, D = two64 y x := ⟨_, rfl⟩
  obtain ⟨N, hNe⟩ : ∃ N, N = two64 y (two64 x (two64 q p)) := ⟨_, rfl⟩
  rw [← hDe] at HE2 S1 S11 S13 na1 na2 na3
  rw [← hNe] at HE4 S2 S21 S23 nb1 nb2 nb3
  obtain ⟨a, ha⟩ : ∃ a, a = guessV D := ⟨_, rfl⟩
  obtain ⟨b, hb⟩ : ∃ a, a = guessRV N := ⟨_, rfl⟩
  rw [← ha] at S1 S11 na1 na2 na3
  rw [← hb] at S2 S21 nb1 nb2 nb3
  have hDM' : D < M := by rw [hDe]; exact hDM
  have hNM' : N < M := by rw [hNe]; exact hNM
  have hsB : ∀ c k : Nat, c ≤ 100000000 → k ≤ 300 → c * P2 k < BIG := fun c k hc hk => by
    have h1 : c < P2 27 := by rw [P2_eq]; omega
    have := Nat.mul_lt_mul_of_pos_right h1 (P2_pos k)
    rw [← P2_add] at this
    exact small_of this (by omega)
  have hAD : 64 * a * D < BIG := Nat.lt_of_le_of_lt na2 (hsB 65 137 (by decide) (by decide))
  have hBN : 32 * b * b * N < BIG := Nat.lt_of_le_of_lt nb2 (hsB 33 274 (by decide) (by decide))
  have hbb : b * b ≤ 1100 * 1100 := Nat.mul_le_mul nb3 nb3
  have hbb2 : 32 * b * b ≤ 100000000 := by rw [Nat.mul_assoc]; omega
  have S12 := Lib.hid (fun w' => small_any (64 * a) w' (by omega))
  have S14 := Lib.hid (fun v v2 w' h h' => mul_any v v2 (64 * a) D w' (small_M (lit_ltM _ (by omega))) (small_M hDM') h h')
  have S22 := Lib.hid (fun w' => small_any (32 * b * b) w' (by omega))
  have S24 := Lib.hid (fun v v2 w' h h' => mul_any v v2 (32 * b * b) N w' (small_M (lit_ltM _ (by omega))) (small_M hNM') h h')
  have S15 := Lib.hid (fun w' => small_any 63 w' (by decide))
  have S16 := Lib.hid (fun v w' h => rshl_any v 63 137 w' (small_M (lit_ltM _ (by decide))) (by decide) h)
  have S17 := Lib.hid (fun v v2 w' h h' => cmp_any v v2 (64 * a * D) (63 * P2 137) w' hAD (hsB _ _ (by decide) (by decide)) h h')
  have S18 := Lib.hid (fun w' => small_any 65 w' (by decide))
  have S19 := Lib.hid (fun v w' h => rshl_any v 65 137 w' (small_M (lit_ltM _ (by decide))) (by decide) h)
  have S20 := Lib.hid (fun v v2 w' h h' => cmp_any v v2 (64 * a * D) (65 * P2 137) w' hAD (hsB _ _ (by decide) (by decide)) h h')
  have S25 := Lib.hid (fun w' => small_any 31 w' (by decide))
  have S26 := Lib.hid (fun v w' h => rshl_any v 31 274 w' (small_M (lit_ltM _ (by decide))) (by decide) h)
  have S27 := Lib.hid (fun v v2 w' h h' => cmp_any v v2 (32 * b * b * N) (31 * P2 274) w' hBN (hsB _ _ (by decide) (by decide)) h h')
  have S28 := Lib.hid (fun w' => small_any 33 w' (by decide))
  have S29 := Lib.hid (fun v w' h => rshl_any v 33 274 w' (small_M (lit_ltM _ (by decide))) (by decide) h)
  have S30 := Lib.hid (fun v v2 w' h h' => cmp_any v v2 (32 * b * b * N) (33 * P2 274) w' hBN (hsB _ _ (by decide) (by decide)) h h')
  have c17 : decide (cmpN (64 * a * D) (63 * P2 137) < 0) = false := decide_eq_false (by unfold cmpN; rw [if_neg (by omega)]; split <;> omega)
  have c20 : decide (0 < cmpN (64 * a * D) (65 * P2 137)) = false := decide_eq_false (by unfold cmpN; split <;> (try rw [if_neg (by omega)]) <;> omega)
  have c27 : decide (cmpN (32 * b * b * N) (31 * P2 274) < 0) = false := decide_eq_false (by unfold cmpN; rw [if_neg (by omega)]; split <;> omega)
  have c30 : decide (0 < cmpN (32 * b * b * N) (33 * P2 274)) = false := decide_eq_false (by unfold cmpN; split <;> (try rw [if_neg (by omega)]) <;> omega)
  have hwA : IntKind.u64.wrap (64 * (a : Int)) = ((64 * a : Nat) : Int) := by rw [u64wrap]; omega
  have hwB : IntKind.u64.wrap (32 * (b : Int)) = ((32 * b : Nat) : Int) := by rw [u64wrap]; omega
  have hwC : IntKind.u64.wrap (((32 * b : Nat) : Int) * (b : Int)) = ((32 * b * b : Nat) : Int) := by rw [← Int.natCast_mul, u64wrap]; omega
  obtain ⟨B1, hB1⟩ : ∃ B, B = 32 * b := ⟨_, rfl⟩
  obtain ⟨B2, hB2⟩ : ∃ B, B = 32 * b * b := ⟨_, rfl⟩
  rw [← hB2] at S22 S24 S27 S30 c27 c30 hwC
  rw [← hB1] at hwB hwC
  obtain ⟨A1, hA1⟩ : ∃ B, B = 64 * a := ⟨_, rfl⟩
  rw [← hA1] at S12 S14 S17 S20 c17 c20 hwA
  obtain ⟨P, hP⟩ : ∃ B, B = A1 * D := ⟨_, rfl⟩
  rw [← hP] at S14 S17 S20 c17 c20
  obtain ⟨Q, hQ⟩ : ∃ B, B = B2 * N := ⟨_, rfl⟩
  rw [← hQ] at S24 S27 S30 c27 c30
  obtain ⟨k1, hk1⟩ : ∃ B, B = cmpN P (63 * P2 137) := ⟨_, rfl⟩
  obtain ⟨k2, hk2⟩ : ∃ B, B = cmpN P (65 * P2 137) := ⟨_, rfl⟩
  obtain ⟨k3, hk3⟩ : ∃ B, B = cmpN Q (31 * P2 274) := ⟨_, rfl⟩
  obtain ⟨k4, hk4⟩ : ∃ B, B = cmpN Q (33 * P2 274) := ⟨_, rfl⟩
  rw [← hk1] at S17 c17
  rw [← hk2] at S20 c20
  rw [← hk3] at S27 c27
  rw [← hk4] at S30 c30
  obtain ⟨p1, hp1⟩ : ∃ B, B = 63 * P2 137 := ⟨_, rfl⟩
  obtain ⟨p2, hp2⟩ : ∃ B, B = 65 * P2 137 := ⟨_, rfl⟩
  obtain ⟨p3, hp3⟩ : ∃ B, B = 31 * P2 274 := ⟨_, rfl⟩
  obtain ⟨p4, hp4⟩ : ∃ B, B = 33 * P2 274 := ⟨_, rfl⟩
  rw [← hp1] at S16 S17
  rw [← hp2] at S19 S20
  rw [← hp3] at S26 S27
  rw [← hp4] at S29 S30
  clear hrv hrb hsv hsb na1 na2 na3 nb1 nb2 nb3 h1 hLM hb3 h256 hb4 hT5 hLe hv hDM' hNM' hsB hAD hBN hbb hbb2 hB1 hB2 hA1 hP hQ hk1 hk2 hk3 hk4 hp1 hp2 hp3 hp4 hr2
  have hxi : ¬ (x : Int) < 9223372036854775808 := by rw [show P2 63 = 9223372036854775808 by rw [P2_eq]] at hB; omega
  have hpi : ¬ (p : Int) < 4611686018427387904 := by rw [show P2 62 = 4611686018427387904 by rw [P2_eq]] at hD; omega
  have hr1 : 64 ≤ x / P2 57 ∧ x / P2 57 < 128 := ⟨(Nat.le_div_iff_mul_le (P2_pos _)).2 (by rw [show (64 : Nat) = P2 6 by rw [P2_eq], ← P2_add]; exact hB), (Nat.div_lt_iff_lt_mul (P2_pos _)).2 (by rw [show (128 : Nat) = P2 7 by rw [P2_eq], ← P2_add]; exact hx)⟩
  obtain ⟨u, hu⟩ : ∃ u, u = x / P2 57 := ⟨_, rfl⟩
  rw [← hu] at hr1 S11
  have hxs : (x : Int) / 144115188075855872 = (u : Int) := by rw [hu, P2_eq]; rfl
  have HXS := Lib.hid hxs
  have hu1 : (64 : Int) ≤ (u : Int) := by omega
  have hu2 : (u : Int) < 128 := by omega
  have HXI := Lib.hid (show decide ((x : Int) < 9223372036854775808) = false from decide_eq_false hxi)
  have HPI := Lib.hid (show decide ((p : Int) < 4611686018427387904) = false from decide_eq_false hpi)
  clear hx hy hp hq hB hD hDM hNM hb1 hb2 hDe hNe ha hb hxi hpi hxs hu hr1
  go_enter Try.func7, Try.ntmps7
  have HB := Lib.hid (Below.refl w.heap.size w)
  have Ga := Lib.hid (alloc_new (w) (.cells #[.int .u64 (x:Int), .int .u64 (y:Int)] 55))
  replace HB := Lib.hid (below_al HB.out (.cells #[.int .u64 (x:Int), .int .u64 (y:Int)] 55))
  replace Ga := Lib.hid (keepAl (o' := .cells #[.int .u64 (p:Int), .int .u64 (q:Int)] 55) Ga.out)
  have Gb := Lib.hid (alloc_new' (w := (w).alloc (.cells #[.int .u64 (x:Int), .int .u64 (y:Int)] 55)) (n := w.heap.size + 1) (.cells #[.int .u64 (p:Int), .int .u64 (q:Int)] 55) (by simp))
  replace HB := Lib.hid (below_al HB.out (.cells #[.int .u64 (p:Int), .int .u64 (q:Int)] 55))
  go_upto_region 1 with fail
  obtain ⟨wL, hw⟩ : ∃ wx, wx = ((w).alloc (.cells #[.int .u64 (x:Int), .int .u64 (y:Int)] 55)).alloc (.cells #[.int .u64 (p:Int), .int .u64 (q:Int)] 55) := ⟨_, rfl⟩
  rw [← hw] at Ga Gb HB ⊢
  clear hw
  have HZ0 := Lib.hid (lt_of_heap Gb.out)
  go_wp2_with fail
  refine (S0.out _).mono ?_
  rintro e wn ⟨rfl, hn, hb⟩
  have HZ1 := Lib.hid hn.lt
  replace HB := Lib.hid (below_then HB.out hb)
  replace Ga := Lib.hid ((hb.block _ (lt_of_heap Ga.out)).trans Ga.out)
  replace Gb := Lib.hid ((hb.block _ (lt_of_heap Gb.out)).trans Gb.out)
  obtain ⟨g, hg⟩ : ∃ g, g = wL.heap.size := ⟨_, rfl⟩
  rw [← hg] at hn HZ0 HZ1 ⊢
  have KR := Lib.hid (show IsRom _ _ from Or.inl hn)
  have HSZ : Hid (w.heap.size + 1 < g ∧ g < wn.heap.size) := Lib.hid ⟨HZ0.out, HZ1.out⟩
  clear hn hb hg HZ0 HZ1
  have cGa := cell_row Ga.out
  have cGb := cell_row Gb.out
  have e2 := HE2.out
  have e4 := HE4.out
  go_upto_region 5 with fail
  clear e2
  clear cGa cGb
  replace Ga := Lib.hid (keepAl (o' := .cells (wcells D) 31) Ga.out)
  replace Gb := Lib.hid (keepAl (o' := .cells (wcells D) 31) Gb.out)
  replace KR := Lib.hid (KR.out.older (below_al (Below.refl (wn).heap.size (wn)) (.cells (wcells D) 31)))
  have Gd := Lib.hid (alloc_new (wn) (.cells (wcells D) 31))
  replace HB := Lib.hid (below_al HB.out (.cells (wcells D) 31))
  have cGa := cell_row Ga.out
  have cGb := cell_row Gb.out
  have cGd := cell_row Gd.out
  go_upto_region 6 with fail
  clear e4
  clear cGa cGb cGd
  replace Ga := Lib.hid (keepAl (o' := .cells (wcells N) 31) Ga.out)
  replace Gb := Lib.hid (keepAl (o' := .cells (wcells N) 31) Gb.out)
  replace KR := Lib.hid (KR.out.older (below_al (Below.refl ((wn).alloc (.cells (wcells D) 31)).heap.size ((wn).alloc (.cells (wcells D) 31))) (.cells (wcells N) 31)))
  replace Gd := Lib.hid (keepAl (o' := .cells (wcells N) 31) Gd.out)
  have Gn := Lib.hid (alloc_new' (w := (wn).alloc (.cells (wcells D) 31)) (n := wn.heap.size + 1) (.cells (wcells N) 31) (by simp))
  replace HB := Lib.hid (below_al HB.out (.cells (wcells N) 31))
  have cGa := cell_row Ga.out
  have cGb := cell_row Gb.out
  have cGd := cell_row Gd.out
  have cGn := cell_row Gn.out
  go_wp2_with fail
  refine (S1.out _ _ KR.out).mono ?_
  rintro e w1 ⟨rfl, hok, hb⟩
  clear cGa cGb cGd cGn
  replace HB := Lib.hid (But.below HB.out hb HB.out.size (fun i hi => by have := HSZ.out; omega))
  replace Ga := Lib.hid (hb.heap Ga.out (by have := HSZ.out; omega))
  replace Gb := Lib.hid (hb.heap Gb.out (by have := HSZ.out; omega))
  replace Gd := Lib.hid (hb.heap Gd.out (by have := HSZ.out; omega))
  replace Gn := Lib.hid (hb.heap Gn.out (by have := HSZ.out; omega))
  replace KR := Lib.hid (show IsRom _ _ from Or.inr hok)
  have HOK := Lib.hid hok
  clear hok hb
  have cGa := cell_row Ga.out
  have cGb := cell_row Gb.out
  have cGd := cell_row Gd.out
  have cGn := cell_row Gn.out
  go_wp2_with fail
  refine (S2.out _ _ KR.out).mono ?_
  rintro e w2 ⟨rfl, hok, hb⟩
  clear cGa cGb cGd cGn
  replace HB := Lib.hid (But.below HB.out hb HB.out.size (fun i hi => by have := HSZ.out; omega))
  replace Ga := Lib.hid (hb.heap Ga.out (by have := HSZ.out; omega))
  replace Gb := Lib.hid (hb.heap Gb.out (by have := HSZ.out; omega))
  replace Gd := Lib.hid (hb.heap Gd.out (by have := HSZ.out; omega))
  replace Gn := Lib.hid (hb.heap Gn.out (by have := HSZ.out; omega))
  replace KR := Lib.hid (show IsRom _ _ from Or.inr hok)
  have HOK := Lib.hid hok
  clear hok hb
  have cGa := cell_row Ga.out
  have cGb := cell_row Gb.out
  have cGd := cell_row Gd.out
  have cGn := cell_row Gn.out
  have hxi := HXI.out
  go_upto_region 11 with fail
  clear hxi
  have hxs := HXS.out
  have hwu : IntKind.i64.wrap (u : Int) = (u : Int) := IntWalk.i64_in _ (by omega)
  have hwu2 : IntKind.i64.wrap ((u : Int) - 64) = (u : Int) - 64 := IntWalk.i64_in _ (by omega)
  clear cGa cGb cGd cGn
  have cGa := cell_row Ga.out
  have cGb := cell_row Gb.out
  have cGd := cell_row Gd.out
  have cGn := cell_row Gn.out
  go_wp2_with fail
  refine (S11.out _).mono ?_
  rintro e w3 ⟨rfl, hb⟩
  clear cGa cGb cGd cGn
  replace HB := Lib.hid (below_then HB.out hb)
  replace Ga := Lib.hid ((hb.block _ (lt_of_heap Ga.out)).trans Ga.out)
  replace Gb := Lib.hid ((hb.block _ (lt_of_heap Gb.out)).trans Gb.out)
  replace KR := Lib.hid (KR.out.older hb)
  replace Gd := Lib.hid ((hb.block _ (lt_of_heap Gd.out)).trans Gd.out)
  replace Gn := Lib.hid ((hb.block _ (lt_of_heap Gn.out)).trans Gn.out)
  clear hb
  clear hxs hwu hwu2
  go_upto_region 12 with fail
  obtain ⟨wM, hw⟩ : ∃ wx, wx = w3 := ⟨_, rfl⟩
  rw [← hw] at Ga Gb KR Gd Gn HB ⊢
  clear hw
  have xGa := ext_row (B := wM.heap.size) Ga.out (lt_of_heap Ga.out)
  have xGb := ext_row (B := wM.heap.size) Gb.out (lt_of_heap Gb.out)
  have xGd := ext_row (B := wM.heap.size) Gd.out (lt_of_heap Gd.out)
  have xGn := ext_row (B := wM.heap.size) Gn.out (lt_of_heap Gn.out)
  apply wp_region_loose (looseR [_, _, _, _, _, _, _]) (pureL [])
  · kernel_rfl
  · kernel_rfl
  · kernel_rfl
  · exact allocs_ok [] rfl (by intro T hT; cases hT)
  · exact looseR_st _
  · change wpL _ _ _ _ _ _ _ 7 0 _ _
    refine wpL_calm wM rfl rfl rfl rfl (fun K hK K0 hK0 => ?_)
    go_simp
    first | refine hK _ _ rfl rfl ?_ | refine hK0 _ rfl ?_
    clear hK hK0 K K0
    refine wpL_calm wM rfl rfl rfl rfl (fun K hK K0 hK0 => ?_)
    go_simp
    first | refine hK _ _ rfl rfl ?_ | refine hK0 _ rfl ?_
    clear hK hK0 K K0
    refine wpL_call (Lft.big A1) (big_some w _) rfl rfl rfl rfl (by first | rfl | go_simp) rfl (fun w' hC hF => ?_) (fun v2 hv2 => ?_)
    · obtain ⟨x, rfl⟩ := hC
      go_simp
      go_at_call 31
      exact gives_loose (S12.out _)
    refine wpL_calm wM rfl rfl rfl rfl (fun K hK K0 hK0 => ?_)
    go_simp
    first | refine hK _ _ rfl rfl ?_ | refine hK0 _ rfl ?_
    clear hK hK0 K K0
    refine wpL_call (Lft.big D) (big_some w _) rfl rfl rfl rfl (by first | rfl | go_simp) rfl (fun w' hC hF => ?_) (fun v4 hv4 => ?_)
    · obtain ⟨x, rfl⟩ := hC
      go_simp
      go_at_call 33
      exact gives_loose (S13.out _)
    refine wpL_call (Lft.big P) (big_some w _) rfl rfl rfl rfl (by first | rfl | go_simp) rfl (fun w' hC hF => ?_) (fun v5 hv5 => ?_)
    · obtain ⟨x, rfl⟩ := hC
      go_simp
      go_at_call 43
      exact gives_loose (S14.out _ _ _ (hF 2 _ 71 rfl rfl rfl rfl (by decide)) (hF 4 _ 73 rfl rfl rfl rfl (by decide)))
    refine wpL_call (Lft.big P) (big_some wM _) rfl rfl rfl rfl rfl rfl (fun w' hC hF => ?_) (fun v6 hv6 => ?_)
    · obtain ⟨x, rfl⟩ := hC
      have hf := hF 5 _ 74 rfl rfl rfl rfl (by decide)
      go_simp
      exact ⟨Below.refl _ _, hf⟩
    refine wpL_nil (endL [] rfl (by intro q hq; cases hq) (fun w4 hb hst hap hfin => ?_))
    have Rp : Hid (IsBig w4 v6 P) := Lib.hid (hfin rfl 6 _ 14 rfl rfl rfl rfl)
    replace HB := Lib.hid (below_then HB.out hb)
    replace Ga := Lib.hid ((hb.block _ (lt_of_heap Ga.out)).trans Ga.out)
    replace Gb := Lib.hid ((hb.block _ (lt_of_heap Gb.out)).trans Gb.out)
    replace KR := Lib.hid (KR.out.older hb)
    replace Gd := Lib.hid ((hb.block _ (lt_of_heap Gd.out)).trans Gd.out)
    replace Gn := Lib.hid ((hb.block _ (lt_of_heap Gn.out)).trans Gn.out)
    clear hb hst hap hfin xGa xGb xGd xGn
    clear hwA
    have cGa := cell_row Ga.out
    have cGb := cell_row Gb.out
    have cGd := cell_row Gd.out
    have cGn := cell_row Gn.out
    go_wp2_with fail
    refine (S15.out _).mono ?_
    rintro e w5 ⟨ra, rfl, hr, hb⟩
    clear cGa cGb cGd cGn
    replace HB := Lib.hid (below_then HB.out hb)
    replace Ga := Lib.hid ((hb.block _ (lt_of_heap Ga.out)).trans Ga.out)
    replace Gb := Lib.hid ((hb.block _ (lt_of_heap Gb.out)).trans Gb.out)
    replace KR := Lib.hid (KR.out.older hb)
    replace Gd := Lib.hid ((hb.block _ (lt_of_heap Gd.out)).trans Gd.out)
    replace Gn := Lib.hid ((hb.block _ (lt_of_heap Gn.out)).trans Gn.out)
    replace Rp := Lib.hid (Rp.out.below hb)
    have Ra := Lib.hid hr
    clear hr hb
    have cGa := cell_row Ga.out
    have cGb := cell_row Gb.out
    have cGd := cell_row Gd.out
    have cGn := cell_row Gn.out
    go_wp2_with fail
    refine (S16.out _ _ Ra.out).mono ?_
    rintro e w6 ⟨rb, rfl, hr, hb⟩
    clear cGa cGb cGd cGn
    replace HB := Lib.hid (below_then HB.out hb)
    replace Ga := Lib.hid ((hb.block _ (lt_of_heap Ga.out)).trans Ga.out)
    replace Gb := Lib.hid ((hb.block _ (lt_of_heap Gb.out)).trans Gb.out)
    replace KR := Lib.hid (KR.out.older hb)
    replace Gd := Lib.hid ((hb.block _ (lt_of_heap Gd.out)).trans Gd.out)
    replace Gn := Lib.hid ((hb.block _ (lt_of_heap Gn.out)).trans Gn.out)
    replace Rp := Lib.hid (Rp.out.below hb)
    replace Ra := Lib.hid (Ra.out.below hb)
    have Rb := Lib.hid hr
    clear hr hb
    have cGa := cell_row Ga.out
    have cGb := cell_row Gb.out
    have cGd := cell_row Gd.out
    have cGn := cell_row Gn.out
    go_wp2_with fail
    refine (S17.out _ _ _ Rp.out Rb.out).mono ?_
    rintro e w7 ⟨rfl, hb⟩
    clear cGa cGb cGd cGn
    replace HB := Lib.hid (below_then HB.out hb)
    replace Ga := Lib.hid ((hb.block _ (lt_of_heap Ga.out)).trans Ga.out)
    replace Gb := Lib.hid ((hb.block _ (lt_of_heap Gb.out)).trans Gb.out)
    replace KR := Lib.hid (KR.out.older hb)
    replace Gd := Lib.hid ((hb.block _ (lt_of_heap Gd.out)).trans Gd.out)
    replace Gn := Lib.hid ((hb.block _ (lt_of_heap Gn.out)).trans Gn.out)
    replace Rp := Lib.hid (Rp.out.below hb)
    replace Ra := Lib.hid (Ra.out.below hb)
    replace Rb := Lib.hid (Rb.out.below hb)
    clear hb
    have cGa := cell_row Ga.out
    have cGb := cell_row Gb.out
    have cGd := cell_row Gd.out
    have cGn := cell_row Gn.out
    go_wp2_with fail
    refine (S18.out _).mono ?_
    rintro e w8 ⟨rc, rfl, hr, hb⟩
    clear cGa cGb cGd cGn
    replace HB := Lib.hid (below_then HB.out hb)
    replace Ga := Lib.hid ((hb.block _ (lt_of_heap Ga.out)).trans Ga.out)
    replace Gb := Lib.hid ((hb.block _ (lt_of_heap Gb.out)).trans Gb.out)
    replace KR := Lib.hid (KR.out.older hb)
    replace Gd := Lib.hid ((hb.block _ (lt_of_heap Gd.out)).trans Gd.out)
    replace Gn := Lib.hid ((hb.block _ (lt_of_heap Gn.out)).trans Gn.out)
    replace Rp := Lib.hid (Rp.out.below hb)
    replace Ra := Lib.hid (Ra.out.below hb)
    replace Rb := Lib.hid (Rb.out.below hb)
    have Rc := Lib.hid hr
    clear hr hb
    have cGa := cell_row Ga.out
    have cGb := cell_row Gb.out
    have cGd := cell_row Gd.out
    have cGn := cell_row Gn.out
    go_wp2_with fail
    refine (S19.out _ _ Rc.out).mono ?_
    rintro e w9 ⟨rd, rfl, hr, hb⟩
    clear cGa cGb cGd cGn
    replace HB := Lib.hid (below_then HB.out hb)
    replace Ga := Lib.hid ((hb.block _ (lt_of_heap Ga.out)).trans Ga.out)
    replace Gb := Lib.hid ((hb.block _ (lt_of_heap Gb.out)).trans Gb.out)
    replace KR := Lib.hid (KR.out.older hb)
    replace Gd := Lib.hid ((hb.block _ (lt_of_heap Gd.out)).trans Gd.out)
    replace Gn := Lib.hid ((hb.block _ (lt_of_heap Gn.out)).trans Gn.out)
    replace Rp := Lib.hid (Rp.out.below hb)
    replace Ra := Lib.hid (Ra.out.below hb)
    replace Rb := Lib.hid (Rb.out.below hb)
    replace Rc := Lib.hid (Rc.out.below hb)
    have Rd := Lib.hid hr
    clear hr hb
    have cGa := cell_row Ga.out
    have cGb := cell_row Gb.out
    have cGd := cell_row Gd.out
    have cGn := cell_row Gn.out
    go_wp2_with fail
    refine (S20.out _ _ _ Rp.out Rd.out).mono ?_
    rintro e w10 ⟨rfl, hb⟩
    clear cGa cGb cGd cGn
    replace HB := Lib.hid (below_then HB.out hb)
    replace Ga := Lib.hid ((hb.block _ (lt_of_heap Ga.out)).trans Ga.out)
    replace Gb := Lib.hid ((hb.block _ (lt_of_heap Gb.out)).trans Gb.out)
    replace KR := Lib.hid (KR.out.older hb)
    replace Gd := Lib.hid ((hb.block _ (lt_of_heap Gd.out)).trans Gd.out)
    replace Gn := Lib.hid ((hb.block _ (lt_of_heap Gn.out)).trans Gn.out)
    replace Rp := Lib.hid (Rp.out.below hb)
    replace Ra := Lib.hid (Ra.out.below hb)
    replace Rb := Lib.hid (Rb.out.below hb)
    replace Rc := Lib.hid (Rc.out.below hb)
    replace Rd := Lib.hid (Rd.out.below hb)
    clear hb
    have cGa := cell_row Ga.out
    have cGb := cell_row Gb.out
    have cGd := cell_row Gd.out
    have cGn := cell_row Gn.out
    have hpi := HPI.out
    go_upto_region 17 with fail
    clear hpi
    have hps := HPS.out
    clear cGa cGb cGd cGn
    have cGa := cell_row Ga.out
    have cGb := cell_row Gb.out
    have cGd := cell_row Gd.out
    have cGn := cell_row Gn.out
    go_wp2_with fail
    refine (S21.out _).mono ?_
    rintro e w11 ⟨rfl, hb⟩
    clear cGa cGb cGd cGn
    replace HB := Lib.hid (below_then HB.out hb)
    replace Ga := Lib.hid ((hb.block _ (lt_of_heap Ga.out)).trans Ga.out)
    replace Gb := Lib.hid ((hb.block _ (lt_of_heap Gb.out)).trans Gb.out)
    replace KR := Lib.hid (KR.out.older hb)
    replace Gd := Lib.hid ((hb.block _ (lt_of_heap Gd.out)).trans Gd.out)
    replace Gn := Lib.hid ((hb.block _ (lt_of_heap Gn.out)).trans Gn.out)
    clear hb
    clear hps hwv
    go_upto_region 18 with fail
    obtain ⟨wN, hw⟩ : ∃ wx, wx = w11 := ⟨_, rfl⟩
    rw [← hw] at Ga Gb KR Gd Gn HB ⊢
    clear hw
    have xGa := ext_row (B := wN.heap.size) Ga.out (lt_of_heap Ga.out)
    have xGb := ext_row (B := wN.heap.size) Gb.out (lt_of_heap Gb.out)
    have xGd := ext_row (B := wN.heap.size) Gd.out (lt_of_heap Gd.out)
    have xGn := ext_row (B := wN.heap.size) Gn.out (lt_of_heap Gn.out)
    apply wp_region_loose (looseR [_, _, _, _, _, _, _, _, _]) (pureL [])
    · kernel_rfl
    · kernel_rfl
    · kernel_rfl
    · exact allocs_ok [] rfl (by intro T hT; cases hT)
    · exact looseR_st _
    · change wpL _ _ _ _ _ _ _ 9 0 _ _
      refine wpL_calm wN rfl rfl rfl rfl (fun K hK K0 hK0 => ?_)
      go_simp
      first | refine hK _ _ rfl rfl ?_ | refine hK0 _ rfl ?_
      clear hK hK0 K K0
      refine wpL_calm wN rfl rfl rfl rfl (fun K hK K0 hK0 => ?_)
      go_simp
      first | refine hK _ _ rfl rfl ?_ | refine hK0 _ rfl ?_
      clear hK hK0 K K0
      refine wpL_calm wN rfl rfl rfl rfl (fun K hK K0 hK0 => ?_)
      go_simp
      first | refine hK _ _ rfl rfl ?_ | refine hK0 _ rfl ?_
      clear hK hK0 K K0
      refine wpL_calm wN rfl rfl rfl rfl (fun K hK K0 hK0 => ?_)
      go_simp
      first | refine hK _ _ rfl rfl ?_ | refine hK0 _ rfl ?_
      clear hK hK0 K K0
      refine wpL_call (Lft.big B2) (big_some w _) rfl rfl rfl rfl (by first | rfl | go_simp) rfl (fun w' hC hF => ?_) (fun v4 hv4 => ?_)
      · obtain ⟨x, rfl⟩ := hC
        go_simp
        go_at_call 31
        exact gives_loose (S22.out _)
      refine wpL_calm wN rfl rfl rfl rfl (fun K hK K0 hK0 => ?_)
      go_simp
      first | refine hK _ _ rfl rfl ?_ | refine hK0 _ rfl ?_
      clear hK hK0 K K0
      refine wpL_call (Lft.big N) (big_some w _) rfl rfl rfl rfl (by first | rfl | go_simp) rfl (fun w' hC hF => ?_) (fun v6 hv6 => ?_)
      · obtain ⟨x, rfl⟩ := hC
        go_simp
        go_at_call 33
        exact gives_loose (S23.out _)
      refine wpL_call (Lft.big Q) (big_some w _) rfl rfl rfl rfl (by first | rfl | go_simp) rfl (fun w' hC hF => ?_) (fun v7 hv7 => ?_)
      · obtain ⟨x, rfl⟩ := hC
        go_simp
        go_at_call 43
        exact gives_loose (S24.out _ _ _ (hF 4 _ 120 rfl rfl rfl rfl (by decide)) (hF 6 _ 122 rfl rfl rfl rfl (by decide)))
      refine wpL_call (Lft.big Q) (big_some wN _) rfl rfl rfl rfl rfl rfl (fun w' hC hF => ?_) (fun v8 hv8 => ?_)
      · obtain ⟨x, rfl⟩ := hC
        have hf := hF 7 _ 123 rfl rfl rfl rfl (by decide)
        go_simp
        exact ⟨Below.refl _ _, hf⟩
      refine wpL_nil (endL [] rfl (by intro q hq; cases hq) (fun w12 hb hst hap hfin => ?_))
      have Rq : Hid (IsBig w12 v8 Q) := Lib.hid (hfin rfl 8 _ 17 rfl rfl rfl rfl)
      replace HB := Lib.hid (below_then HB.out hb)
      replace Ga := Lib.hid ((hb.block _ (lt_of_heap Ga.out)).trans Ga.out)
      replace Gb := Lib.hid ((hb.block _ (lt_of_heap Gb.out)).trans Gb.out)
      replace KR := Lib.hid (KR.out.older hb)
      replace Gd := Lib.hid ((hb.block _ (lt_of_heap Gd.out)).trans Gd.out)
      replace Gn := Lib.hid ((hb.block _ (lt_of_heap Gn.out)).trans Gn.out)
      clear hb hst hap hfin xGa xGb xGd xGn
      clear hwB hwC
      have cGa := cell_row Ga.out
      have cGb := cell_row Gb.out
      have cGd := cell_row Gd.out
      have cGn := cell_row Gn.out
      go_wp2_with fail
      refine (S25.out _).mono ?_
      rintro e w13 ⟨re, rfl, hr, hb⟩
      clear cGa cGb cGd cGn
      replace HB := Lib.hid (below_then HB.out hb)
      replace Ga := Lib.hid ((hb.block _ (lt_of_heap Ga.out)).trans Ga.out)
      replace Gb := Lib.hid ((hb.block _ (lt_of_heap Gb.out)).trans Gb.out)
      replace KR := Lib.hid (KR.out.older hb)
      replace Gd := Lib.hid ((hb.block _ (lt_of_heap Gd.out)).trans Gd.out)
      replace Gn := Lib.hid ((hb.block _ (lt_of_heap Gn.out)).trans Gn.out)
      replace Rq := Lib.hid (Rq.out.below hb)
      have Re := Lib.hid hr
      clear hr hb
      have cGa := cell_row Ga.out
      have cGb := cell_row Gb.out
      have cGd := cell_row Gd.out
      have cGn := cell_row Gn.out
      go_wp2_with fail
      refine (S26.out _ _ Re.out).mono ?_
      rintro e w14 ⟨rf, rfl, hr, hb⟩
      clear cGa cGb cGd cGn
      replace HB := Lib.hid (below_then HB.out hb)
      replace Ga := Lib.hid ((hb.block _ (lt_of_heap Ga.out)).trans Ga.out)
      replace Gb := Lib.hid ((hb.block _ (lt_of_heap Gb.out)).trans Gb.out)
      replace KR := Lib.hid (KR.out.older hb)
      replace Gd := Lib.hid ((hb.block _ (lt_of_heap Gd.out)).trans Gd.out)
      replace Gn := Lib.hid ((hb.block _ (lt_of_heap Gn.out)).trans Gn.out)
      replace Rq := Lib.hid (Rq.out.below hb)
      replace Re := Lib.hid (Re.out.below hb)
      have Rf := Lib.hid hr
      clear hr hb
      have cGa := cell_row Ga.out
      have cGb := cell_row Gb.out
      have cGd := cell_row Gd.out
      have cGn := cell_row Gn.out
      go_wp2_with fail
      refine (S27.out _ _ _ Rq.out Rf.out).mono ?_
      rintro e w15 ⟨rfl, hb⟩
      clear cGa cGb cGd cGn
      replace HB := Lib.hid (below_then HB.out hb)
      replace Ga := Lib.hid ((hb.block _ (lt_of_heap Ga.out)).trans Ga.out)
      replace Gb := Lib.hid ((hb.block _ (lt_of_heap Gb.out)).trans Gb.out)
      replace KR := Lib.hid (KR.out.older hb)
      replace Gd := Lib.hid ((hb.block _ (lt_of_heap Gd.out)).trans Gd.out)
      replace Gn := Lib.hid ((hb.block _ (lt_of_heap Gn.out)).trans Gn.out)
      replace Rq := Lib.hid (Rq.out.below hb)
      replace Re := Lib.hid (Re.out.below hb)
      replace Rf := Lib.hid (Rf.out.below hb)
      clear hb
      have cGa := cell_row Ga.out
      have cGb := cell_row Gb.out
      have cGd := cell_row Gd.out
      have cGn := cell_row Gn.out
      go_wp2_with fail
      refine (S28.out _).mono ?_
      rintro e w16 ⟨rh, rfl, hr, hb⟩
      clear cGa cGb cGd cGn
      replace HB := Lib.hid (below_then HB.out hb)
      replace Ga := Lib.hid ((hb.block _ (lt_of_heap Ga.out)).trans Ga.out)
      replace Gb := Lib.hid ((hb.block _ (lt_of_heap Gb.out)).trans Gb.out)
      replace KR := Lib.hid (KR.out.older hb)
      replace Gd := Lib.hid ((hb.block _ (lt_of_heap Gd.out)).trans Gd.out)
      replace Gn := Lib.hid ((hb.block _ (lt_of_heap Gn.out)).trans Gn.out)
      replace Rq := Lib.hid (Rq.out.below hb)
      replace Re := Lib.hid (Re.out.below hb)
      replace Rf := Lib.hid (Rf.out.below hb)
      have Rh := Lib.hid hr
      clear hr hb
      have cGa := cell_row Ga.out
      have cGb := cell_row Gb.out
      have cGd := cell_row Gd.out
      have cGn := cell_row Gn.out
      go_wp2_with fail
      refine (S29.out _ _ Rh.out).mono ?_
      rintro e w17 ⟨ri, rfl, hr, hb⟩
      clear cGa cGb cGd cGn
      replace HB := Lib.hid (below_then HB.out hb)
      replace Ga := Lib.hid ((hb.block _ (lt_of_heap Ga.out)).trans Ga.out)
      replace Gb := Lib.hid ((hb.block _ (lt_of_heap Gb.out)).trans Gb.out)
      replace KR := Lib.hid (KR.out.older hb)
      replace Gd := Lib.hid ((hb.block _ (lt_of_heap Gd.out)).trans Gd.out)
      replace Gn := Lib.hid ((hb.block _ (lt_of_heap Gn.out)).trans Gn.out)
      replace Rq := Lib.hid (Rq.out.below hb)
      replace Re := Lib.hid (Re.out.below hb)
      replace Rf := Lib.hid (Rf.out.below hb)
      replace Rh := Lib.hid (Rh.out.below hb)
      have Ri := Lib.hid hr
      clear hr hb
      have cGa := cell_row Ga.out
      have cGb := cell_row Gb.out
      have cGd := cell_row Gd.out
      have cGn := cell_row Gn.out
      go_wp2_with fail
      refine (S30.out _ _ _ Rq.out Ri.out).mono ?_
      rintro e w18 ⟨rfl, hb⟩
      clear cGa cGb cGd cGn
      replace HB := Lib.hid (below_then HB.out hb)
      replace Ga := Lib.hid ((hb.block _ (lt_of_heap Ga.out)).trans Ga.out)
      replace Gb := Lib.hid ((hb.block _ (lt_of_heap Gb.out)).trans Gb.out)
      replace KR := Lib.hid (KR.out.older hb)
      replace Gd := Lib.hid ((hb.block _ (lt_of_heap Gd.out)).trans Gd.out)
      replace Gn := Lib.hid ((hb.block _ (lt_of_heap Gn.out)).trans Gn.out)
      replace Rq := Lib.hid (Rq.out.below hb)
      replace Re := Lib.hid (Re.out.below hb)
      replace Rf := Lib.hid (Rf.out.below hb)
      replace Rh := Lib.hid (Rh.out.below hb)
      replace Ri := Lib.hid (Ri.out.below hb)
      clear hb
      have cGa := cell_row Ga.out
      have cGb := cell_row Gb.out
      have cGd := cell_row Gd.out
      have cGn := cell_row Gn.out
      have e3 := HE3.out
      go_upto_region 22 with fail
      clear e3
      clear cGa cGb cGd cGn
      replace Ga := Lib.hid (keepAl (o' := .cells (wcells L) 31) Ga.out)
      replace Gb := Lib.hid (keepAl (o' := .cells (wcells L) 31) Gb.out)
      replace KR := Lib.hid (KR.out.older (below_al (Below.refl (w18).heap.size (w18)) (.cells (wcells L) 31)))
      replace Gd := Lib.hid (keepAl (o' := .cells (wcells L) 31) Gd.out)
      replace Gn := Lib.hid (keepAl (o' := .cells (wcells L) 31) Gn.out)
      have Gl := Lib.hid (alloc_new (w18) (.cells (wcells L) 31))
      replace HB := Lib.hid (below_al HB.out (.cells (wcells L) 31))
      have cl := cell_row Gl.out
      go_wp2_with fail
      refine (S31.out _ _ KR.out).mono ?_
      rintro e w19 ⟨rfl, hok, hb⟩
      replace HB := Lib.hid (But.below HB.out hb HB.out.size (fun i hi => by have := HSZ.out; omega))
      replace KR := Lib.hid (show IsRom _ _ from Or.inr hok)
      have HOK := Lib.hid hok
      clear hok hb
      clear cl
      have e5 := HE5.out
      go_wp2_with fail
      refine (S32.out _ _ KR.out).mono ?_
      rintro e w20 ⟨rfl, hok, hb⟩
      replace HB := Lib.hid (But.below HB.out hb HB.out.size (fun i hi => by have := HSZ.out; omega))
      replace KR := Lib.hid (show IsRom _ _ from Or.inr hok)
      have HOK := Lib.hid hok
      clear hok hb
      clear e5
      go_wp2_with fail
      refine (SA.out _).mono ?_
      rintro e w21 ⟨rfl, hb⟩
      replace HB := Lib.hid (below_then HB.out hb)
      clear hb
      go_wp2
      go_ret
      exact ⟨rfl, HB.out⟩
end Go.Proofs.Ytkkjbkadaofjpaa
