/- SEVERAL TEXTS of the seat, one behind the other: each says at its head what it proves. -/
import Derived.Test.YtenkaobgoknlhaaK6
import Derived.Test.YtenkaobgoknlhaaRefW4
import Derived.Deep.RegionHeld3
import Derived.Deep.DrawnRows
/- THE WALKS of the laws on package wide. -/
namespace Go.Proofs.Ytenkaobgoknlhaa
open Go Go.RowKit

theorem subN_zero_one : subN 0 1 = M - 1 := by
  unfold subN
  have := M_pos
  rw [Nat.zero_add, Nat.mod_eq_of_lt (by omega)]
theorem mask_512 : maskN 512 = M - 1 := by
  unfold maskN powerN
  rw [if_neg (by decide), subN_zero_one]
theorem top_half : P2 511 ≤ M - 1 := by have := M_half; have := P2_pos 511; omega
theorem sar_ones : sarN (M - 1) 3 = M - 1 := by
  unfold sarN
  have hM := M_split (c := 3) (by decide)
  have h1 := P2_pos (512 - 3)
  have h3 : P2 3 = 8 := by rw [P2_eq]
  rw [h3] at hM ⊢
  rw [if_pos top_half]
  have h2 : (M - 1) / 8 = P2 (512 - 3) - 1 := by rw [hM]; omega
  rw [h2]
  omega
theorem blen_ones : blen (M - 1) = 512 := by
  have := M_pos
  refine blen_eq ?_ fun _ => top_half
  rw [← M_eq]; omega
theorem ones_lt : M - 1 < M := by have := M_pos; omega

set_option maxHeartbeats 1000000 in
theorem awake02_any (w : World) : Calls Try.prog 28 #[] w fun e w' => e = .returned (.bool true) ∧ Below w.heap.size w w' := by
  obtain ⟨K, hK⟩ : ∃ K, K = M - 1 := ⟨_, rfl⟩
  have S2 : Hid (∀ w' p, w'.cell? ⟨p, 0, none⟩ = some (.int .u64 1) → p < w'.heap.size → Calls Try.prog 31 #[.slice (some ⟨p, 0, none⟩) 1 1] w' fun e w'' => e = .returned (wv 1) ∧ Below w'.heap.size w' w'') := Lib.hid fun w' p hc hp => by
    have := of_w _ 1 1 w' (isLimbs_one (l := 1) (by omega) hc hp)
    rwa [one_M] at this
  have S3 : Hid (∀ w' : World, Calls Try.prog 64 #[wv 0, wv 1] w' fun e w'' => e = .returned (.tuple #[wv K, .bool true]) ∧ Below w'.heap.size w' w'') := Lib.hid fun w' => by
    have := sub_w 0 1 M_pos (by have := one_M; have h := Nat.mod_lt 1 M_pos; omega) w'
    rw [subN_zero_one, ← hK] at this
    exact this
  have S4 : Hid (∀ w' : World, Calls Try.prog 46 #[.int .i64 512] w' fun e w'' => e = .returned (wv K) ∧ Below w'.heap.size w' w'') := Lib.hid fun w' => by
    have := mask_w 512 w' (by omega) (by omega)
    rwa [mask_512, ← hK] at this
  have S5 : Hid (∀ w' : World, Calls Try.prog 53 #[wv K, .int .i64 3] w' fun e w'' => e = .returned (wv K) ∧ Below w'.heap.size w' w'') := Lib.hid fun w' => by
    have := sar_w (M - 1) ones_lt 3 w' (by omega) (by omega)
    rw [show clampN 3 = 3 from rfl, sar_ones, ← hK] at this
    exact this
  have S6 : Hid (∀ w' : World, Calls Try.prog 39 #[wv K] w' fun e w'' => e = .returned (.int .i64 512) ∧ Below w'.heap.size w' w'') := Lib.hid fun w' => by
    have := len_w (M - 1) ones_lt w'
    rw [blen_ones, ← hK] at this
    exact this
  clear hK
  go_enter Try.func28, Try.ntmps28
  go_wp2_with fail
  refine (S2.out _ _ (cell_row (alloc_new w _) 0) (by simp)).mono ?_
  rintro e w1 ⟨rfl, hb⟩
  have HB1 := Lib.hid (below_then (below_al (Below.refl w.heap.size w) _) hb)
  clear hb
  go_wp2_with fail
  refine (S3.out _).mono ?_
  rintro e w2 ⟨rfl, hb⟩
  have HB2 := Lib.hid (below_then HB1.out hb)
  clear hb
  go_wp2_with fail
  have HB3 := Lib.hid (below_al HB2.out (.cells (wcells K) 26))
  have g1 := alloc_new w2 (.cells (wcells K) 26)
  have hz : w2.heap.size < (w2.alloc (.cells (wcells K) 26)).heap.size := by simp
  obtain ⟨w3, hw3⟩ : ∃ w3, w3 = w2.alloc (.cells (wcells K) 26) := ⟨_, rfl⟩
  rw [← hw3] at HB3 g1 hz ⊢
  have x1 := ext_row (B := w3.heap.size) g1 hz
  clear hw3 g1 HB2 HB1
  refine wp_region_ext w3.heap.size (by kernel_rfl) (by kernel_rfl) ?_
  repeat (go_big_quiet_step (first
    | (go_at_call 46; exact Calls.quiet_ext (Nat.le_refl _) (S4.out _))
    | (go_at_call 53; exact Calls.quiet_ext (Nat.le_refl _) (S5.out _))
    | (go_at_call 39; exact Calls.quiet_ext (Nat.le_refl _) (S6.out _))))
  refine wpQuiet_nil ?_
  intro w4 hb4
  go_wp2
  go_ret
  exact ⟨rfl, below_then HB3.out hb4⟩

set_option maxHeartbeats 1000000 in
theorem wideOf_any (v : Value) (n L : Nat) (w : World) (hv : IsLimbs w v n L) :
    Calls Try.prog 3 #[v] w fun e w' => e = .returned (.bool true) ∧ Below w.heap.size w w' := by
  have hn := hv.lt
  have HV := Lib.hid hv
  obtain ⟨a, cap, rfl, hcap, _⟩ := hv.ex
  by_cases hL : 40 < L
  · have S := Lib.hid (fun w' => awake02_any w')
    clear hn hv
    go_enter Try.func3, Try.ntmps3
    go_wp2_with fail
    refine (S.out _).mono ?_
    rintro e w1 ⟨rfl, hb⟩
    have HB1 := Lib.hid (below_then (Below.refl w.heap.size w) hb)
    clear hb
    go_wp2_with fail
    go_ret
    exact ⟨rfl, HB1.out⟩
  · have hs : n < BIG := small_of (e := 64 * L) hn (by omega)
    have S1 := Lib.hid (of_any _ n L w (by omega) hv)
    have S2 := Lib.hid (fun (v2 : Value) (w' : World) h => wide_any v2 n w' hs h)
    clear hn hv hs
    obtain ⟨f, hf⟩ : ∃ f, f = decide (M ≤ n) := ⟨_, rfl⟩
    obtain ⟨K, hK⟩ : ∃ K, K = n % M := ⟨_, rfl⟩
    rw [← hf, ← hK] at S2
    have HK := Lib.hid hK
    clear hf hK
    go_enter Try.func3, Try.ntmps3
    go_wp2_with fail
    refine S1.out.mono ?_
    rintro e w1 ⟨r1, rfl, hr, hb⟩
    have HB1 := Lib.hid hb
    have Rr1 := Lib.hid hr
    have HV1 := Lib.hid (HV.out.older hb)
    clear hr hb
    go_wp2_with fail
    refine (S2.out _ _ Rr1.out).mono ?_
    rintro e w2 ⟨rfl, hb⟩
    have HB2 := Lib.hid (below_then HB1.out hb)
    have HV2 := Lib.hid (HV1.out.older hb)
    clear hb
    go_wp2_with fail
    have HB3 := Lib.hid (below_al HB2.out (.cells (wcells K) 26))
    have HV3 := Lib.hid (HV2.out.older (below_al (Below.refl w2.heap.size w2) (.cells (wcells K) 26)))
    have g1 := alloc_new w2 (.cells (wcells K) 26)
    have hz : w2.heap.size < (w2.alloc (.cells (wcells K) 26)).heap.size := by simp
    obtain ⟨w3, hw3⟩ : ∃ w3, w3 = w2.alloc (.cells (wcells K) 26) := ⟨_, rfl⟩
    rw [← hw3] at HB3 HV3 g1 hz ⊢
    have x1 := ext_row (B := w3.heap.size) g1 hz
    have S3 : Hid (∀ x : Ext w3.heap.size w3, Calls Try.prog 31 #[.slice a L cap] x.val fun e w'' => e = .returned (wv K) ∧ Below x.val.heap.size x.val w'') := Lib.hid fun x => by
      have := of_w _ n L x.val (HV3.out.below x.property (Nat.le_refl _))
      rwa [← HK.out] at this
    have S4 := Lib.hid (fun w' => awake02_any w')
    clear hw3 g1
    refine wp_region_ext w3.heap.size (by kernel_rfl) (by kernel_rfl) ?_
    repeat (go_big_quiet_step (first
      | (go_at_call 31; exact Calls.quiet_ext (Nat.le_refl _) (S3.out _))
      | (go_at_call 28; exact Calls.quiet_ext (Nat.le_refl _) (S4.out _))))
    refine wpQuiet_nil ?_
    intro w4 hb4
    go_wp2
    go_ret
    exact ⟨rfl, below_then HB3.out hb4⟩
end Go.Proofs.Ytenkaobgoknlhaa

/- THE WALK of the law on shifts. -/
namespace Go.Proofs.Ytenkaobgoknlhaa
open Go Go.RowKit

theorem min_clamp (n : Int) : min (max n 0) 600 = (clampR n : Int) := by
  rcases (show n < 0 ∨ 0 ≤ n by omega) with h | h
  · rw [clampR_neg h]; omega
  · rcases (show 600 < n ∨ n ≤ 600 by omega) with h2 | h2
    · rw [clampR_hi h2]; omega
    · rw [clampR_mid h h2]; omega
theorem clamp_both (n : Int) : clampN n = min (clampR n) 512 := by
  rcases (show n < 0 ∨ 0 ≤ n by omega) with h | h
  · rw [clampR_neg h, clampN_neg h]; rfl
  · rcases (show 600 < n ∨ n ≤ 600 by omega) with h2 | h2
    · rw [clampR_hi h2, clampN_hi (by omega)]; rfl
    · have := clampR_mid h h2
      rcases (show 512 < n ∨ n ≤ 512 by omega) with h3 | h3
      · rw [clampN_hi h3]; omega
      · have := clampN_mid h h3; omega
/-- Beyond 512 nothing is left, as at 512. -/
theorem shl_cap (a c : Nat) : a * P2 c % M = a * P2 (min c 512) % M := by
  rcases Nat.le_total c 512 with h | h
  · rw [Nat.min_eq_left h]
  · rw [Nat.min_eq_right h, show c = 512 + (c - 512) by omega, P2_add, ← M_eq, ← Nat.mul_assoc, Nat.mul_right_comm, Nat.mul_mod_left, Nat.mul_mod_left]
theorem shr_cap {a : Nat} (ha : a < M) (c : Nat) : a / P2 c = a / P2 (min c 512) := by
  rcases Nat.le_total c 512 with h | h
  · rw [Nat.min_eq_left h]
  · rw [Nat.min_eq_right h, ← M_eq, Nat.div_eq_of_lt ha, Nat.div_eq_of_lt (Nat.lt_of_lt_of_le ha (by rw [M_eq]; exact P2_le h))]
theorem lost_cmp (a c : Nat) (ha : a < M) : decide (a % P2 (min c 512) ≠ 0) = (cmpN (a / P2 c * P2 c) a != 0) := by
  have hd := Nat.div_add_mod a (P2 c)
  rw [Nat.mul_comm] at hd
  have e : (a % P2 (min c 512) = 0) ↔ (a % P2 c = 0) := by
    rcases Nat.le_total c 512 with h | h
    · rw [Nat.min_eq_left h]
    · rw [Nat.min_eq_right h, ← M_eq, Nat.mod_eq_of_lt ha, Nat.mod_eq_of_lt (Nat.lt_of_lt_of_le ha (by rw [M_eq]; exact P2_le h))]
  by_cases h : a % P2 c = 0
  · rw [cmpN_eq (by omega), decide_eq_false (p := a % P2 (min c 512) ≠ 0) (fun hh => hh (e.2 h))]; rfl
  · rw [cmpN_lt (by omega), decide_eq_true (p := a % P2 (min c 512) ≠ 0) (fun hh => h (e.1 hh))]; rfl

attribute [local go_sem ↓] Go.wp_at_zero Go.wp_at_succ

set_option maxHeartbeats 4000000 in
theorem wideShifts_any (a : Nat) (n : Int) (w : World) (ha : a < M) (h1 : -9223372036854775808 ≤ n) (h2 : n ≤ 9223372036854775807) :
    Calls Try.prog 5 #[wv a, .int .i64 n] w fun e w' => e = .returned (.bool true) ∧ Below w.heap.size w w' := by
  have hcl := clampR_le n
  have hs := small_M ha
  have hE := clamp_both n
  obtain ⟨c, hc⟩ : ∃ c, c = clampR n := ⟨_, rfl⟩
  have hmin : min (max n 0) 600 = (c : Int) := by rw [min_clamp, hc]
  rw [← hc] at hcl hE
  obtain ⟨U, hU⟩ : ∃ U, U = a * P2 c % M := ⟨_, rfl⟩
  obtain ⟨D, hD⟩ : ∃ D, D = a / P2 c := ⟨_, rfl⟩
  obtain ⟨SR, hSR⟩ : ∃ SR, SR = sarN a (min c 512) := ⟨_, rfl⟩
  have hUs : a * P2 c < BIG := by
    rw [M_eq] at ha
    have : a * P2 c < P2 512 * P2 c := Nat.mul_lt_mul_of_pos_right ha (P2_pos _)
    rw [← P2_add] at this
    exact small_of this (by omega)
  have hDM : D < M := by rw [hD]; exact Nat.lt_of_le_of_lt (Nat.div_le_self _ _) ha
  have hDs : D * P2 c ≤ a := by rw [hD]; exact Nat.div_mul_le_self _ _
  have SB := Lib.hid (fun w' => big_any a ha w')
  have S1 := Lib.hid (fun (v : Value) (w' : World) h => rshl_any v a c w' hs (by omega) h)
  have S2 : Hid (∀ (v : Value) (w' : World), IsBig w' v (a * P2 c) → Calls Try.prog 29 #[v] w' fun e w'' => e = .returned (.tuple #[wv U, .bool (decide (M ≤ a * P2 c))]) ∧ Below w'.heap.size w' w'') := Lib.hid fun v w' h => by
    have := wide_any v _ w' hUs h
    rwa [← hU] at this
  have S3 : Hid (∀ (v : Value) (w' : World), IsBig w' v a → Calls Try.prog 34 #[v, .int .i64 c] w' (GivesBig D w')) := Lib.hid fun v w' h => by
    have := rshr_any v a c w' hs (by omega) h
    rwa [← hD] at this
  have S4 : Hid (∀ (v : Value) (w' : World), IsBig w' v D → Calls Try.prog 29 #[v] w' fun e w'' => e = .returned (.tuple #[wv D, .bool (decide (M ≤ D))]) ∧ Below w'.heap.size w' w'') := Lib.hid fun v w' h => by
    have := wide_any v D w' (small_M hDM) h
    rwa [Nat.mod_eq_of_lt hDM] at this
  have S5 : Hid (∀ w' : World, Calls Try.prog 50 #[wv a, .int .i64 n] w' fun e w'' => e = .returned (.tuple #[wv D, .bool (cmpN (D * P2 c) a != 0)]) ∧ Below w'.heap.size w' w'') := Lib.hid fun w' => by
    have := shr_any a ha n w' h1 h2
    rw [hE, ← shr_cap ha, lost_cmp a c ha, ← hD] at this
    exact this
  have S6 : Hid (∀ w' : World, Calls Try.prog 51 #[wv a, .int .i64 n] w' fun e w'' => e = .returned (wv U) ∧ Below w'.heap.size w' w'') := Lib.hid fun w' => by
    have := shl_any a n w' h1 h2
    rw [hE, ← shl_cap, ← hU] at this
    exact this
  have S7 : Hid (∀ (v : Value) (w' : World), IsBig w' v D → Calls Try.prog 49 #[v, .int .i64 c] w' (GivesBig (D * P2 c) w')) := Lib.hid fun v w' h => rshl_any v D c w' (small_M hDM) (by omega) h
  have S8 : Hid (∀ (v v2 : Value) (w' : World), IsBig w' v (D * P2 c) → IsBig w' v2 a → Calls Try.prog 52 #[v, v2] w' fun e w'' => e = .returned (.int .i64 (cmpN (D * P2 c) a)) ∧ Below w'.heap.size w' w'') := Lib.hid fun v v2 w' h h' => cmp_any v v2 _ _ w' (Nat.lt_of_le_of_lt hDs hs) hs h h'
  have S9 : Hid (∀ w' : World, Calls Try.prog 53 #[wv a, .int .i64 n] w' fun e w'' => e = .returned (wv SR) ∧ Below w'.heap.size w' w'') := Lib.hid fun w' => by
    have := sar_w a ha n w' h1 h2
    rw [hE, ← hSR] at this
    exact this
  have S10 : Hid (∀ w' : World, Calls Try.prog 54 #[wv a, .int .i64 n] w' fun e w'' => e = .returned (wv SR) ∧ Below w'.heap.size w' w'') := Lib.hid fun w' => by
    have := rsar_any a ha n w' h1 h2
    rw [← hc, ← hSR] at this
    exact this
  have SA := Lib.hid (fun w' => awake02_any w')
  obtain ⟨f1, hf1⟩ : ∃ f, f = decide (M ≤ a * P2 c) := ⟨_, rfl⟩
  obtain ⟨f2, hf2⟩ : ∃ f, f = decide (M ≤ D) := ⟨_, rfl⟩
  obtain ⟨CV, hCV⟩ : ∃ C, C = cmpN (D * P2 c) a := ⟨_, rfl⟩
  rw [← hf1] at S2
  rw [← hf2] at S4
  rw [← hCV] at S5 S8
  obtain ⟨E, hEE⟩ : ∃ E, E = D * P2 c := ⟨_, rfl⟩
  obtain ⟨UU, hUU⟩ : ∃ E, E = a * P2 c := ⟨_, rfl⟩
  rw [← hEE] at S7 S8
  rw [← hUU] at S1 S2
  have hcm : Hid (min (max n 0) 600 = (c : Int)) := Lib.hid hmin
  clear ha hs hE hc hU hD hSR hUs hDM hDs hf1 hf2 hCV hEE hUU hmin h1 h2
  go_enter Try.func5, Try.ntmps5
  go_upto_region 2 with fail
  rw [hcm.out]
  have G0 : Hid ((w.alloc (.cells (wcells a) 26)).heap[w.heap.size]? = some (.cells (wcells a) 26 (0, 0))) := Lib.hid (alloc_new w _)
  have hB0 := Lib.hid (below_al (Below.refl w.heap.size w) (.cells (wcells a) 26))
  obtain ⟨w0, hw0⟩ : ∃ w0, w0 = w.alloc (.cells (wcells a) 26) := ⟨_, rfl⟩
  rw [← hw0] at G0 hB0 ⊢
  clear hw0
  have c0 := cell_row G0.out
  go_wp2_with fail
  refine (SB.out _).mono ?_
  rintro e w1 ⟨r1, rfl, hr, hb⟩
  have HB1 := Lib.hid (below_then hB0.out hb)
  have Rr1 := Lib.hid hr
  have G0 := Lib.hid ((hb.block _ (lt_of_heap G0.out)).trans G0.out)
  clear hr hb
  go_wp2_with fail
  refine (S1.out _ _ Rr1.out).mono ?_
  rintro e w2 ⟨r2, rfl, hr, hb⟩
  have HB2 := Lib.hid (below_then HB1.out hb)
  have Rr2 := Lib.hid hr
  have G0 := Lib.hid ((hb.block _ (lt_of_heap G0.out)).trans G0.out)
  clear hr hb
  go_wp2_with fail
  refine (S2.out _ _ Rr2.out).mono ?_
  rintro e w3 ⟨rfl, hb⟩
  have HB3 := Lib.hid (below_then HB2.out hb)
  have G0 := Lib.hid ((hb.block _ (lt_of_heap G0.out)).trans G0.out)
  clear hb
  clear c0
  have G0 := Lib.hid (keepAl (o' := .cells (wcells U) 26) G0.out)
  have GU := Lib.hid (alloc_new w3 (.cells (wcells U) 26))
  have HB4 := Lib.hid (below_al HB3.out (.cells (wcells U) 26))
  have c0 := cell_row G0.out
  go_wp2_with fail
  refine (SB.out _).mono ?_
  rintro e w4 ⟨r4, rfl, hr, hb⟩
  have HB5 := Lib.hid (below_then HB4.out hb)
  have Rr4 := Lib.hid hr
  have G0 := Lib.hid ((hb.block _ (lt_of_heap G0.out)).trans G0.out)
  have GU := Lib.hid ((hb.block _ (lt_of_heap GU.out)).trans GU.out)
  clear hr hb
  clear c0
  go_wp2_with fail
  refine (S3.out _ _ Rr4.out).mono ?_
  rintro e w5 ⟨r5, rfl, hr, hb⟩
  have HB6 := Lib.hid (below_then HB5.out hb)
  have Rr5 := Lib.hid hr
  have G0 := Lib.hid ((hb.block _ (lt_of_heap G0.out)).trans G0.out)
  have GU := Lib.hid ((hb.block _ (lt_of_heap GU.out)).trans GU.out)
  clear hr hb
  go_wp2_with fail
  refine (S4.out _ _ Rr5.out).mono ?_
  rintro e w6 ⟨rfl, hb⟩
  have HB7 := Lib.hid (below_then HB6.out hb)
  have G0 := Lib.hid ((hb.block _ (lt_of_heap G0.out)).trans G0.out)
  have GU := Lib.hid ((hb.block _ (lt_of_heap GU.out)).trans GU.out)
  have Rr5 := Lib.hid (Rr5.out.below hb)
  clear hb
  have G0 := Lib.hid (keepAl (o' := .cells (wcells D) 26) G0.out)
  have GU := Lib.hid (keepAl (o' := .cells (wcells D) 26) GU.out)
  have Rr5 := Lib.hid (Rr5.out.below (below_al (Below.refl w6.heap.size w6) (.cells (wcells D) 26)))
  have GD := Lib.hid (alloc_new w6 (.cells (wcells D) 26))
  have HB8 := Lib.hid (below_al HB7.out (.cells (wcells D) 26))
  have c0 := cell_row G0.out
  go_wp2_with fail
  refine (S5.out _).mono ?_
  rintro e w7 ⟨rfl, hb⟩
  have HB9 := Lib.hid (below_then HB8.out hb)
  have G0 := Lib.hid ((hb.block _ (lt_of_heap G0.out)).trans G0.out)
  have GU := Lib.hid ((hb.block _ (lt_of_heap GU.out)).trans GU.out)
  have GD := Lib.hid ((hb.block _ (lt_of_heap GD.out)).trans GD.out)
  have Rr5 := Lib.hid (Rr5.out.below hb)
  clear hb
  clear c0
  have G0 := Lib.hid (keepAl (o' := .cells (wcells D) 26) G0.out)
  have GU := Lib.hid (keepAl (o' := .cells (wcells D) 26) GU.out)
  have GD := Lib.hid (keepAl (o' := .cells (wcells D) 26) GD.out)
  have Rr5 := Lib.hid (Rr5.out.below (below_al (Below.refl w7.heap.size w7) (.cells (wcells D) 26)))
  have GG := Lib.hid (alloc_new w7 (.cells (wcells D) 26))
  have HB10 := Lib.hid (below_al HB9.out (.cells (wcells D) 26))
  go_upto_region 6 with fail
  obtain ⟨w8, hw8⟩ : ∃ w8, w8 = w7.alloc (.cells (wcells D) 26) := ⟨_, rfl⟩
  rw [← hw8] at G0 GU GD GG Rr5 HB10 ⊢
  clear hw8
  have HB := Lib.hid (Below.refl w8.heap.size w8).drew
  have RL : Hid (∀ w', Below w8.heap.size w8 w' → IsBig w' r5 D) := Lib.hid fun w' h => Rr5.out.below h
  have k0 := cell_row G0.out
  have k1 := cell_row GU.out
  have k2 := cell_row GD.out
  have k3 := cell_row GG.out
  go_region_held3 (fun w' => (∀ j, w'.cell? ⟨w.heap.size, j, none⟩ = (wcells a)[j]?) ∧ (∀ j, w'.cell? ⟨w3.heap.size, j, none⟩ = (wcells U)[j]?) ∧ (∀ j, w'.cell? ⟨w6.heap.size, j, none⟩ = (wcells D)[j]?) ∧ (∀ j, w'.cell? ⟨w7.heap.size, j, none⟩ = (wcells D)[j]?))
    (first
      | go_keep
      | (go_split_ands
         refine ⟨keepRow hb ?_, keepRow hb ?_, keepRow hb ?_, keepRow hb ?_⟩ <;> assumption))
    ((first
      | (go_at_call 51; refine (S6.out _).mono ?_; rintro e wA ⟨rfl, hb⟩; have HB := Lib.hid (below_then HB.out hb))
      | (go_at_call 49; refine (S7.out _ _ (RL.out _ HB.out)).mono ?_; rintro e wA ⟨rA, rfl, hr, hb⟩; have HB := Lib.hid (below_then HB.out hb); have RA := Lib.hid hr; try have RB := Lib.hid (RB.out.below hb))
      | (go_at_call 32; refine (SB.out _).mono ?_; rintro e wA ⟨rB, rfl, hr, hb⟩; have HB := Lib.hid (below_then HB.out hb); have RB := Lib.hid hr; try have RA := Lib.hid (RA.out.below hb))
      | (go_at_call 52; refine (S8.out _ _ _ RA.out RB.out).mono ?_; rintro e wA ⟨rfl, hb⟩; have HB := Lib.hid (below_then HB.out hb))
      | (go_at_call 53; refine (S9.out _).mono ?_; rintro e wA ⟨rfl, hb⟩; have HB := Lib.hid (below_then HB.out hb))
      | (go_at_call 54; refine (S10.out _).mono ?_; rintro e wA ⟨rfl, hb⟩; have HB := Lib.hid (below_then HB.out hb))
      | (go_at_call 28; refine (SA.out _).mono ?_; rintro e wA ⟨rfl, hb⟩; have HB := Lib.hid (below_then HB.out hb))))
  all_goals
    go_wp2
    go_ret
    exact ⟨rfl, below_then HB10.out HB.out⟩
end Go.Proofs.Ytenkaobgoknlhaa
