/- THE WALKS of the laws on package wide. -/
import Derived.Test.YtbjofgoimkmbfaaWide9
import Derived.Test.YtbjofgoimkmbfaaRefW4
namespace Go.Proofs.Ytbjofgoimkmbfaa
open Go Go.RowKit

theorem subN_zero_one : subN 0 1 = M - 1 := by
  unfold subN
  have := M_pos
  rw [Nat.zero_add, Nat.mod_eq_of_lt (by omega)]
theorem mask_512 : maskN 512 = M - 1 := by
  unfold maskN powerN
  rw [if_neg (by decide), subN_zero_one]
theorem top_half : P2 511 ≤ M - 1 := by have := M_half; have := P2_pos 511; omega
theorem sar_ones : sarN (M - 1) 3 = M - 1 := by
  unfold sarN
  have hM := M_split (c := 3) (by decide)
  have h1 := P2_pos (512 - 3)
  have h3 : P2 3 = 8 := by rw [P2_eq]
  rw [h3] at hM ⊢
  rw [if_pos top_half]
  have h2 : (M - 1) / 8 = P2 (512 - 3) - 1 := by rw [hM]; omega
  rw [h2]
  omega
theorem blen_ones : blen (M - 1) = 512 := by
  have := M_pos
  refine blen_eq ?_ fun _ => top_half
  rw [← M_eq]; omega
theorem ones_lt : M - 1 < M := by have := M_pos; omega

set_option maxHeartbeats 1000000 in
theorem awake02_any (w : World) : Calls Try.prog 40 #[] w fun e w' => e = .returned (.bool true) ∧ Below w.heap.size w w' := by
  obtain ⟨K, hK⟩ : ∃ K, K = M - 1 := ⟨_, rfl⟩
  have S2 : Hid (∀ w' p, w'.cell? ⟨p, 0, none⟩ = some (.int .u64 1) → p < w'.heap.size → Calls Try.prog 43 #[.slice (some ⟨p, 0, none⟩) 1 1] w' fun e w'' => e = .returned (wv 1) ∧ Below w'.heap.size w' w'') := Lib.hid fun w' p hc hp => by
    have := of_w _ 1 1 w' (isLimbs_one (l := 1) (by omega) hc hp)
    rwa [one_M] at this
  have S3 : Hid (∀ w' : World, Calls Try.prog 76 #[wv 0, wv 1] w' fun e w'' => e = .returned (.tuple #[wv K, .bool true]) ∧ Below w'.heap.size w' w'') := Lib.hid fun w' => by
    have := sub_w 0 1 M_pos (by have := one_M; have h := Nat.mod_lt 1 M_pos; omega) w'
    rw [subN_zero_one, ← hK] at this
    exact this
  have S4 : Hid (∀ w' : World, Calls Try.prog 58 #[.int .i64 512] w' fun e w'' => e = .returned (wv K) ∧ Below w'.heap.size w' w'') := Lib.hid fun w' => by
    have := mask_w 512 w' (by omega) (by omega)
    rwa [mask_512, ← hK] at this
  have S5 : Hid (∀ w' : World, Calls Try.prog 65 #[wv K, .int .i64 3] w' fun e w'' => e = .returned (wv K) ∧ Below w'.heap.size w' w'') := Lib.hid fun w' => by
    have := sar_w (M - 1) ones_lt 3 w' (by omega) (by omega)
    rw [show clampN 3 = 3 from rfl, sar_ones, ← hK] at this
    exact this
  have S6 : Hid (∀ w' : World, Calls Try.prog 51 #[wv K] w' fun e w'' => e = .returned (.int .i64 512) ∧ Below w'.heap.size w' w'') := Lib.hid fun w' => by
    have := len_w (M - 1) ones_lt w'
    rw [blen_ones, ← hK] at this
    exact this
  clear hK
  go_enter Try.func40, Try.ntmps40
  go_wp2_with fail
  refine (S2.out _ _ (cell_row (alloc_new w _) 0) (by simp)).mono ?_
  rintro e w1 ⟨rfl, hb⟩
  have HB1 := Lib.hid (below_then (below_al (Below.refl w.heap.size w) _) hb)
  clear hb
  go_wp2_with fail
  refine (S3.out _).mono ?_
  rintro e w2 ⟨rfl, hb⟩
  have HB2 := Lib.hid (below_then HB1.out hb)
  clear hb
  go_wp2_with fail
  have HB3 := Lib.hid (below_al HB2.out (.cells (wcells K) 31))
  have g1 := alloc_new w2 (.cells (wcells K) 31)
  have hz : w2.heap.size < (w2.alloc (.cells (wcells K) 31)).heap.size := by simp
  obtain ⟨w3, hw3⟩ : ∃ w3, w3 = w2.alloc (.cells (wcells K) 31) := ⟨_, rfl⟩
  rw [← hw3] at HB3 g1 hz ⊢
  have x1 := ext_row (B := w3.heap.size) g1 hz
  clear hw3 g1 HB2 HB1
  refine wp_region_ext w3.heap.size (by kernel_rfl) (by kernel_rfl) ?_
  repeat (go_big_quiet_step (first
    | (go_at_call 58; exact Calls.quiet_ext (Nat.le_refl _) (S4.out _))
    | (go_at_call 65; exact Calls.quiet_ext (Nat.le_refl _) (S5.out _))
    | (go_at_call 51; exact Calls.quiet_ext (Nat.le_refl _) (S6.out _))))
  refine wpQuiet_nil ?_
  intro w4 hb4
  go_wp2
  go_ret
  exact ⟨rfl, below_then HB3.out hb4⟩

set_option maxHeartbeats 1000000 in
theorem wideOf_any (v : Value) (n L : Nat) (w : World) (hv : IsLimbs w v n L) :
    Calls Try.prog 4 #[v] w fun e w' => e = .returned (.bool true) ∧ Below w.heap.size w w' := by
  have hn := hv.lt
  have HV := Lib.hid hv
  obtain ⟨a, cap, rfl, hcap, _⟩ := hv.ex
  by_cases hL : 40 < L
  · have S := Lib.hid (fun w' => awake02_any w')
    clear hn hv
    go_enter Try.func4, Try.ntmps4
    go_wp2_with fail
    refine (S.out _).mono ?_
    rintro e w1 ⟨rfl, hb⟩
    have HB1 := Lib.hid (below_then (Below.refl w.heap.size w) hb)
    clear hb
    go_wp2_with fail
    go_ret
    exact ⟨rfl, HB1.out⟩
  · have hs : n < BIG := small_of (e := 64 * L) hn (by omega)
    have S1 := Lib.hid (of_any _ n L w (by omega) hv)
    have S2 := Lib.hid (fun (v2 : Value) (w' : World) h => wide_any v2 n w' hs h)
    clear hn hv hs
    obtain ⟨f, hf⟩ : ∃ f, f = decide (M ≤ n) := ⟨_, rfl⟩
    obtain ⟨K, hK⟩ : ∃ K, K = n % M := ⟨_, rfl⟩
    rw [← hf, ← hK] at S2
    have HK := Lib.hid hK
    clear hf hK
    go_enter Try.func4, Try.ntmps4
    go_wp2_with fail
    refine S1.out.mono ?_
    rintro e w1 ⟨r1, rfl, hr, hb⟩
    have HB1 := Lib.hid hb
    have Rr1 := Lib.hid hr
    have HV1 := Lib.hid (HV.out.older hb)
    clear hr hb
    go_wp2_with fail
    refine (S2.out _ _ Rr1.out).mono ?_
    rintro e w2 ⟨rfl, hb⟩
    have HB2 := Lib.hid (below_then HB1.out hb)
    have HV2 := Lib.hid (HV1.out.older hb)
    clear hb
    go_wp2_with fail
    have HB3 := Lib.hid (below_al HB2.out (.cells (wcells K) 31))
    have HV3 := Lib.hid (HV2.out.older (below_al (Below.refl w2.heap.size w2) (.cells (wcells K) 31)))
    have g1 := alloc_new w2 (.cells (wcells K) 31)
    have hz : w2.heap.size < (w2.alloc (.cells (wcells K) 31)).heap.size := by simp
    obtain ⟨w3, hw3⟩ : ∃ w3, w3 = w2.alloc (.cells (wcells K) 31) := ⟨_, rfl⟩
    rw [← hw3] at HB3 HV3 g1 hz ⊢
    have x1 := ext_row (B := w3.heap.size) g1 hz
    have S3 : Hid (∀ x : Ext w3.heap.size w3, Calls Try.prog 43 #[.slice a L cap] x.val fun e w'' => e = .returned (wv K) ∧ Below x.val.heap.size x.val w'') := Lib.hid fun x => by
      have := of_w _ n L x.val (HV3.out.below x.property (Nat.le_refl _))
      rwa [← HK.out] at this
    have S4 := Lib.hid (fun w' => awake02_any w')
    clear hw3 g1
    refine wp_region_ext w3.heap.size (by kernel_rfl) (by kernel_rfl) ?_
    repeat (go_big_quiet_step (first
      | (go_at_call 43; exact Calls.quiet_ext (Nat.le_refl _) (S3.out _))
      | (go_at_call 40; exact Calls.quiet_ext (Nat.le_refl _) (S4.out _))))
    refine wpQuiet_nil ?_
    intro w4 hb4
    go_wp2
    go_ret
    exact ⟨rfl, below_then HB3.out hb4⟩
end Go.Proofs.Ytbjofgoimkmbfaa
