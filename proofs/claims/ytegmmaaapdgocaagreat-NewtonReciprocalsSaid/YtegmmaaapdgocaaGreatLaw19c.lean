/- THE WALK of the law on newton's reciprocals. -/
import Derived.Test.YtegmmaaapdgocaaGreatLaw19b
namespace Go.Proofs.YtegmmaaapdgocaaGreat
open Go Go.RowKit

theorem nwp_min (k : Nat) : nwp (min k 5) = nwp k := by
  rcases Nat.le_total k 5 with h | h
  · rw [Nat.min_eq_left h]
  · rw [Nat.min_eq_right h, nwp_big k h, nwp_big 5 (Nat.le_refl _)]
theorem nw_far {D k : Nat} (h : NwK D k) : (D * nwY D k - P2 288) + (P2 288 - D * nwY D k) ≤ P2 (288 - nwp k) + P2 138 := by
  have h1 := h.up
  have h2 := h.dn
  rw [← Int.natCast_mul] at h1 h2
  omega
theorem cmp_neg {a b : Nat} (h : a ≤ b) : cmpN a b ≤ 0 := by
  unfold cmpN
  split
  · decide
  · split
    · omega
    · decide
attribute [local go_sem ↓] Go.wp_at_zero Go.wp_at_succ
theorem rounds19_any (w : World) : Calls Tryz.prog 57 #[] w fun e w' => e = .returned (.int .i64 5) ∧ w' = w := by
  go_enter Tryz.func57, Tryz.ntmps57
  go_wp2
  go_ret
  exact ⟨rfl, rfl⟩
set_option maxRecDepth 100000 in
set_option maxHeartbeats 4000000 in
theorem newtonReciprocals_no (d : Nat) (k E : Int) (w : World) (hd : d < M) (hE : (E = 4 ∧ (k < 0 ∨ 10 < k ∨ 120 < blen d)) ∨ (E = 5 ∧ 0 ≤ k ∧ k ≤ 10 ∧ d = 0))
    (hT : ∀ (e : Nat) (w' : World), Calls Tryz.prog 58 #[.pointer (some ⟨e, 0, none⟩), wv d, .int .i64 k] w' fun x w'' => x = .returned (.tuple #[wv 0, .int .i64 E]) ∧ Below w'.heap.size w' w'') :
    Calls Tryz.prog 14 #[wv d, .int .i64 k] w fun e w' => e = .returned (.bool true) ∧ Below w.heap.size w w' := by
  have S0 := Lib.hid (fun w' => newE_nil w')
  have S1 := Lib.hid hT
  have SR := Lib.hid (fun w' => rounds19_any w')
  have S3 := Lib.hid (fun w' => big_any d hd w')
  have S4 := Lib.hid (fun v w' h => rlen_any v d w' (small_M hd) h)
  have SA := Lib.hid (fun w' => awake19_any w')
  have hz : d = 0 → blen d = 0 := fun h => by rw [h, blen_zero]
  obtain ⟨l, hl⟩ : ∃ l, l = blen d := ⟨_, rfl⟩
  rw [← hl] at S4 hE hz
  rcases hE with ⟨rfl, h⟩ | ⟨rfl, h0, h1, h2⟩
  · by_cases c0 : k < 0
    · have b0 : decide (k < 0) = true := decide_eq_true c0
      clear h c0
      clear hd hz hT hl
      go_enter Tryz.func14, Tryz.ntmps14
      have HB := Lib.hid (Below.refl w.heap.size w)
      have Gd := Lib.hid (alloc_new (w) (.cells (wcells d) 24))
      replace HB := Lib.hid (below_al HB.out (.cells (wcells d) 24))
      have cGd := cell_row Gd.out
      go_upto_region 1 with fail
      clear cGd
      obtain ⟨wA, hw⟩ : ∃ wx, wx = (w).alloc (.cells (wcells d) 24) := ⟨_, rfl⟩
      rw [← hw] at Gd HB ⊢
      clear hw
      have HZ := Lib.hid (lt_of_heap Gd.out)
      have cGd := cell_row Gd.out
      go_wp2_with fail
      refine (S0.out _).mono ?_
      rintro x w1 ⟨e, g, rfl, hen, hb⟩
      clear cGd
      replace HB := Lib.hid (below_then HB.out hb)
      replace Gd := Lib.hid ((hb.block _ (lt_of_heap Gd.out)).trans Gd.out)
      have Ge := Lib.hid hen.eng
      have KR := Lib.hid hen.rom
      have HNE := Lib.hid hen.ne
      have HLE := Lib.hid hen.le
      have HLG := Lib.hid hen.lg
      clear hen hb
      have cGd := cell_row Gd.out
      have cGe := cell_row Ge.out
      go_wp2_with fail
      refine (SR.out _).mono ?_
      rintro e w2 ⟨rfl, rfl⟩
      clear cGd cGe
      have cGd := cell_row Gd.out
      go_wp2_with fail
      refine (S1.out _ _).mono ?_
      rintro e w3 ⟨rfl, hb⟩
      clear cGd
      replace HB := Lib.hid (below_then HB.out hb)
      replace Gd := Lib.hid ((hb.block _ (lt_of_heap Gd.out)).trans Gd.out)
      clear hb
      replace Gd := Lib.hid (keepAl (o' := .cells (wcells 0) 24) Gd.out)
      have Gg := Lib.hid (alloc_new (w3) (.cells (wcells 0) 24))
      replace HB := Lib.hid (below_al HB.out (.cells (wcells 0) 24))
      have cGd := cell_row Gd.out
      have cGg := cell_row Gg.out
      go_wp2_with fail
      refine (S3.out _).mono ?_
      rintro e w4 ⟨rb, rfl, hr, hb⟩
      clear cGd cGg
      replace HB := Lib.hid (below_then HB.out hb)
      replace Gd := Lib.hid ((hb.block _ (lt_of_heap Gd.out)).trans Gd.out)
      replace Gg := Lib.hid ((hb.block _ (lt_of_heap Gg.out)).trans Gg.out)
      have Rb := Lib.hid hr
      clear hr hb
      have cGd := cell_row Gd.out
      have cGg := cell_row Gg.out
      go_wp2_with fail
      refine (S4.out _ _ Rb.out).mono ?_
      rintro e w5 ⟨rfl, hb⟩
      clear cGd cGg
      replace HB := Lib.hid (below_then HB.out hb)
      replace Gd := Lib.hid ((hb.block _ (lt_of_heap Gd.out)).trans Gd.out)
      replace Gg := Lib.hid ((hb.block _ (lt_of_heap Gg.out)).trans Gg.out)
      replace Rb := Lib.hid (Rb.out.below hb)
      clear hb
      have cGd := cell_row Gd.out
      have cGg := cell_row Gg.out
      go_wp2_with fail
      refine (SA.out _).mono ?_
      rintro e w6 ⟨rfl, hb⟩
      clear cGd cGg
      replace HB := Lib.hid (below_then HB.out hb)
      replace Gd := Lib.hid ((hb.block _ (lt_of_heap Gd.out)).trans Gd.out)
      replace Gg := Lib.hid ((hb.block _ (lt_of_heap Gg.out)).trans Gg.out)
      clear hb
      have cGd := cell_row Gd.out
      have cGg := cell_row Gg.out
      go_wp2
      go_ret
      exact ⟨rfl, HB.out⟩
    · have b0 : decide (k < 0) = false := decide_eq_false c0
      by_cases c1 : 10 < k
      · have b1 : decide (10 < k) = true := decide_eq_true c1
        clear h c0 c1
        clear hd hz hT hl
        go_enter Tryz.func14, Tryz.ntmps14
        have HB := Lib.hid (Below.refl w.heap.size w)
        have Gd := Lib.hid (alloc_new (w) (.cells (wcells d) 24))
        replace HB := Lib.hid (below_al HB.out (.cells (wcells d) 24))
        have cGd := cell_row Gd.out
        go_upto_region 1 with fail
        clear cGd
        obtain ⟨wA, hw⟩ : ∃ wx, wx = (w).alloc (.cells (wcells d) 24) := ⟨_, rfl⟩
        rw [← hw] at Gd HB ⊢
        clear hw
        have HZ := Lib.hid (lt_of_heap Gd.out)
        have cGd := cell_row Gd.out
        go_wp2_with fail
        refine (S0.out _).mono ?_
        rintro x w7 ⟨e, g, rfl, hen, hb⟩
        clear cGd
        replace HB := Lib.hid (below_then HB.out hb)
        replace Gd := Lib.hid ((hb.block _ (lt_of_heap Gd.out)).trans Gd.out)
        have Ge := Lib.hid hen.eng
        have KR := Lib.hid hen.rom
        have HNE := Lib.hid hen.ne
        have HLE := Lib.hid hen.le
        have HLG := Lib.hid hen.lg
        clear hen hb
        have cGd := cell_row Gd.out
        have cGe := cell_row Ge.out
        go_wp2_with fail
        refine (SR.out _).mono ?_
        rintro e w8 ⟨rfl, rfl⟩
        clear cGd cGe
        have cGd := cell_row Gd.out
        go_wp2_with fail
        refine (S1.out _ _).mono ?_
        rintro e w9 ⟨rfl, hb⟩
        clear cGd
        replace HB := Lib.hid (below_then HB.out hb)
        replace Gd := Lib.hid ((hb.block _ (lt_of_heap Gd.out)).trans Gd.out)
        clear hb
        replace Gd := Lib.hid (keepAl (o' := .cells (wcells 0) 24) Gd.out)
        have Gg := Lib.hid (alloc_new (w9) (.cells (wcells 0) 24))
        replace HB := Lib.hid (below_al HB.out (.cells (wcells 0) 24))
        have cGd := cell_row Gd.out
        have cGg := cell_row Gg.out
        go_wp2_with fail
        refine (S3.out _).mono ?_
        rintro e w10 ⟨rb, rfl, hr, hb⟩
        clear cGd cGg
        replace HB := Lib.hid (below_then HB.out hb)
        replace Gd := Lib.hid ((hb.block _ (lt_of_heap Gd.out)).trans Gd.out)
        replace Gg := Lib.hid ((hb.block _ (lt_of_heap Gg.out)).trans Gg.out)
        have Rb := Lib.hid hr
        clear hr hb
        have cGd := cell_row Gd.out
        have cGg := cell_row Gg.out
        go_wp2_with fail
        refine (S4.out _ _ Rb.out).mono ?_
        rintro e w11 ⟨rfl, hb⟩
        clear cGd cGg
        replace HB := Lib.hid (below_then HB.out hb)
        replace Gd := Lib.hid ((hb.block _ (lt_of_heap Gd.out)).trans Gd.out)
        replace Gg := Lib.hid ((hb.block _ (lt_of_heap Gg.out)).trans Gg.out)
        replace Rb := Lib.hid (Rb.out.below hb)
        clear hb
        have cGd := cell_row Gd.out
        have cGg := cell_row Gg.out
        go_wp2_with fail
        refine (SA.out _).mono ?_
        rintro e w12 ⟨rfl, hb⟩
        clear cGd cGg
        replace HB := Lib.hid (below_then HB.out hb)
        replace Gd := Lib.hid ((hb.block _ (lt_of_heap Gd.out)).trans Gd.out)
        replace Gg := Lib.hid ((hb.block _ (lt_of_heap Gg.out)).trans Gg.out)
        clear hb
        have cGd := cell_row Gd.out
        have cGg := cell_row Gg.out
        go_wp2
        go_ret
        exact ⟨rfl, HB.out⟩
      · have b1 : decide (10 < k) = false := decide_eq_false c1
        have b2 : decide ((120 : Int) < (l : Int)) = true := decide_eq_true (by omega)
        clear h c0 c1
        clear hd hz hT hl
        go_enter Tryz.func14, Tryz.ntmps14
        have HB := Lib.hid (Below.refl w.heap.size w)
        have Gd := Lib.hid (alloc_new (w) (.cells (wcells d) 24))
        replace HB := Lib.hid (below_al HB.out (.cells (wcells d) 24))
        have cGd := cell_row Gd.out
        go_upto_region 1 with fail
        clear cGd
        obtain ⟨wA, hw⟩ : ∃ wx, wx = (w).alloc (.cells (wcells d) 24) := ⟨_, rfl⟩
        rw [← hw] at Gd HB ⊢
        clear hw
        have HZ := Lib.hid (lt_of_heap Gd.out)
        have cGd := cell_row Gd.out
        go_wp2_with fail
        refine (S0.out _).mono ?_
        rintro x w13 ⟨e, g, rfl, hen, hb⟩
        clear cGd
        replace HB := Lib.hid (below_then HB.out hb)
        replace Gd := Lib.hid ((hb.block _ (lt_of_heap Gd.out)).trans Gd.out)
        have Ge := Lib.hid hen.eng
        have KR := Lib.hid hen.rom
        have HNE := Lib.hid hen.ne
        have HLE := Lib.hid hen.le
        have HLG := Lib.hid hen.lg
        clear hen hb
        have cGd := cell_row Gd.out
        have cGe := cell_row Ge.out
        go_wp2_with fail
        refine (SR.out _).mono ?_
        rintro e w14 ⟨rfl, rfl⟩
        clear cGd cGe
        have cGd := cell_row Gd.out
        go_wp2_with fail
        refine (S1.out _ _).mono ?_
        rintro e w15 ⟨rfl, hb⟩
        clear cGd
        replace HB := Lib.hid (below_then HB.out hb)
        replace Gd := Lib.hid ((hb.block _ (lt_of_heap Gd.out)).trans Gd.out)
        clear hb
        replace Gd := Lib.hid (keepAl (o' := .cells (wcells 0) 24) Gd.out)
        have Gg := Lib.hid (alloc_new (w15) (.cells (wcells 0) 24))
        replace HB := Lib.hid (below_al HB.out (.cells (wcells 0) 24))
        have cGd := cell_row Gd.out
        have cGg := cell_row Gg.out
        go_wp2_with fail
        refine (S3.out _).mono ?_
        rintro e w16 ⟨rb, rfl, hr, hb⟩
        clear cGd cGg
        replace HB := Lib.hid (below_then HB.out hb)
        replace Gd := Lib.hid ((hb.block _ (lt_of_heap Gd.out)).trans Gd.out)
        replace Gg := Lib.hid ((hb.block _ (lt_of_heap Gg.out)).trans Gg.out)
        have Rb := Lib.hid hr
        clear hr hb
        have cGd := cell_row Gd.out
        have cGg := cell_row Gg.out
        go_wp2_with fail
        refine (S4.out _ _ Rb.out).mono ?_
        rintro e w17 ⟨rfl, hb⟩
        clear cGd cGg
        replace HB := Lib.hid (below_then HB.out hb)
        replace Gd := Lib.hid ((hb.block _ (lt_of_heap Gd.out)).trans Gd.out)
        replace Gg := Lib.hid ((hb.block _ (lt_of_heap Gg.out)).trans Gg.out)
        replace Rb := Lib.hid (Rb.out.below hb)
        clear hb
        have cGd := cell_row Gd.out
        have cGg := cell_row Gg.out
        go_wp2_with fail
        refine (SA.out _).mono ?_
        rintro e w18 ⟨rfl, hb⟩
        clear cGd cGg
        replace HB := Lib.hid (below_then HB.out hb)
        replace Gd := Lib.hid ((hb.block _ (lt_of_heap Gd.out)).trans Gd.out)
        replace Gg := Lib.hid ((hb.block _ (lt_of_heap Gg.out)).trans Gg.out)
        clear hb
        have cGd := cell_row Gd.out
        have cGg := cell_row Gg.out
        go_wp2
        go_ret
        exact ⟨rfl, HB.out⟩
  · have hl0 := hz h2
    have b0 : decide (k < 0) = false := decide_eq_false (by omega)
    have b1 : decide (10 < k) = false := decide_eq_false (by omega)
    clear h0 h1 h2
    subst hl0
    clear hd hz hT hl
    go_enter Tryz.func14, Tryz.ntmps14
    have HB := Lib.hid (Below.refl w.heap.size w)
    have Gd := Lib.hid (alloc_new (w) (.cells (wcells d) 24))
    replace HB := Lib.hid (below_al HB.out (.cells (wcells d) 24))
    have cGd := cell_row Gd.out
    go_upto_region 1 with fail
    clear cGd
    obtain ⟨wA, hw⟩ : ∃ wx, wx = (w).alloc (.cells (wcells d) 24) := ⟨_, rfl⟩
    rw [← hw] at Gd HB ⊢
    clear hw
    have HZ := Lib.hid (lt_of_heap Gd.out)
    have cGd := cell_row Gd.out
    go_wp2_with fail
    refine (S0.out _).mono ?_
    rintro x w19 ⟨e, g, rfl, hen, hb⟩
    clear cGd
    replace HB := Lib.hid (below_then HB.out hb)
    replace Gd := Lib.hid ((hb.block _ (lt_of_heap Gd.out)).trans Gd.out)
    have Ge := Lib.hid hen.eng
    have KR := Lib.hid hen.rom
    have HNE := Lib.hid hen.ne
    have HLE := Lib.hid hen.le
    have HLG := Lib.hid hen.lg
    clear hen hb
    have cGd := cell_row Gd.out
    have cGe := cell_row Ge.out
    go_wp2_with fail
    refine (SR.out _).mono ?_
    rintro e w20 ⟨rfl, rfl⟩
    clear cGd cGe
    have cGd := cell_row Gd.out
    go_wp2_with fail
    refine (S1.out _ _).mono ?_
    rintro e w21 ⟨rfl, hb⟩
    clear cGd
    replace HB := Lib.hid (below_then HB.out hb)
    replace Gd := Lib.hid ((hb.block _ (lt_of_heap Gd.out)).trans Gd.out)
    clear hb
    replace Gd := Lib.hid (keepAl (o' := .cells (wcells 0) 24) Gd.out)
    have Gg := Lib.hid (alloc_new (w21) (.cells (wcells 0) 24))
    replace HB := Lib.hid (below_al HB.out (.cells (wcells 0) 24))
    have cGd := cell_row Gd.out
    have cGg := cell_row Gg.out
    go_wp2_with fail
    refine (S3.out _).mono ?_
    rintro e w22 ⟨rb, rfl, hr, hb⟩
    clear cGd cGg
    replace HB := Lib.hid (below_then HB.out hb)
    replace Gd := Lib.hid ((hb.block _ (lt_of_heap Gd.out)).trans Gd.out)
    replace Gg := Lib.hid ((hb.block _ (lt_of_heap Gg.out)).trans Gg.out)
    have Rb := Lib.hid hr
    clear hr hb
    have cGd := cell_row Gd.out
    have cGg := cell_row Gg.out
    go_wp2_with fail
    refine (S4.out _ _ Rb.out).mono ?_
    rintro e w23 ⟨rfl, hb⟩
    clear cGd cGg
    replace HB := Lib.hid (below_then HB.out hb)
    replace Gd := Lib.hid ((hb.block _ (lt_of_heap Gd.out)).trans Gd.out)
    replace Gg := Lib.hid ((hb.block _ (lt_of_heap Gg.out)).trans Gg.out)
    replace Rb := Lib.hid (Rb.out.below hb)
    clear hb
    have cGd := cell_row Gd.out
    have cGg := cell_row Gg.out
    go_wp2_with fail
    refine (SA.out _).mono ?_
    rintro e w24 ⟨rfl, hb⟩
    clear cGd cGg
    replace HB := Lib.hid (below_then HB.out hb)
    replace Gd := Lib.hid ((hb.block _ (lt_of_heap Gd.out)).trans Gd.out)
    replace Gg := Lib.hid ((hb.block _ (lt_of_heap Gg.out)).trans Gg.out)
    clear hb
    have cGd := cell_row Gd.out
    have cGg := cell_row Gg.out
    go_wp2
    go_ret
    exact ⟨rfl, HB.out⟩
set_option maxRecDepth 100000 in
set_option maxHeartbeats 4000000 in
theorem newtonReciprocals_yes (d k : Nat) (w : World) (hk : k ≤ 10) (hd0 : d ≠ 0) (hd : d < P2 120) :
    Calls Tryz.prog 14 #[wv d, .int .i64 (k : Int)] w fun e w' => e = .returned (.bool true) ∧ Below w.heap.size w w' := by
  have hdM : d < M := Nat.lt_trans hd (by rw [M_eq]; exact P2_lt (by omega))
  have hm : mayN 0 d = 0 := may_yes (by omega) hd (Nat.mul_pos (by omega) (P2_pos _))
  obtain ⟨r1, r2, _⟩ := shift_range hm
  have hK := nw_all (up_len hm) r2 k
  have hy := hK.small r1
  have hl : blen d ≤ 120 := blen_le_of hd
  have hl0 := blen_pos hd0
  have h162 : P2 162 < M := by rw [M_eq]; exact P2_lt (by omega)
  have hDy : d * P2 (128 - blen d) * nwY (d * P2 (128 - blen d)) k < P2 290 := by
    have := Nat.mul_lt_mul'' r2 hy
    rwa [← P2_add] at this
  obtain ⟨p1, p2⟩ := nwp_le k
  have hfar := nw_far hK
  have hS1 : P2 (288 - nwp k) ≤ P2 290 := P2_le (by omega)
  have hS2 : P2 138 ≤ P2 290 := P2_le (by omega)
  have hS3 : P2 290 + P2 290 = P2 291 := by rw [P2_twice 290]; omega
  have hS4 : P2 288 ≤ P2 290 := P2_le (by omega)
  have S0 := Lib.hid (fun w' => newE_nil w')
  have S1 := Lib.hid (fun e g w' hE hI hne => recE_yes e g d k hk hd0 hd w' hE hI hne)
  have SR := Lib.hid (fun w' => rounds19_any w')
  have S3 := Lib.hid (fun w' => big_any d hdM w')
  have S4 := Lib.hid (fun v w' h => rlen_any v d w' (small_M hdM) h)
  have S5 := Lib.hid (fun v w' h => rrecip19_any v d k w' hd0 hd hk h)
  have S6 := Lib.hid (fun v w' h => wide_small v (nwY (d * P2 (128 - blen d)) k) w' (by omega) h)
  have S7 := Lib.hid (fun v w' h => rshl_any v d (128 - blen d) w' (small_M hdM) (by omega) h)
  have S8 := Lib.hid (fun w' => big_any (nwY (d * P2 (128 - blen d)) k) (by omega) w')
  have S9 := Lib.hid (fun v v2 w' h h2 => mul_any v v2 (d * P2 (128 - blen d)) (nwY (d * P2 (128 - blen d)) k) w' (small_of r2 (by decide)) (small_of hy (by decide)) h h2)
  have S10 := Lib.hid (fun w' => power_any 288 (by decide) w')
  have S11 := Lib.hid (fun v v2 w' h h2 => raway_any v v2 (d * P2 (128 - blen d) * nwY (d * P2 (128 - blen d)) k) (P2 288) w' (small_of hDy (by decide)) (small_of (P2_lt (show 288 < 289 by omega)) (by decide)) h h2)
  have S12 := Lib.hid (fun w' => power_any (288 - nwp k) (by omega) w')
  have S13 := Lib.hid (fun w' => power_any 138 (by decide) w')
  have S14 := Lib.hid (fun v v2 w' h h2 => add_any v v2 (P2 (288 - nwp k)) (P2 138) w' (small_of (P2_lt (show 288 - nwp k < 289 by omega)) (by decide)) (small_of (P2_lt (show 138 < 139 by omega)) (by decide)) h h2)
  have S15 := Lib.hid (fun v v2 w' h h2 => cmp_any v v2 ((d * P2 (128 - blen d) * nwY (d * P2 (128 - blen d)) k - P2 288) + (P2 288 - d * P2 (128 - blen d) * nwY (d * P2 (128 - blen d)) k)) (P2 (288 - nwp k) + P2 138) w' (small_of (show _ < P2 292 by have : P2 291 < P2 292 := P2_lt (by omega); omega) (by decide)) (small_of (show P2 (288 - nwp k) + P2 138 < P2 292 by have : P2 291 < P2 292 := P2_lt (by omega); omega) (by decide)) h h2)
  have hc := cmp_neg hfar
  have SA := Lib.hid (fun w' => awake19_any w')
  have hk1 : IntKind.i64.wrap (128 - ((blen d : Nat) : Int)) = ((128 - blen d : Nat) : Int) := by rw [IntWalk.i64_in _ (by omega)]; omega
  have hk2 : IntKind.i64.wrap (288 - ((nwp k : Nat) : Int)) = ((288 - nwp k : Nat) : Int) := by rw [IntWalk.i64_in _ (by omega)]; omega
  obtain ⟨c, hce⟩ : ∃ c, c = cmpN ((d * P2 (128 - blen d) * nwY (d * P2 (128 - blen d)) k - P2 288) + (P2 288 - d * P2 (128 - blen d) * nwY (d * P2 (128 - blen d)) k)) (P2 (288 - nwp k) + P2 138) := ⟨_, rfl⟩
  rw [← hce] at S15 hc
  obtain ⟨A, hA⟩ : ∃ c : Nat, c = (d * P2 (128 - blen d) * nwY (d * P2 (128 - blen d)) k - P2 288) + (P2 288 - d * P2 (128 - blen d) * nwY (d * P2 (128 - blen d)) k) := ⟨_, rfl⟩
  rw [← hA] at S11 S15
  obtain ⟨X, hX⟩ : ∃ c : Nat, c = d * P2 (128 - blen d) * nwY (d * P2 (128 - blen d)) k := ⟨_, rfl⟩
  rw [← hX] at S9 S11
  obtain ⟨y, hye⟩ : ∃ c : Nat, c = nwY (d * P2 (128 - blen d)) k := ⟨_, rfl⟩
  rw [← hye] at S1 S5 S6 S8 S9
  obtain ⟨D, hD⟩ : ∃ c : Nat, c = d * P2 (128 - blen d) := ⟨_, rfl⟩
  rw [← hD] at S7 S9
  obtain ⟨f, hf⟩ : ∃ f, f = decide (M ≤ y) := ⟨_, rfl⟩
  rw [← hf] at S6
  obtain ⟨b, hb⟩ : ∃ c : Nat, c = 128 - blen d := ⟨_, rfl⟩
  rw [← hb] at S7 hk1
  obtain ⟨l, hle⟩ : ∃ c : Nat, c = blen d := ⟨_, rfl⟩
  rw [← hle] at S4 hk1 hl hl0
  obtain ⟨P, hP⟩ : ∃ c : Nat, c = nwp k := ⟨_, rfl⟩
  have HP := Lib.hid hP
  rw [← hP] at S12 S14 S15 hk2 p1 p2
  obtain ⟨P8, hP8⟩ : ∃ c : Nat, c = 288 - P := ⟨_, rfl⟩
  rw [← hP8] at S12 S14 S15 hk2
  obtain ⟨T1, hT1⟩ : ∃ c : Nat, c = P2 P8 := ⟨_, rfl⟩
  obtain ⟨T2, hT2⟩ : ∃ c : Nat, c = P2 138 := ⟨_, rfl⟩
  obtain ⟨T3, hT3⟩ : ∃ c : Nat, c = P2 288 := ⟨_, rfl⟩
  rw [← hT1] at S12 S14 S15
  rw [← hT2] at S13 S14 S15
  rw [← hT3] at S10 S11
  obtain ⟨T, hTe⟩ : ∃ c : Nat, c = T1 + T2 := ⟨_, rfl⟩
  rw [← hTe] at S14 S15
  have b0 : decide ((k : Int) < 0) = false := decide_eq_false (by omega)
  have b1 : decide ((10 : Int) < (k : Int)) = false := decide_eq_false (by omega)
  have b2 : decide ((120 : Int) < (l : Int)) = false := decide_eq_false (by omega)
  have b3 : ((l : Int) == 0) = false := by simp; omega
  have HK := Lib.hid hk
  have HCC := Lib.hid hc
  clear hk hd0 hd hdM hm r1 r2 hK hy hl hl0 h162 hDy p1 p2 hfar hS1 hS2 hS3 hS4 hce hA hX hye hD hf hb hle hP hP8 hT1 hT2 hT3 hTe hc
  go_enter Tryz.func14, Tryz.ntmps14
  have HB := Lib.hid (Below.refl w.heap.size w)
  have Gd := Lib.hid (alloc_new (w) (.cells (wcells d) 24))
  replace HB := Lib.hid (below_al HB.out (.cells (wcells d) 24))
  have cGd := cell_row Gd.out
  go_upto_region 1 with fail
  clear cGd
  obtain ⟨wA, hw⟩ : ∃ wx, wx = (w).alloc (.cells (wcells d) 24) := ⟨_, rfl⟩
  rw [← hw] at Gd HB ⊢
  clear hw
  have HZ := Lib.hid (lt_of_heap Gd.out)
  have cGd := cell_row Gd.out
  go_wp2_with fail
  refine (S0.out _).mono ?_
  rintro x w25 ⟨e, g, rfl, hen, hb⟩
  clear cGd
  replace HB := Lib.hid (below_then HB.out hb)
  replace Gd := Lib.hid ((hb.block _ (lt_of_heap Gd.out)).trans Gd.out)
  have Ge := Lib.hid hen.eng
  have KR := Lib.hid hen.rom
  have HNE := Lib.hid hen.ne
  have HLE := Lib.hid hen.le
  have HLG := Lib.hid hen.lg
  clear hen hb
  have cGd := cell_row Gd.out
  have cGe := cell_row Ge.out
  go_wp2_with fail
  refine (SR.out _).mono ?_
  rintro e w26 ⟨rfl, rfl⟩
  clear cGd cGe
  have cGd := cell_row Gd.out
  have cGe := cell_row Ge.out
  go_wp2_with fail
  refine (S1.out _ _ _ Ge.out KR.out HNE.out).mono ?_
  rintro e w27 ⟨rfl, hv⟩
  clear cGd cGe
  replace Gd := Lib.hid (hv.heap Gd.out (by have := HZ.out; have := HLG.out; have := HNE.out; omega))
  replace Ge := Lib.hid (hv.heap Ge.out (by have := HZ.out; have := HLG.out; have := HNE.out; omega))
  replace HB := Lib.hid (hv.out HB.out (by have := HZ.out; have := HLG.out; have := HNE.out; omega))
  replace KR := Lib.hid hv.rom
  clear hv
  replace Gd := Lib.hid (keepAl (o' := .cells (wcells y) 24) Gd.out)
  have Gg := Lib.hid (alloc_new (w27) (.cells (wcells y) 24))
  replace HB := Lib.hid (below_al HB.out (.cells (wcells y) 24))
  have cGd := cell_row Gd.out
  have cGg := cell_row Gg.out
  go_wp2_with fail
  refine (S3.out _).mono ?_
  rintro e w28 ⟨rb, rfl, hr, hb⟩
  clear cGd cGg
  replace HB := Lib.hid (below_then HB.out hb)
  replace Gd := Lib.hid ((hb.block _ (lt_of_heap Gd.out)).trans Gd.out)
  replace Gg := Lib.hid ((hb.block _ (lt_of_heap Gg.out)).trans Gg.out)
  have Rb := Lib.hid hr
  clear hr hb
  have cGg := cell_row Gg.out
  go_wp2_with fail
  refine (S4.out _ _ Rb.out).mono ?_
  rintro e w29 ⟨rfl, hb⟩
  clear cGg
  replace HB := Lib.hid (below_then HB.out hb)
  replace Gg := Lib.hid ((hb.block _ (lt_of_heap Gg.out)).trans Gg.out)
  replace Rb := Lib.hid (Rb.out.below hb)
  clear hb
  have cGg := cell_row Gg.out
  go_wp2_with fail
  refine (S5.out _ _ Rb.out).mono ?_
  rintro e w30 ⟨rr, rfl, hr, hb⟩
  clear cGg
  replace HB := Lib.hid (below_then HB.out hb)
  replace Gg := Lib.hid ((hb.block _ (lt_of_heap Gg.out)).trans Gg.out)
  replace Rb := Lib.hid (Rb.out.below hb)
  have Rr := Lib.hid hr
  clear hr hb
  have cGg := cell_row Gg.out
  go_wp2_with fail
  refine (S6.out _ _ Rr.out).mono ?_
  rintro e w31 ⟨rfl, hb⟩
  clear cGg
  replace HB := Lib.hid (below_then HB.out hb)
  replace Gg := Lib.hid ((hb.block _ (lt_of_heap Gg.out)).trans Gg.out)
  replace Rb := Lib.hid (Rb.out.below hb)
  replace Rr := Lib.hid (Rr.out.below hb)
  clear hb
  replace Gg := Lib.hid (keepAl (o' := .cells (wcells y) 24) Gg.out)
  replace Rb := Lib.hid (Rb.out.below (below_al (Below.refl (w31).heap.size (w31)) (.cells (wcells y) 24)))
  have Gx := Lib.hid (alloc_new (w31) (.cells (wcells y) 24))
  replace HB := Lib.hid (below_al HB.out (.cells (wcells y) 24))
  have cGg := cell_row Gg.out
  have cGx := cell_row Gx.out
  go_upto_region 14 with fail
  clear cGg cGx
  obtain ⟨wL, hw⟩ : ∃ wx, wx = (w31).alloc (.cells (wcells y) 24) := ⟨_, rfl⟩
  rw [← hw] at Gg Rb Gx HB ⊢
  clear hw
  go_wp2
  go_loop [12, 13] (fun s12 s13 => ∃ i : Nat, s13 = .int .i64 (i : Int) ∧ s12 = .int .i64 ((nwp i : Nat) : Int) ∧ i ≤ min k 5) (fun _ s13 => min k 5 - (intOf s13).toNat)
  case atStart => exact ⟨0, rfl, rfl, Nat.zero_le _⟩
  case round =>
    obtain ⟨i, rfl, rfl, hi⟩ := hrel
    by_cases hlt : i < min k 5
    · have e1 : decide (i < k) = true := decide_eq_true (by omega)
      have e2 : decide ((i : Int) < 5) = true := decide_eq_true (by omega)
      have e3 : IntKind.i64.wrap ((i : Int) + 1) = ((i + 1 : Nat) : Int) := by rw [IntWalk.i64_in _ (by omega)]; omega
      have hi2 := (nwp_le i).1
      have e4 : IntKind.i64.wrap (2 * ((nwp i : Nat) : Int)) = ((nwp (i + 1) : Nat) : Int) := by
        have hs : nwp (i + 1) = 2 * nwp i := by show (if i < 5 then 2 * nwp i else nwp i) = _; rw [if_pos (by omega)]
        rw [IntWalk.i64_in _ (by omega), hs]
        omega
      have HLT := Lib.hid hlt
      have HR : Hid (∃ j : Nat, ((i + 1 : Nat) : Int) = (j : Int) ∧ ((nwp (i + 1) : Nat) : Int) = ((nwp j : Nat) : Int) ∧ j ≤ min k 5 ∧ i < j) := Lib.hid ⟨i + 1, rfl, rfl, by omega, by omega⟩
      obtain ⟨Y, hY⟩ : ∃ Y : Int, Y = ((nwp (i + 1) : Nat) : Int) := ⟨_, rfl⟩
      obtain ⟨I, hI⟩ : ∃ Y : Int, Y = ((i + 1 : Nat) : Int) := ⟨_, rfl⟩
      rw [← hY] at e4 HR
      rw [← hI] at e3 HR
      obtain ⟨Z, hZ⟩ : ∃ Y : Int, Y = ((nwp i : Nat) : Int) := ⟨_, rfl⟩
      rw [← hZ] at e4 ⊢
      clear hlt hi hi2 hY hI hZ
      go_wp2
      go_round
      case rel =>
        obtain ⟨j, h1, h2, h3, h4⟩ := HR.out
        exact ⟨j, by rw [h1], by rw [h2], h3⟩
      case measure =>
        obtain ⟨j, h1, h2, h3, h4⟩ := HR.out
        have := HLT.out
        simp [intOf]
        omega
    · have hPi : nwp i = P := by rw [show i = min k 5 by omega, nwp_min]; exact HP.out.symm
      rw [hPi]
      rcases (show i = k ∨ (i = 5 ∧ 5 < k) by omega) with h | ⟨h, h5⟩
      · have e1 : decide (i < k) = false := decide_eq_false (by omega)
        clear h
        clear hlt hi hPi
        have cGg := cell_row Gg.out
        have cGx := cell_row Gx.out
        go_upto_region 19 with fail
        clear cGg cGx
        have B2 := Lib.hid (Below.refl wL.heap.size wL)
        have xGg := ext_row (B := wL.heap.size) Gg.out (lt_of_heap Gg.out)
        have xGx := ext_row (B := wL.heap.size) Gx.out (lt_of_heap Gx.out)
        apply wp_region_loose (looseR [_, _, _, _, _, _, _, _, _, _]) (pureL [2])
        · kernel_rfl
        · kernel_rfl
        · kernel_rfl
        · exact allocs_ok [] rfl (by intro T hT; cases hT)
        · exact looseR_st _
        · change wpL _ _ _ _ _ _ _ 10 0 _ _
          refine wpL_calm wL rfl rfl rfl rfl (fun K hK K0 hK0 => ?_)
          go_simp
          first | refine hK _ _ rfl rfl ?_ | refine hK0 _ rfl ?_
          clear hK hK0 K K0
          refine wpL_calm wL rfl rfl rfl rfl (fun K hK K0 hK0 => ?_)
          go_simp
          first | refine hK _ _ rfl rfl ?_ | refine hK0 _ rfl ?_
          clear hK hK0 K K0
          refine wpL_pure wL rfl rfl rfl rfl (fun K hK K0 hK0 => ?_)
          go_simp
          first | refine hK _ _ rfl rfl ?_ | refine hK0 _ rfl ?_
          clear hK hK0 K K0
          refine wpL_call (Lft.big D) (big_some w _) rfl rfl rfl rfl (by first | rfl | go_simp) rfl (fun w' hC hF => ?_) (fun v3 hv3 => ?_)
          · obtain ⟨x, rfl⟩ := hC
            go_simp
            go_at_call 42
            exact gives_loose (S7.out _ _ (ext_bigB Rb.out (Below.refl _ _) x))
          refine wpL_calm wL rfl rfl rfl rfl (fun K hK K0 hK0 => ?_)
          go_simp
          first | refine hK _ _ rfl rfl ?_ | refine hK0 _ rfl ?_
          clear hK hK0 K K0
          refine wpL_call (Lft.big y) (big_some w _) rfl rfl rfl rfl (by first | rfl | go_simp) rfl (fun w' hC hF => ?_) (fun v5 hv5 => ?_)
          · obtain ⟨x, rfl⟩ := hC
            go_simp
            go_at_call 37
            exact gives_loose (S8.out _)
          refine wpL_call (Lft.big X) (big_some w _) rfl rfl rfl rfl (by first | rfl | go_simp) rfl (fun w' hC hF => ?_) (fun v6 hv6 => ?_)
          · obtain ⟨x, rfl⟩ := hC
            go_simp
            go_at_call 32
            exact gives_loose (S9.out _ _ _ (hF 3 _ 93 rfl rfl rfl rfl (by decide)) (hF 5 _ 95 rfl rfl rfl rfl (by decide)))
          refine wpL_call (Lft.big T3) (big_some w _) rfl rfl rfl rfl (by first | rfl | go_simp) rfl (fun w' hC hF => ?_) (fun v7 hv7 => ?_)
          · obtain ⟨x, rfl⟩ := hC
            go_simp
            go_at_call 43
            exact gives_loose (S10.out _)
          refine wpL_call (Lft.big A) (big_some w _) rfl rfl rfl rfl (by first | rfl | go_simp) rfl (fun w' hC hF => ?_) (fun v8 hv8 => ?_)
          · obtain ⟨x, rfl⟩ := hC
            go_simp
            go_at_call 36
            exact gives_loose (S11.out _ _ _ (hF 6 _ 96 rfl rfl rfl rfl (by decide)) (hF 7 _ 97 rfl rfl rfl rfl (by decide)))
          refine wpL_call (Lft.big A) (big_some wL _) rfl rfl rfl rfl rfl rfl (fun w' hC hF => ?_) (fun v9 hv9 => ?_)
          · obtain ⟨x, rfl⟩ := hC
            have hf := hF 8 _ 98 rfl rfl rfl rfl (by decide)
            go_simp
            exact ⟨Below.refl _ _, hf⟩
          refine wpL_nil (endL [] rfl (by intro q hq; cases hq) (fun w32 hb hst hap hfin => ?_))
          have Ra : Hid (IsBig w32 v9 A) := Lib.hid (hfin rfl 9 _ 14 rfl rfl rfl rfl)
          replace HB := Lib.hid (below_then HB.out hb)
          replace Gg := Lib.hid ((hb.block _ (lt_of_heap Gg.out)).trans Gg.out)
          replace Rb := Lib.hid (Rb.out.below hb)
          replace Gx := Lib.hid ((hb.block _ (lt_of_heap Gx.out)).trans Gx.out)
          clear hb hst hap hfin xGg xGx
          clear B2
          have cGg := cell_row Gg.out
          have cGx := cell_row Gx.out
          go_wp2_with fail
          refine (S12.out _).mono ?_
          rintro e w33 ⟨rp, rfl, hr, hb⟩
          clear cGg cGx
          replace HB := Lib.hid (below_then HB.out hb)
          replace Gg := Lib.hid ((hb.block _ (lt_of_heap Gg.out)).trans Gg.out)
          replace Gx := Lib.hid ((hb.block _ (lt_of_heap Gx.out)).trans Gx.out)
          replace Ra := Lib.hid (Ra.out.below hb)
          have Rp := Lib.hid hr
          clear hr hb
          have cGg := cell_row Gg.out
          have cGx := cell_row Gx.out
          go_wp2_with fail
          refine (S13.out _).mono ?_
          rintro e w34 ⟨rq, rfl, hr, hb⟩
          clear cGg cGx
          replace HB := Lib.hid (below_then HB.out hb)
          replace Gg := Lib.hid ((hb.block _ (lt_of_heap Gg.out)).trans Gg.out)
          replace Gx := Lib.hid ((hb.block _ (lt_of_heap Gx.out)).trans Gx.out)
          replace Ra := Lib.hid (Ra.out.below hb)
          replace Rp := Lib.hid (Rp.out.below hb)
          have Rq := Lib.hid hr
          clear hr hb
          have cGg := cell_row Gg.out
          have cGx := cell_row Gx.out
          go_wp2_with fail
          refine (S14.out _ _ _ Rp.out Rq.out).mono ?_
          rintro e w35 ⟨rt, rfl, hr, hb⟩
          clear cGg cGx
          replace HB := Lib.hid (below_then HB.out hb)
          replace Gg := Lib.hid ((hb.block _ (lt_of_heap Gg.out)).trans Gg.out)
          replace Gx := Lib.hid ((hb.block _ (lt_of_heap Gx.out)).trans Gx.out)
          replace Ra := Lib.hid (Ra.out.below hb)
          replace Rp := Lib.hid (Rp.out.below hb)
          replace Rq := Lib.hid (Rq.out.below hb)
          have Rt := Lib.hid hr
          clear hr hb
          have hcc := HCC.out
          have cGg := cell_row Gg.out
          have cGx := cell_row Gx.out
          go_wp2_with fail
          refine (S15.out _ _ _ Ra.out Rt.out).mono ?_
          rintro e w36 ⟨rfl, hb⟩
          clear cGg cGx
          replace HB := Lib.hid (below_then HB.out hb)
          replace Gg := Lib.hid ((hb.block _ (lt_of_heap Gg.out)).trans Gg.out)
          replace Gx := Lib.hid ((hb.block _ (lt_of_heap Gx.out)).trans Gx.out)
          replace Ra := Lib.hid (Ra.out.below hb)
          replace Rt := Lib.hid (Rt.out.below hb)
          clear hb
          have cGg := cell_row Gg.out
          have cGx := cell_row Gx.out
          go_wp2_with fail
          refine (SA.out _).mono ?_
          rintro e w37 ⟨rfl, hb⟩
          clear cGg cGx
          replace HB := Lib.hid (below_then HB.out hb)
          replace Gg := Lib.hid ((hb.block _ (lt_of_heap Gg.out)).trans Gg.out)
          replace Gx := Lib.hid ((hb.block _ (lt_of_heap Gx.out)).trans Gx.out)
          clear hb
          have cGg := cell_row Gg.out
          have cGx := cell_row Gx.out
          go_wp2
          go_ret
          exact ⟨rfl, HB.out⟩
      · have e1 : decide (i < k) = true := decide_eq_true (by omega)
        have e2 : decide ((i : Int) < 5) = false := decide_eq_false (by omega)
        clear h h5
        clear hlt hi hPi
        have cGg := cell_row Gg.out
        have cGx := cell_row Gx.out
        go_upto_region 19 with fail
        clear cGg cGx
        have B2 := Lib.hid (Below.refl wL.heap.size wL)
        have xGg := ext_row (B := wL.heap.size) Gg.out (lt_of_heap Gg.out)
        have xGx := ext_row (B := wL.heap.size) Gx.out (lt_of_heap Gx.out)
        apply wp_region_loose (looseR [_, _, _, _, _, _, _, _, _, _]) (pureL [2])
        · kernel_rfl
        · kernel_rfl
        · kernel_rfl
        · exact allocs_ok [] rfl (by intro T hT; cases hT)
        · exact looseR_st _
        · change wpL _ _ _ _ _ _ _ 10 0 _ _
          refine wpL_calm wL rfl rfl rfl rfl (fun K hK K0 hK0 => ?_)
          go_simp
          first | refine hK _ _ rfl rfl ?_ | refine hK0 _ rfl ?_
          clear hK hK0 K K0
          refine wpL_calm wL rfl rfl rfl rfl (fun K hK K0 hK0 => ?_)
          go_simp
          first | refine hK _ _ rfl rfl ?_ | refine hK0 _ rfl ?_
          clear hK hK0 K K0
          refine wpL_pure wL rfl rfl rfl rfl (fun K hK K0 hK0 => ?_)
          go_simp
          first | refine hK _ _ rfl rfl ?_ | refine hK0 _ rfl ?_
          clear hK hK0 K K0
          refine wpL_call (Lft.big D) (big_some w _) rfl rfl rfl rfl (by first | rfl | go_simp) rfl (fun w' hC hF => ?_) (fun v3 hv3 => ?_)
          · obtain ⟨x, rfl⟩ := hC
            go_simp
            go_at_call 42
            exact gives_loose (S7.out _ _ (ext_bigB Rb.out (Below.refl _ _) x))
          refine wpL_calm wL rfl rfl rfl rfl (fun K hK K0 hK0 => ?_)
          go_simp
          first | refine hK _ _ rfl rfl ?_ | refine hK0 _ rfl ?_
          clear hK hK0 K K0
          refine wpL_call (Lft.big y) (big_some w _) rfl rfl rfl rfl (by first | rfl | go_simp) rfl (fun w' hC hF => ?_) (fun v5 hv5 => ?_)
          · obtain ⟨x, rfl⟩ := hC
            go_simp
            go_at_call 37
            exact gives_loose (S8.out _)
          refine wpL_call (Lft.big X) (big_some w _) rfl rfl rfl rfl (by first | rfl | go_simp) rfl (fun w' hC hF => ?_) (fun v6 hv6 => ?_)
          · obtain ⟨x, rfl⟩ := hC
            go_simp
            go_at_call 32
            exact gives_loose (S9.out _ _ _ (hF 3 _ 93 rfl rfl rfl rfl (by decide)) (hF 5 _ 95 rfl rfl rfl rfl (by decide)))
          refine wpL_call (Lft.big T3) (big_some w _) rfl rfl rfl rfl (by first | rfl | go_simp) rfl (fun w' hC hF => ?_) (fun v7 hv7 => ?_)
          · obtain ⟨x, rfl⟩ := hC
            go_simp
            go_at_call 43
            exact gives_loose (S10.out _)
          refine wpL_call (Lft.big A) (big_some w _) rfl rfl rfl rfl (by first | rfl | go_simp) rfl (fun w' hC hF => ?_) (fun v8 hv8 => ?_)
          · obtain ⟨x, rfl⟩ := hC
            go_simp
            go_at_call 36
            exact gives_loose (S11.out _ _ _ (hF 6 _ 96 rfl rfl rfl rfl (by decide)) (hF 7 _ 97 rfl rfl rfl rfl (by decide)))
          refine wpL_call (Lft.big A) (big_some wL _) rfl rfl rfl rfl rfl rfl (fun w' hC hF => ?_) (fun v9 hv9 => ?_)
          · obtain ⟨x, rfl⟩ := hC
            have hf := hF 8 _ 98 rfl rfl rfl rfl (by decide)
            go_simp
            exact ⟨Below.refl _ _, hf⟩
          refine wpL_nil (endL [] rfl (by intro q hq; cases hq) (fun w38 hb hst hap hfin => ?_))
          have Ra : Hid (IsBig w38 v9 A) := Lib.hid (hfin rfl 9 _ 14 rfl rfl rfl rfl)
          replace HB := Lib.hid (below_then HB.out hb)
          replace Gg := Lib.hid ((hb.block _ (lt_of_heap Gg.out)).trans Gg.out)
          replace Rb := Lib.hid (Rb.out.below hb)
          replace Gx := Lib.hid ((hb.block _ (lt_of_heap Gx.out)).trans Gx.out)
          clear hb hst hap hfin xGg xGx
          clear B2
          have cGg := cell_row Gg.out
          have cGx := cell_row Gx.out
          go_wp2_with fail
          refine (S12.out _).mono ?_
          rintro e w39 ⟨rp, rfl, hr, hb⟩
          clear cGg cGx
          replace HB := Lib.hid (below_then HB.out hb)
          replace Gg := Lib.hid ((hb.block _ (lt_of_heap Gg.out)).trans Gg.out)
          replace Gx := Lib.hid ((hb.block _ (lt_of_heap Gx.out)).trans Gx.out)
          replace Ra := Lib.hid (Ra.out.below hb)
          have Rp := Lib.hid hr
          clear hr hb
          have cGg := cell_row Gg.out
          have cGx := cell_row Gx.out
          go_wp2_with fail
          refine (S13.out _).mono ?_
          rintro e w40 ⟨rq, rfl, hr, hb⟩
          clear cGg cGx
          replace HB := Lib.hid (below_then HB.out hb)
          replace Gg := Lib.hid ((hb.block _ (lt_of_heap Gg.out)).trans Gg.out)
          replace Gx := Lib.hid ((hb.block _ (lt_of_heap Gx.out)).trans Gx.out)
          replace Ra := Lib.hid (Ra.out.below hb)
          replace Rp := Lib.hid (Rp.out.below hb)
          have Rq := Lib.hid hr
          clear hr hb
          have cGg := cell_row Gg.out
          have cGx := cell_row Gx.out
          go_wp2_with fail
          refine (S14.out _ _ _ Rp.out Rq.out).mono ?_
          rintro e w41 ⟨rt, rfl, hr, hb⟩
          clear cGg cGx
          replace HB := Lib.hid (below_then HB.out hb)
          replace Gg := Lib.hid ((hb.block _ (lt_of_heap Gg.out)).trans Gg.out)
          replace Gx := Lib.hid ((hb.block _ (lt_of_heap Gx.out)).trans Gx.out)
          replace Ra := Lib.hid (Ra.out.below hb)
          replace Rp := Lib.hid (Rp.out.below hb)
          replace Rq := Lib.hid (Rq.out.below hb)
          have Rt := Lib.hid hr
          clear hr hb
          have hcc := HCC.out
          have cGg := cell_row Gg.out
          have cGx := cell_row Gx.out
          go_wp2_with fail
          refine (S15.out _ _ _ Ra.out Rt.out).mono ?_
          rintro e w42 ⟨rfl, hb⟩
          clear cGg cGx
          replace HB := Lib.hid (below_then HB.out hb)
          replace Gg := Lib.hid ((hb.block _ (lt_of_heap Gg.out)).trans Gg.out)
          replace Gx := Lib.hid ((hb.block _ (lt_of_heap Gx.out)).trans Gx.out)
          replace Ra := Lib.hid (Ra.out.below hb)
          replace Rt := Lib.hid (Rt.out.below hb)
          clear hb
          have cGg := cell_row Gg.out
          have cGx := cell_row Gx.out
          go_wp2_with fail
          refine (SA.out _).mono ?_
          rintro e w43 ⟨rfl, hb⟩
          clear cGg cGx
          replace HB := Lib.hid (below_then HB.out hb)
          replace Gg := Lib.hid ((hb.block _ (lt_of_heap Gg.out)).trans Gg.out)
          replace Gx := Lib.hid ((hb.block _ (lt_of_heap Gx.out)).trans Gx.out)
          clear hb
          have cGg := cell_row Gg.out
          have cGx := cell_row Gx.out
          go_wp2
          go_ret
          exact ⟨rfl, HB.out⟩
theorem newtonReciprocals_any (d : Nat) (k : Int) (w : World) (hd : d < M) (_h1 : -9223372036854775808 ≤ k) (_h2 : k ≤ 9223372036854775807) :
    Calls Tryz.prog 14 #[wv d, .int .i64 k] w fun e w' => e = .returned (.bool true) ∧ Below w.heap.size w w' := by
  by_cases hk : k < 0 ∨ 10 < k
  · exact newtonReciprocals_no d k 4 w hd (Or.inl ⟨rfl, by omega⟩) (fun e w' => recE_range e d k hd hk w')
  · by_cases hd0 : d = 0
    · subst hd0
      exact newtonReciprocals_no 0 k 5 w hd (Or.inr ⟨rfl, by omega, by omega, rfl⟩) (fun e w' => recE_zero e k (by omega) (by omega) w')
    · by_cases hl : d < P2 120
      · obtain ⟨j, rfl⟩ := Int.eq_ofNat_of_zero_le (show 0 ≤ k by omega)
        exact newtonReciprocals_yes d j w (by omega) hd0 hl
      · have : ¬ blen d ≤ 120 := fun h => hl (lt_of_blen h)
        exact newtonReciprocals_no d k 4 w hd (Or.inl ⟨rfl, by omega⟩) (fun e w' => recE_great e d k hd (by omega) (by omega) hd0 hl w')
end Go.Proofs.YtegmmaaapdgocaaGreat
