/- THE WALKS of the laws on goldroot's pairs, and how near they come. -/
import Derived.Test.YtegmmaaapdgocaaGreatLaw22
import Derived.Test.YtegmmaaapdgocaaGreatRef22
import Derived.Test.YtegmmaaapdgocaaGreatK32
import Derived.Test.YtegmmaaapdgocaaGreatK16
namespace Go.Proofs.YtegmmaaapdgocaaGreat
open Go Go.RowKit

theorem cmpSelf (a : Nat) : cmpN a a = 0 := by unfold cmpN; rw [if_neg (Nat.lt_irrefl a), if_neg (Nat.lt_irrefl a)]
theorem rroot22_w (n : Nat) (w : World) (hn : n < P2 256) : Calls Tryz.prog 34 #[wv n, .int .i64 2] w fun e w' => e = .returned (.tuple #[wv (rtN 2 n), wv (n - rtN 2 n * rtN 2 n)]) ∧ Below w.heap.size w w' := by
  have := rroot_any n 2 w hn (Or.inl rfl)
  rw [sqr] at this
  exact this
theorem gr_cmp {U : Nat} (h : blen U = 255 ∨ blen U = 256) (hU0 : P2 254 ≤ U) (hU : U < P2 256) :
    cmpN ((grG U 5 * grH U 5 * P2 1 - P2 320) + (P2 320 - grG U 5 * grH U 5 * P2 1)) (P2 190) ≤ 0 := by
  obtain ⟨h1, h2⟩ := gr_near h hU0 hU
  have h3 : P2 181 ≤ P2 190 := P2_le (by omega)
  rw [P2_1, Nat.mul_comm (grG U 5 * grH U 5)]
  have : (2 * (grG U 5 * grH U 5) - P2 320) + (P2 320 - 2 * (grG U 5 * grH U 5)) ≤ P2 190 := by omega
  unfold cmpN
  split
  · decide
  · split
    · omega
    · decide
attribute [local go_sem ↓] Go.wp_at_zero Go.wp_at_succ
theorem rounds22_any (w : World) : Calls Tryz.prog 38 #[] w fun e w' => e = .returned (.int .i64 5) ∧ w' = w := by
  go_enter Tryz.func38, Tryz.ntmps38
  go_wp2
  go_ret
  exact ⟨rfl, rfl⟩
theorem rounds22_b (w : World) : Calls Tryz.prog 38 #[] w fun e w' => e = .returned (.int .i64 5) ∧ Below w.heap.size w w' :=
  (rounds22_any w).mono fun _ _ ⟨h1, h2⟩ => ⟨h1, h2 ▸ Below.refl _ _⟩
set_option maxRecDepth 100000 in
set_option maxHeartbeats 4000000 in
theorem goldrootPairs_any (n : Nat) (k : Int) (w : World) (hn : n < M) (_h1 : -9223372036854775808 ≤ k) (_h2 : k ≤ 9223372036854775807) :
    Calls Tryz.prog 7 #[wv n, .int .i64 k] w fun e w' => e = .returned (.bool true) ∧ Below w.heap.size w w' := by
  clear _h1 _h2
  have S0 := Lib.hid (fun w' => newB_nil w')
  have SR := Lib.hid (fun w' => rounds22_any w')
  have S2 := Lib.hid (fun w' => rmayR_any n hn w')
  have SA := Lib.hid (fun w' => awake22_any w')
  by_cases hE : grE n k = 0
  · have hk : ¬ (k < 0 ∨ 10 < k ∨ ¬ n < P2 256) := fun h => by unfold grE at hE; rw [if_pos h] at hE; cases hE
    have h0 : n ≠ 0 := fun h => by unfold grE at hE; rw [if_neg hk, if_pos h] at hE; cases hE
    have h : n < P2 256 := Decidable.byContradiction fun h => hk (Or.inr (Or.inr h))
    have c0 : 0 ≤ k := Int.not_lt.1 fun h => hk (Or.inl h)
    have c1 : k ≤ 10 := Int.not_lt.1 fun h => hk (Or.inr (Or.inl h))
    obtain ⟨j, rfl⟩ := Int.eq_ofNat_of_zero_le c0
    have hj : j ≤ 10 := by omega
    obtain ⟨u1, u2, u3⟩ := up_range h0 h
    obtain ⟨g1, g2, _⟩ := gr_step u3 u1 u2 hj
    have h164 : P2 164 < M := by rw [M_eq]; exact P2_lt (by omega)
    have h162 : P2 162 < M := by rw [M_eq]; exact P2_lt (by omega)
    have S1 := Lib.hid (fun e g w' hE hI hne => pairB_yes e g n j h0 h hj w' hE hI hne)
    rw [decide_eq_true h] at S2
    have S3 := Lib.hid (fun w' => norm16_any n h0 h w')
    have SP := Lib.hid (fun v w' h => rpair22_any v (upN n) j w' u3 u1 u2 hj h)
    have SX := Lib.hid (fun w' => big_any (grG (upN n) j) (by omega) w')
    have SY := Lib.hid (fun w' => big_any (grH (upN n) j) (by omega) w')
    have SCX := Lib.hid (fun v v2 w' h h2 => cmp_any v v2 (grG (upN n) j) (grG (upN n) j) w' (small_of g1 (by decide)) (small_of g1 (by decide)) h h2)
    have SCY := Lib.hid (fun v v2 w' h h2 => cmp_any v v2 (grH (upN n) j) (grH (upN n) j) w' (small_of g2 (by decide)) (small_of g2 (by decide)) h h2)
    rw [cmpSelf] at SCX SCY
    have b0 : decide ((j : Int) < 0) = false := decide_eq_false (by omega)
    have b1 : decide ((10 : Int) < (j : Int)) = false := decide_eq_false (by omega)
    have hz := isZ_no hn h0
    obtain ⟨X, hX⟩ : ∃ A, A = grG (upN n) j := ⟨_, rfl⟩
    obtain ⟨Y, hY⟩ : ∃ A, A = grH (upN n) j := ⟨_, rfl⟩
    rw [← hX, ← hY] at S1 SP
    rw [← hX] at SX SCX
    rw [← hY] at SY SCY
    obtain ⟨U, hU⟩ : ∃ y, y = upN n := ⟨_, rfl⟩
    rw [← hU] at S3 SP
    obtain ⟨b, hb⟩ : ∃ y, y = nrmN n := ⟨_, rfl⟩
    rw [← hb] at S3
    clear hn hE hk h0 h c0 c1 hj u1 u2 u3 g1 g2 h164 h162 hX hY hU hb
    go_enter Tryz.func7, Tryz.ntmps7
    have HB := Lib.hid (Below.refl w.heap.size w)
    have Gn := Lib.hid (alloc_new (w) (.cells (wcells n) 24))
    replace HB := Lib.hid (below_al HB.out (.cells (wcells n) 24))
    have cGn := cell_row Gn.out
    go_upto_region 1 with fail
    clear cGn
    obtain ⟨wA, hw⟩ : ∃ wx, wx = (w).alloc (.cells (wcells n) 24) := ⟨_, rfl⟩
    rw [← hw] at Gn HB ⊢
    clear hw
    have HZ := Lib.hid (lt_of_heap Gn.out)
    have cGn := cell_row Gn.out
    go_wp2_with fail
    refine (S0.out _).mono ?_
    rintro x w1 ⟨e, g, rfl, hen, hb⟩
    clear cGn
    replace HB := Lib.hid (below_then HB.out hb)
    replace Gn := Lib.hid ((hb.block _ (lt_of_heap Gn.out)).trans Gn.out)
    have Ge := Lib.hid hen.eng
    have KR := Lib.hid hen.rom
    have HNE := Lib.hid hen.ne
    have HLE := Lib.hid hen.le
    have HLG := Lib.hid hen.lg
    clear hen hb
    have cGn := cell_row Gn.out
    have cGe := cell_row Ge.out
    go_wp2_with fail
    refine (SR.out _).mono ?_
    rintro e w2 ⟨rfl, rfl⟩
    clear cGn cGe
    have cGn := cell_row Gn.out
    have cGe := cell_row Ge.out
    go_wp2_with fail
    refine (S1.out _ _ _ Ge.out KR.out HNE.out).mono ?_
    rintro e w3 ⟨rfl, hv⟩
    clear cGn cGe
    replace Gn := Lib.hid (hv.heap Gn.out (by have := HZ.out; have := HLG.out; have := HNE.out; omega))
    replace Ge := Lib.hid (hv.heap Ge.out (by have := HZ.out; have := HLG.out; have := HNE.out; omega))
    replace HB := Lib.hid (hv.out HB.out (by have := HZ.out; have := HLG.out; have := HNE.out; omega))
    replace KR := Lib.hid hv.rom
    clear hv
    replace Gn := Lib.hid (keepAl (o' := .cells (wcells X) 24) Gn.out)
    have Ga := Lib.hid (alloc_new (w3) (.cells (wcells X) 24))
    replace HB := Lib.hid (below_al HB.out (.cells (wcells X) 24))
    replace Gn := Lib.hid (keepAl (o' := .cells (wcells Y) 24) Gn.out)
    replace Ga := Lib.hid (keepAl (o' := .cells (wcells Y) 24) Ga.out)
    have Gb := Lib.hid (alloc_new' (w := (w3).alloc (.cells (wcells X) 24)) (n := w3.heap.size + 1) (.cells (wcells Y) 24) (by simp))
    replace HB := Lib.hid (below_al HB.out (.cells (wcells Y) 24))
    have cGn := cell_row Gn.out
    have cGa := cell_row Ga.out
    have cGb := cell_row Gb.out
    go_wp2_with fail
    refine (S2.out _).mono ?_
    rintro e w4 ⟨rfl, hb⟩
    clear cGn cGa cGb
    replace HB := Lib.hid (below_then HB.out hb)
    replace Gn := Lib.hid ((hb.block _ (lt_of_heap Gn.out)).trans Gn.out)
    replace Ga := Lib.hid ((hb.block _ (lt_of_heap Ga.out)).trans Ga.out)
    replace Gb := Lib.hid ((hb.block _ (lt_of_heap Gb.out)).trans Gb.out)
    clear hb
    have cGn := cell_row Gn.out
    have cGa := cell_row Ga.out
    have cGb := cell_row Gb.out
    go_wp2_with fail
    refine (S3.out _).mono ?_
    rintro e w5 ⟨ru, rfl, hr, hb⟩
    clear cGn cGa cGb
    replace HB := Lib.hid (below_then HB.out hb)
    replace Gn := Lib.hid ((hb.block _ (lt_of_heap Gn.out)).trans Gn.out)
    replace Ga := Lib.hid ((hb.block _ (lt_of_heap Ga.out)).trans Ga.out)
    replace Gb := Lib.hid ((hb.block _ (lt_of_heap Gb.out)).trans Gb.out)
    have Ru := Lib.hid hr
    clear hr hb
    have cGa := cell_row Ga.out
    have cGb := cell_row Gb.out
    go_wp2_with fail
    refine (SP.out _ _ Ru.out).mono ?_
    rintro e w6 ⟨rx, ry, rfl, hr, hr2, hb⟩
    clear cGa cGb
    replace HB := Lib.hid (below_then HB.out hb)
    replace Ga := Lib.hid ((hb.block _ (lt_of_heap Ga.out)).trans Ga.out)
    replace Gb := Lib.hid ((hb.block _ (lt_of_heap Gb.out)).trans Gb.out)
    replace Ru := Lib.hid (Ru.out.below hb)
    have Rx := Lib.hid hr
    have Ry := Lib.hid hr2
    clear hr hr2 hb
    have cGa := cell_row Ga.out
    have cGb := cell_row Gb.out
    go_wp2_with fail
    refine (SX.out _).mono ?_
    rintro e w7 ⟨rp, rfl, hr, hb⟩
    clear cGa cGb
    replace HB := Lib.hid (below_then HB.out hb)
    replace Ga := Lib.hid ((hb.block _ (lt_of_heap Ga.out)).trans Ga.out)
    replace Gb := Lib.hid ((hb.block _ (lt_of_heap Gb.out)).trans Gb.out)
    replace Rx := Lib.hid (Rx.out.below hb)
    replace Ry := Lib.hid (Ry.out.below hb)
    have Rp := Lib.hid hr
    clear hr hb
    have cGa := cell_row Ga.out
    have cGb := cell_row Gb.out
    go_wp2_with fail
    refine (SCX.out _ _ _ Rp.out Rx.out).mono ?_
    rintro e w8 ⟨rfl, hb⟩
    clear cGa cGb
    replace HB := Lib.hid (below_then HB.out hb)
    replace Ga := Lib.hid ((hb.block _ (lt_of_heap Ga.out)).trans Ga.out)
    replace Gb := Lib.hid ((hb.block _ (lt_of_heap Gb.out)).trans Gb.out)
    replace Rx := Lib.hid (Rx.out.below hb)
    replace Ry := Lib.hid (Ry.out.below hb)
    replace Rp := Lib.hid (Rp.out.below hb)
    clear hb
    have cGa := cell_row Ga.out
    have cGb := cell_row Gb.out
    go_wp2_with fail
    refine (SY.out _).mono ?_
    rintro e w9 ⟨rq, rfl, hr, hb⟩
    clear cGa cGb
    replace HB := Lib.hid (below_then HB.out hb)
    replace Ga := Lib.hid ((hb.block _ (lt_of_heap Ga.out)).trans Ga.out)
    replace Gb := Lib.hid ((hb.block _ (lt_of_heap Gb.out)).trans Gb.out)
    replace Ry := Lib.hid (Ry.out.below hb)
    have Rq := Lib.hid hr
    clear hr hb
    have cGa := cell_row Ga.out
    have cGb := cell_row Gb.out
    go_wp2_with fail
    refine (SCY.out _ _ _ Rq.out Ry.out).mono ?_
    rintro e w10 ⟨rfl, hb⟩
    clear cGa cGb
    replace HB := Lib.hid (below_then HB.out hb)
    replace Ga := Lib.hid ((hb.block _ (lt_of_heap Ga.out)).trans Ga.out)
    replace Gb := Lib.hid ((hb.block _ (lt_of_heap Gb.out)).trans Gb.out)
    replace Ry := Lib.hid (Ry.out.below hb)
    replace Rq := Lib.hid (Rq.out.below hb)
    clear hb
    have cGa := cell_row Ga.out
    have cGb := cell_row Gb.out
    go_wp2_with fail
    refine (SA.out _).mono ?_
    rintro e w11 ⟨rfl, hb⟩
    clear cGa cGb
    replace HB := Lib.hid (below_then HB.out hb)
    replace Ga := Lib.hid ((hb.block _ (lt_of_heap Ga.out)).trans Ga.out)
    replace Gb := Lib.hid ((hb.block _ (lt_of_heap Gb.out)).trans Gb.out)
    clear hb
    have cGa := cell_row Ga.out
    have cGb := cell_row Gb.out
    go_wp2
    go_ret
    exact ⟨rfl, HB.out⟩
  · have S1 := Lib.hid (fun (e : Nat) w' => pairB_no e n k hn hE w')
    unfold grE at hE S1
    by_cases c0 : k < 0
    · have b0 : decide (k < 0) = true := decide_eq_true c0
      rw [if_pos (Or.inl c0)] at S1
      clear hn hE c0 S2
      go_enter Tryz.func7, Tryz.ntmps7
      have HB := Lib.hid (Below.refl w.heap.size w)
      have Gn := Lib.hid (alloc_new (w) (.cells (wcells n) 24))
      replace HB := Lib.hid (below_al HB.out (.cells (wcells n) 24))
      have cGn := cell_row Gn.out
      go_upto_region 1 with fail
      clear cGn
      obtain ⟨wA, hw⟩ : ∃ wx, wx = (w).alloc (.cells (wcells n) 24) := ⟨_, rfl⟩
      rw [← hw] at Gn HB ⊢
      clear hw
      have HZ := Lib.hid (lt_of_heap Gn.out)
      have cGn := cell_row Gn.out
      go_wp2_with fail
      refine (S0.out _).mono ?_
      rintro x w12 ⟨e, g, rfl, hen, hb⟩
      clear cGn
      replace HB := Lib.hid (below_then HB.out hb)
      replace Gn := Lib.hid ((hb.block _ (lt_of_heap Gn.out)).trans Gn.out)
      have Ge := Lib.hid hen.eng
      have KR := Lib.hid hen.rom
      have HNE := Lib.hid hen.ne
      have HLE := Lib.hid hen.le
      have HLG := Lib.hid hen.lg
      clear hen hb
      have cGn := cell_row Gn.out
      have cGe := cell_row Ge.out
      go_wp2_with fail
      refine (SR.out _).mono ?_
      rintro e w13 ⟨rfl, rfl⟩
      clear cGn cGe
      have cGn := cell_row Gn.out
      go_wp2_with fail
      refine (S1.out _ _).mono ?_
      rintro e w14 ⟨rfl, hb⟩
      clear cGn
      replace HB := Lib.hid (below_then HB.out hb)
      replace Gn := Lib.hid ((hb.block _ (lt_of_heap Gn.out)).trans Gn.out)
      clear hb
      replace Gn := Lib.hid (keepAl (o' := .cells (wcells 0) 24) Gn.out)
      have Ga := Lib.hid (alloc_new (w14) (.cells (wcells 0) 24))
      replace HB := Lib.hid (below_al HB.out (.cells (wcells 0) 24))
      replace Gn := Lib.hid (keepAl (o' := .cells (wcells 0) 24) Gn.out)
      replace Ga := Lib.hid (keepAl (o' := .cells (wcells 0) 24) Ga.out)
      have Gb := Lib.hid (alloc_new' (w := (w14).alloc (.cells (wcells 0) 24)) (n := w14.heap.size + 1) (.cells (wcells 0) 24) (by simp))
      replace HB := Lib.hid (below_al HB.out (.cells (wcells 0) 24))
      skip
      have cGn := cell_row Gn.out
      have cGa := cell_row Ga.out
      have cGb := cell_row Gb.out
      go_wp2_with fail
      refine (SA.out _).mono ?_
      rintro e w15 ⟨rfl, hb⟩
      clear cGn cGa cGb
      replace HB := Lib.hid (below_then HB.out hb)
      replace Gn := Lib.hid ((hb.block _ (lt_of_heap Gn.out)).trans Gn.out)
      replace Ga := Lib.hid ((hb.block _ (lt_of_heap Ga.out)).trans Ga.out)
      replace Gb := Lib.hid ((hb.block _ (lt_of_heap Gb.out)).trans Gb.out)
      clear hb
      have cGn := cell_row Gn.out
      have cGa := cell_row Ga.out
      have cGb := cell_row Gb.out
      go_wp2
      go_ret
      exact ⟨rfl, HB.out⟩
    · have b0 : decide (k < 0) = false := decide_eq_false c0
      by_cases c1 : 10 < k
      · have b1 : decide (10 < k) = true := decide_eq_true c1
        rw [if_pos (Or.inr (Or.inl c1))] at S1
        clear hn hE c0 c1 S2
        go_enter Tryz.func7, Tryz.ntmps7
        have HB := Lib.hid (Below.refl w.heap.size w)
        have Gn := Lib.hid (alloc_new (w) (.cells (wcells n) 24))
        replace HB := Lib.hid (below_al HB.out (.cells (wcells n) 24))
        have cGn := cell_row Gn.out
        go_upto_region 1 with fail
        clear cGn
        obtain ⟨wA, hw⟩ : ∃ wx, wx = (w).alloc (.cells (wcells n) 24) := ⟨_, rfl⟩
        rw [← hw] at Gn HB ⊢
        clear hw
        have HZ := Lib.hid (lt_of_heap Gn.out)
        have cGn := cell_row Gn.out
        go_wp2_with fail
        refine (S0.out _).mono ?_
        rintro x w16 ⟨e, g, rfl, hen, hb⟩
        clear cGn
        replace HB := Lib.hid (below_then HB.out hb)
        replace Gn := Lib.hid ((hb.block _ (lt_of_heap Gn.out)).trans Gn.out)
        have Ge := Lib.hid hen.eng
        have KR := Lib.hid hen.rom
        have HNE := Lib.hid hen.ne
        have HLE := Lib.hid hen.le
        have HLG := Lib.hid hen.lg
        clear hen hb
        have cGn := cell_row Gn.out
        have cGe := cell_row Ge.out
        go_wp2_with fail
        refine (SR.out _).mono ?_
        rintro e w17 ⟨rfl, rfl⟩
        clear cGn cGe
        have cGn := cell_row Gn.out
        go_wp2_with fail
        refine (S1.out _ _).mono ?_
        rintro e w18 ⟨rfl, hb⟩
        clear cGn
        replace HB := Lib.hid (below_then HB.out hb)
        replace Gn := Lib.hid ((hb.block _ (lt_of_heap Gn.out)).trans Gn.out)
        clear hb
        replace Gn := Lib.hid (keepAl (o' := .cells (wcells 0) 24) Gn.out)
        have Ga := Lib.hid (alloc_new (w18) (.cells (wcells 0) 24))
        replace HB := Lib.hid (below_al HB.out (.cells (wcells 0) 24))
        replace Gn := Lib.hid (keepAl (o' := .cells (wcells 0) 24) Gn.out)
        replace Ga := Lib.hid (keepAl (o' := .cells (wcells 0) 24) Ga.out)
        have Gb := Lib.hid (alloc_new' (w := (w18).alloc (.cells (wcells 0) 24)) (n := w18.heap.size + 1) (.cells (wcells 0) 24) (by simp))
        replace HB := Lib.hid (below_al HB.out (.cells (wcells 0) 24))
        skip
        have cGn := cell_row Gn.out
        have cGa := cell_row Ga.out
        have cGb := cell_row Gb.out
        go_wp2_with fail
        refine (SA.out _).mono ?_
        rintro e w19 ⟨rfl, hb⟩
        clear cGn cGa cGb
        replace HB := Lib.hid (below_then HB.out hb)
        replace Gn := Lib.hid ((hb.block _ (lt_of_heap Gn.out)).trans Gn.out)
        replace Ga := Lib.hid ((hb.block _ (lt_of_heap Ga.out)).trans Ga.out)
        replace Gb := Lib.hid ((hb.block _ (lt_of_heap Gb.out)).trans Gb.out)
        clear hb
        have cGn := cell_row Gn.out
        have cGa := cell_row Ga.out
        have cGb := cell_row Gb.out
        go_wp2
        go_ret
        exact ⟨rfl, HB.out⟩
      · have b1 : decide (10 < k) = false := decide_eq_false c1
        by_cases c2 : n < P2 256
        · rw [decide_eq_true c2] at S2
          rw [if_neg (by omega)] at S1 hE
          have h0 : n = 0 := by
            by_cases h0 : n = 0
            · exact h0
            · rw [if_neg h0] at hE; exact absurd rfl hE
          rw [if_pos h0] at S1
          have hz := isZ_yes h0
          clear hn hE c0 c1 c2 h0
          go_enter Tryz.func7, Tryz.ntmps7
          have HB := Lib.hid (Below.refl w.heap.size w)
          have Gn := Lib.hid (alloc_new (w) (.cells (wcells n) 24))
          replace HB := Lib.hid (below_al HB.out (.cells (wcells n) 24))
          have cGn := cell_row Gn.out
          go_upto_region 1 with fail
          clear cGn
          obtain ⟨wA, hw⟩ : ∃ wx, wx = (w).alloc (.cells (wcells n) 24) := ⟨_, rfl⟩
          rw [← hw] at Gn HB ⊢
          clear hw
          have HZ := Lib.hid (lt_of_heap Gn.out)
          have cGn := cell_row Gn.out
          go_wp2_with fail
          refine (S0.out _).mono ?_
          rintro x w20 ⟨e, g, rfl, hen, hb⟩
          clear cGn
          replace HB := Lib.hid (below_then HB.out hb)
          replace Gn := Lib.hid ((hb.block _ (lt_of_heap Gn.out)).trans Gn.out)
          have Ge := Lib.hid hen.eng
          have KR := Lib.hid hen.rom
          have HNE := Lib.hid hen.ne
          have HLE := Lib.hid hen.le
          have HLG := Lib.hid hen.lg
          clear hen hb
          have cGn := cell_row Gn.out
          have cGe := cell_row Ge.out
          go_wp2_with fail
          refine (SR.out _).mono ?_
          rintro e w21 ⟨rfl, rfl⟩
          clear cGn cGe
          have cGn := cell_row Gn.out
          go_wp2_with fail
          refine (S1.out _ _).mono ?_
          rintro e w22 ⟨rfl, hb⟩
          clear cGn
          replace HB := Lib.hid (below_then HB.out hb)
          replace Gn := Lib.hid ((hb.block _ (lt_of_heap Gn.out)).trans Gn.out)
          clear hb
          replace Gn := Lib.hid (keepAl (o' := .cells (wcells 0) 24) Gn.out)
          have Ga := Lib.hid (alloc_new (w22) (.cells (wcells 0) 24))
          replace HB := Lib.hid (below_al HB.out (.cells (wcells 0) 24))
          replace Gn := Lib.hid (keepAl (o' := .cells (wcells 0) 24) Gn.out)
          replace Ga := Lib.hid (keepAl (o' := .cells (wcells 0) 24) Ga.out)
          have Gb := Lib.hid (alloc_new' (w := (w22).alloc (.cells (wcells 0) 24)) (n := w22.heap.size + 1) (.cells (wcells 0) 24) (by simp))
          replace HB := Lib.hid (below_al HB.out (.cells (wcells 0) 24))
          have cGn := cell_row Gn.out
          have cGa := cell_row Ga.out
          have cGb := cell_row Gb.out
          go_wp2_with fail
          refine (S2.out _).mono ?_
          rintro e w23 ⟨rfl, hb⟩
          clear cGn cGa cGb
          replace HB := Lib.hid (below_then HB.out hb)
          replace Gn := Lib.hid ((hb.block _ (lt_of_heap Gn.out)).trans Gn.out)
          replace Ga := Lib.hid ((hb.block _ (lt_of_heap Ga.out)).trans Ga.out)
          replace Gb := Lib.hid ((hb.block _ (lt_of_heap Gb.out)).trans Gb.out)
          clear hb
          have cGn := cell_row Gn.out
          have cGa := cell_row Ga.out
          have cGb := cell_row Gb.out
          go_wp2_with fail
          refine (SA.out _).mono ?_
          rintro e w24 ⟨rfl, hb⟩
          clear cGn cGa cGb
          replace HB := Lib.hid (below_then HB.out hb)
          replace Gn := Lib.hid ((hb.block _ (lt_of_heap Gn.out)).trans Gn.out)
          replace Ga := Lib.hid ((hb.block _ (lt_of_heap Ga.out)).trans Ga.out)
          replace Gb := Lib.hid ((hb.block _ (lt_of_heap Gb.out)).trans Gb.out)
          clear hb
          have cGn := cell_row Gn.out
          have cGa := cell_row Ga.out
          have cGb := cell_row Gb.out
          go_wp2
          go_ret
          exact ⟨rfl, HB.out⟩
        · rw [decide_eq_false c2] at S2
          rw [if_pos (Or.inr (Or.inr c2))] at S1
          clear hn hE c0 c1 c2
          go_enter Tryz.func7, Tryz.ntmps7
          have HB := Lib.hid (Below.refl w.heap.size w)
          have Gn := Lib.hid (alloc_new (w) (.cells (wcells n) 24))
          replace HB := Lib.hid (below_al HB.out (.cells (wcells n) 24))
          have cGn := cell_row Gn.out
          go_upto_region 1 with fail
          clear cGn
          obtain ⟨wA, hw⟩ : ∃ wx, wx = (w).alloc (.cells (wcells n) 24) := ⟨_, rfl⟩
          rw [← hw] at Gn HB ⊢
          clear hw
          have HZ := Lib.hid (lt_of_heap Gn.out)
          have cGn := cell_row Gn.out
          go_wp2_with fail
          refine (S0.out _).mono ?_
          rintro x w25 ⟨e, g, rfl, hen, hb⟩
          clear cGn
          replace HB := Lib.hid (below_then HB.out hb)
          replace Gn := Lib.hid ((hb.block _ (lt_of_heap Gn.out)).trans Gn.out)
          have Ge := Lib.hid hen.eng
          have KR := Lib.hid hen.rom
          have HNE := Lib.hid hen.ne
          have HLE := Lib.hid hen.le
          have HLG := Lib.hid hen.lg
          clear hen hb
          have cGn := cell_row Gn.out
          have cGe := cell_row Ge.out
          go_wp2_with fail
          refine (SR.out _).mono ?_
          rintro e w26 ⟨rfl, rfl⟩
          clear cGn cGe
          have cGn := cell_row Gn.out
          go_wp2_with fail
          refine (S1.out _ _).mono ?_
          rintro e w27 ⟨rfl, hb⟩
          clear cGn
          replace HB := Lib.hid (below_then HB.out hb)
          replace Gn := Lib.hid ((hb.block _ (lt_of_heap Gn.out)).trans Gn.out)
          clear hb
          replace Gn := Lib.hid (keepAl (o' := .cells (wcells 0) 24) Gn.out)
          have Ga := Lib.hid (alloc_new (w27) (.cells (wcells 0) 24))
          replace HB := Lib.hid (below_al HB.out (.cells (wcells 0) 24))
          replace Gn := Lib.hid (keepAl (o' := .cells (wcells 0) 24) Gn.out)
          replace Ga := Lib.hid (keepAl (o' := .cells (wcells 0) 24) Ga.out)
          have Gb := Lib.hid (alloc_new' (w := (w27).alloc (.cells (wcells 0) 24)) (n := w27.heap.size + 1) (.cells (wcells 0) 24) (by simp))
          replace HB := Lib.hid (below_al HB.out (.cells (wcells 0) 24))
          have cGn := cell_row Gn.out
          have cGa := cell_row Ga.out
          have cGb := cell_row Gb.out
          go_wp2_with fail
          refine (S2.out _).mono ?_
          rintro e w28 ⟨rfl, hb⟩
          clear cGn cGa cGb
          replace HB := Lib.hid (below_then HB.out hb)
          replace Gn := Lib.hid ((hb.block _ (lt_of_heap Gn.out)).trans Gn.out)
          replace Ga := Lib.hid ((hb.block _ (lt_of_heap Ga.out)).trans Ga.out)
          replace Gb := Lib.hid ((hb.block _ (lt_of_heap Gb.out)).trans Gb.out)
          clear hb
          have cGn := cell_row Gn.out
          have cGa := cell_row Ga.out
          have cGb := cell_row Gb.out
          go_wp2_with fail
          refine (SA.out _).mono ?_
          rintro e w29 ⟨rfl, hb⟩
          clear cGn cGa cGb
          replace HB := Lib.hid (below_then HB.out hb)
          replace Gn := Lib.hid ((hb.block _ (lt_of_heap Gn.out)).trans Gn.out)
          replace Ga := Lib.hid ((hb.block _ (lt_of_heap Ga.out)).trans Ga.out)
          replace Gb := Lib.hid ((hb.block _ (lt_of_heap Gb.out)).trans Gb.out)
          clear hb
          have cGn := cell_row Gn.out
          have cGa := cell_row Ga.out
          have cGb := cell_row Gb.out
          go_wp2
          go_ret
          exact ⟨rfl, HB.out⟩
end Go.Proofs.YtegmmaaapdgocaaGreat
