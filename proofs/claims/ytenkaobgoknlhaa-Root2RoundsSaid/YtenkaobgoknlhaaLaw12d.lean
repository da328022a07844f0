/- THE WALK of the law on the number nearest to a root. -/
import Derived.Test.YtenkaobgoknlhaaLaw12
import Derived.Test.YtenkaobgoknlhaaRt2f
namespace Go.Proofs.Ytenkaobgoknlhaa
open Go Go.RowKit

attribute [local go_sem ↓] Go.wp_at_zero Go.wp_at_succ
set_option maxRecDepth 100000 in
set_option maxHeartbeats 4000000 in
theorem root2Rounds_any (n : Nat) (w : World) (hn : n < M) :
    Calls Try.prog 26 #[wv n] w fun e w' => e = .returned (.bool true) ∧ Below w.heap.size w w' := by
  have SA := Lib.hid (fun w' => awake12_any w')
  have S1 := Lib.hid (fun w' => round_w n hn w')
  have S2 := Lib.hid (fun w' => rmayR_any n hn w')
  by_cases hm : n < P2 256
  · have hS := rt_lt hm
    have h128 : P2 128 < M := by rw [M_eq]; exact P2_lt (by omega)
    obtain ⟨h1, h2⟩ := rt_spec 2 n (by decide)
    rw [sqr] at h1 h2
    have hV : rdV n = if rtN 2 n < n - rtN 2 n * rtN 2 n then rtN 2 n + 1 else rtN 2 n := by unfold rdV; rw [if_pos hm]
    have S3 : Hid (∀ w' : World, Calls Try.prog 99 #[wv n, .int .i64 2] w' fun e w'' => e = .returned (.tuple #[wv (rtN 2 n), wv (n - rtN 2 n ^ 2)]) ∧ Below w'.heap.size w' w'') := Lib.hid fun w' => rroot_any n 2 w' hm (Or.inl rfl)
    rw [decide_eq_true hm] at S2
    rw [(rs_yes hm).2.2, hV] at S1
    obtain ⟨S, hSe⟩ : ∃ S, S = rtN 2 n := ⟨_, rfl⟩
    rw [← hSe] at hS h1 h2 S1 S3
    obtain ⟨R, hR⟩ : ∃ R, R = n - S ^ 2 := ⟨_, rfl⟩
    rw [← hR] at S3
    have hSM : S < M := by omega
    have hSB : S < BIG := small_of hS (by omega)
    have h129 : S * 2 < P2 129 := by rw [show 129 = 128 + 1 from rfl, P2_twice]; omega
    have h130 : S * 2 + 1 < P2 130 := by have : P2 129 < P2 130 := P2_lt (by omega)
                                         omega
    have hTT : (S * 2 + 1) * (S * 2 + 1) < P2 260 := by have := Nat.mul_lt_mul'' h130 h130; rwa [← P2_add] at this
    have h4n : n * P2 2 < P2 258 := by have := Nat.mul_lt_mul_of_pos_right hm (P2_pos 2); rwa [← P2_add] at this
    have B1 := Lib.hid (fun w' => big_any S hSM w')
    have B2 := Lib.hid (fun w' => big_any n hn w')
    have T1 : Hid (∀ (v : Value) (w' : World), IsBig w' v S → Calls Try.prog 49 #[v, .int .i64 1] w' (GivesBig (S * P2 1) w')) := Lib.hid fun v w' h => rshl_any v S 1 w' hSB (by omega) h
    rw [P2_1] at T1
    have T2 := Lib.hid (fun w' => small_any 1 w' (by omega))
    have T3 := Lib.hid (fun v v2 w' h h' => add_any v v2 (S * 2) 1 w' (small_of h129 (by omega)) (small_of (show 1 < P2 64 by rw [P2_64]; decide) (by omega)) h h')
    have T4 : Hid (∀ (v : Value) (w' : World), IsBig w' v n → Calls Try.prog 49 #[v, .int .i64 2] w' (GivesBig (n * P2 2) w')) := Lib.hid fun v w' h => rshl_any v n 2 w' (small_M hn) (by omega) h
    have T5 := Lib.hid (fun v v2 w' h h' => mul_any v v2 (S * 2 + 1) (S * 2 + 1) w' (small_of h130 (by omega)) (small_of h130 (by omega)) h h')
    have T6 := Lib.hid (fun v v2 w' h h' => cmp_any v v2 (n * P2 2) ((S * 2 + 1) * (S * 2 + 1)) w' (small_of h4n (by omega)) (small_of hTT (by omega)) h h')
    have T7 := Lib.hid (fun v v2 w' h h' => add_any v v2 S 1 w' hSB (small_of (show 1 < P2 64 by rw [P2_64]; decide) (by omega)) h h')
    have hcond : (0 < cmpN (n * P2 2) ((S * 2 + 1) * (S * 2 + 1))) ↔ S < n - S * S := by
      have e : (S * 2 + 1) * (S * 2 + 1) = 4 * (S * S) + 4 * S + 1 := by
        rw [Nat.add_mul, Nat.mul_add, Nat.mul_one, Nat.one_mul, Nat.mul_mul_mul_comm]
        omega
      rw [e, show P2 2 = 4 by rw [P2_eq]]
      unfold cmpN
      split <;> (try split) <;> omega
    obtain ⟨C, hC⟩ : ∃ C, C = cmpN (n * P2 2) ((S * 2 + 1) * (S * 2 + 1)) := ⟨_, rfl⟩
    rw [← hC] at T6 hcond
    obtain ⟨N4, hN4⟩ : ∃ x, x = n * P2 2 := ⟨_, rfl⟩
    rw [← hN4] at T4 T6
    obtain ⟨TT, hTe⟩ : ∃ x, x = S * 2 + 1 := ⟨_, rfl⟩
    rw [← hTe] at T3 T5 T6
    obtain ⟨T2s, hT2⟩ : ∃ x, x = TT * TT := ⟨_, rfl⟩
    rw [← hT2] at T5 T6
    obtain ⟨S2s, hS2⟩ : ∃ x, x = S * 2 := ⟨_, rfl⟩
    rw [← hS2] at T1 T3
    have hS1M : S + 1 < M := by omega
    have B3 := Lib.hid (fun w' => big_any (S + 1) hS1M w')
    have C1 := Lib.hid (fun v v2 w' h h' => cmp_any v v2 S S w' hSB hSB h h')
    have C2 := Lib.hid (fun v v2 w' h h' => cmp_any v v2 (S + 1) (S + 1) w' (small_M hS1M) (small_M hS1M) h h')
    have c1 : cmpN S S = 0 := cmpN_eq rfl
    have c2 : cmpN (S + 1) (S + 1) = 0 := cmpN_eq rfl
    rw [c1] at C1
    rw [c2] at C2
    obtain ⟨S1n, hS1n⟩ : ∃ x, x = S + 1 := ⟨_, rfl⟩
    rw [← hS1n] at S1 T7 B3 C2
    by_cases hc : 0 < C
    · rw [if_pos (hcond.1 hc)] at S1
      clear hn hm hS h128 h1 h2 hV hSe hR hSM hSB h129 h130 hTT h4n hcond hC hN4 hTe hT2 hS2 hS1M c1 c2 hS1n
      go_enter Try.func26, Try.ntmps26
      have HB := Lib.hid (Below.refl w.heap.size w)
      have Gn := Lib.hid (alloc_new (w) (.cells (wcells n) 26))
      replace HB := Lib.hid (below_al HB.out (.cells (wcells n) 26))
      have cGn := cell_row Gn.out
      go_wp2_with fail
      refine (S1.out _).mono ?_
      rintro e w1 ⟨rfl, hb⟩
      clear cGn
      replace HB := Lib.hid (below_then HB.out hb)
      replace Gn := Lib.hid ((hb.block _ (lt_of_heap Gn.out)).trans Gn.out)
      clear hb
      replace Gn := Lib.hid (keepAl (o' := .cells (wcells S1n) 26) Gn.out)
      have Gv := Lib.hid (alloc_new (w1) (.cells (wcells S1n) 26))
      replace HB := Lib.hid (below_al HB.out (.cells (wcells S1n) 26))
      have cGn := cell_row Gn.out
      have cGv := cell_row Gv.out
      go_wp2_with fail
      refine (S2.out _).mono ?_
      rintro e w2 ⟨rfl, hb⟩
      clear cGn cGv
      replace HB := Lib.hid (below_then HB.out hb)
      replace Gn := Lib.hid ((hb.block _ (lt_of_heap Gn.out)).trans Gn.out)
      replace Gv := Lib.hid ((hb.block _ (lt_of_heap Gv.out)).trans Gv.out)
      clear hb
      have cGn := cell_row Gn.out
      have cGv := cell_row Gv.out
      go_wp2_with fail
      refine (S3.out _).mono ?_
      rintro e w3 ⟨rfl, hb⟩
      clear cGn cGv
      replace HB := Lib.hid (below_then HB.out hb)
      replace Gn := Lib.hid ((hb.block _ (lt_of_heap Gn.out)).trans Gn.out)
      replace Gv := Lib.hid ((hb.block _ (lt_of_heap Gv.out)).trans Gv.out)
      clear hb
      replace Gn := Lib.hid (keepAl (o' := .cells (wcells S) 26) Gn.out)
      replace Gv := Lib.hid (keepAl (o' := .cells (wcells S) 26) Gv.out)
      have Gs := Lib.hid (alloc_new (w3) (.cells (wcells S) 26))
      replace HB := Lib.hid (below_al HB.out (.cells (wcells S) 26))
      replace Gn := Lib.hid (keepAl (o' := .cells (wcells R) 26) Gn.out)
      replace Gv := Lib.hid (keepAl (o' := .cells (wcells R) 26) Gv.out)
      replace Gs := Lib.hid (keepAl (o' := .cells (wcells R) 26) Gs.out)
      have Gr := Lib.hid (alloc_new' (w := (w3).alloc (.cells (wcells S) 26)) (n := w3.heap.size + 1) (.cells (wcells R) 26) (by simp))
      replace HB := Lib.hid (below_al HB.out (.cells (wcells R) 26))
      have cGn := cell_row Gn.out
      have cGv := cell_row Gv.out
      have cGs := cell_row Gs.out
      have cGr := cell_row Gr.out
      go_wp2_with fail
      refine (B1.out _).mono ?_
      rintro e w4 ⟨rw, rfl, hr, hb⟩
      clear cGn cGv cGs cGr
      replace HB := Lib.hid (below_then HB.out hb)
      replace Gn := Lib.hid ((hb.block _ (lt_of_heap Gn.out)).trans Gn.out)
      replace Gv := Lib.hid ((hb.block _ (lt_of_heap Gv.out)).trans Gv.out)
      replace Gs := Lib.hid ((hb.block _ (lt_of_heap Gs.out)).trans Gs.out)
      replace Gr := Lib.hid ((hb.block _ (lt_of_heap Gr.out)).trans Gr.out)
      have Rw := Lib.hid hr
      clear hr hb
      have cGn := cell_row Gn.out
      have cGv := cell_row Gv.out
      have cGs := cell_row Gs.out
      have cGr := cell_row Gr.out
      go_wp2_with fail
      refine (T1.out _ _ Rw.out).mono ?_
      rintro e w5 ⟨rt, rfl, hr, hb⟩
      clear cGn cGv cGs cGr
      replace HB := Lib.hid (below_then HB.out hb)
      replace Gn := Lib.hid ((hb.block _ (lt_of_heap Gn.out)).trans Gn.out)
      replace Gv := Lib.hid ((hb.block _ (lt_of_heap Gv.out)).trans Gv.out)
      replace Gs := Lib.hid ((hb.block _ (lt_of_heap Gs.out)).trans Gs.out)
      replace Gr := Lib.hid ((hb.block _ (lt_of_heap Gr.out)).trans Gr.out)
      replace Rw := Lib.hid (Rw.out.below hb)
      have Rt := Lib.hid hr
      clear hr hb
      have cGn := cell_row Gn.out
      have cGv := cell_row Gv.out
      have cGs := cell_row Gs.out
      have cGr := cell_row Gr.out
      go_wp2_with fail
      refine (T2.out _).mono ?_
      rintro e w6 ⟨ro, rfl, hr, hb⟩
      clear cGn cGv cGs cGr
      replace HB := Lib.hid (below_then HB.out hb)
      replace Gn := Lib.hid ((hb.block _ (lt_of_heap Gn.out)).trans Gn.out)
      replace Gv := Lib.hid ((hb.block _ (lt_of_heap Gv.out)).trans Gv.out)
      replace Gs := Lib.hid ((hb.block _ (lt_of_heap Gs.out)).trans Gs.out)
      replace Gr := Lib.hid ((hb.block _ (lt_of_heap Gr.out)).trans Gr.out)
      replace Rw := Lib.hid (Rw.out.below hb)
      replace Rt := Lib.hid (Rt.out.below hb)
      have Ro := Lib.hid hr
      clear hr hb
      have cGn := cell_row Gn.out
      have cGv := cell_row Gv.out
      have cGs := cell_row Gs.out
      have cGr := cell_row Gr.out
      go_wp2_with fail
      refine (T3.out _ _ _ Rt.out Ro.out).mono ?_
      rintro e w7 ⟨ru, rfl, hr, hb⟩
      clear cGn cGv cGs cGr
      replace HB := Lib.hid (below_then HB.out hb)
      replace Gn := Lib.hid ((hb.block _ (lt_of_heap Gn.out)).trans Gn.out)
      replace Gv := Lib.hid ((hb.block _ (lt_of_heap Gv.out)).trans Gv.out)
      replace Gs := Lib.hid ((hb.block _ (lt_of_heap Gs.out)).trans Gs.out)
      replace Gr := Lib.hid ((hb.block _ (lt_of_heap Gr.out)).trans Gr.out)
      replace Rw := Lib.hid (Rw.out.below hb)
      replace Rt := Lib.hid (Rt.out.below hb)
      replace Ro := Lib.hid (Ro.out.below hb)
      have Ru := Lib.hid hr
      clear hr hb
      have cGn := cell_row Gn.out
      have cGv := cell_row Gv.out
      have cGs := cell_row Gs.out
      have cGr := cell_row Gr.out
      go_wp2_with fail
      refine (B2.out _).mono ?_
      rintro e w8 ⟨rn, rfl, hr, hb⟩
      clear cGn cGv cGs cGr
      replace HB := Lib.hid (below_then HB.out hb)
      replace Gn := Lib.hid ((hb.block _ (lt_of_heap Gn.out)).trans Gn.out)
      replace Gv := Lib.hid ((hb.block _ (lt_of_heap Gv.out)).trans Gv.out)
      replace Gs := Lib.hid ((hb.block _ (lt_of_heap Gs.out)).trans Gs.out)
      replace Gr := Lib.hid ((hb.block _ (lt_of_heap Gr.out)).trans Gr.out)
      replace Rw := Lib.hid (Rw.out.below hb)
      replace Rt := Lib.hid (Rt.out.below hb)
      replace Ro := Lib.hid (Ro.out.below hb)
      replace Ru := Lib.hid (Ru.out.below hb)
      have Rn := Lib.hid hr
      clear hr hb
      have cGn := cell_row Gn.out
      have cGv := cell_row Gv.out
      have cGs := cell_row Gs.out
      have cGr := cell_row Gr.out
      go_wp2_with fail
      refine (T4.out _ _ Rn.out).mono ?_
      rintro e w9 ⟨rf, rfl, hr, hb⟩
      clear cGn cGv cGs cGr
      replace HB := Lib.hid (below_then HB.out hb)
      replace Gn := Lib.hid ((hb.block _ (lt_of_heap Gn.out)).trans Gn.out)
      replace Gv := Lib.hid ((hb.block _ (lt_of_heap Gv.out)).trans Gv.out)
      replace Gs := Lib.hid ((hb.block _ (lt_of_heap Gs.out)).trans Gs.out)
      replace Gr := Lib.hid ((hb.block _ (lt_of_heap Gr.out)).trans Gr.out)
      replace Rw := Lib.hid (Rw.out.below hb)
      replace Rt := Lib.hid (Rt.out.below hb)
      replace Ro := Lib.hid (Ro.out.below hb)
      replace Ru := Lib.hid (Ru.out.below hb)
      replace Rn := Lib.hid (Rn.out.below hb)
      have Rf := Lib.hid hr
      clear hr hb
      have cGn := cell_row Gn.out
      have cGv := cell_row Gv.out
      have cGs := cell_row Gs.out
      have cGr := cell_row Gr.out
      go_wp2_with fail
      refine (T5.out _ _ _ Ru.out Ru.out).mono ?_
      rintro e w10 ⟨rq, rfl, hr, hb⟩
      clear cGn cGv cGs cGr
      replace HB := Lib.hid (below_then HB.out hb)
      replace Gn := Lib.hid ((hb.block _ (lt_of_heap Gn.out)).trans Gn.out)
      replace Gv := Lib.hid ((hb.block _ (lt_of_heap Gv.out)).trans Gv.out)
      replace Gs := Lib.hid ((hb.block _ (lt_of_heap Gs.out)).trans Gs.out)
      replace Gr := Lib.hid ((hb.block _ (lt_of_heap Gr.out)).trans Gr.out)
      replace Rw := Lib.hid (Rw.out.below hb)
      replace Rt := Lib.hid (Rt.out.below hb)
      replace Ro := Lib.hid (Ro.out.below hb)
      replace Ru := Lib.hid (Ru.out.below hb)
      replace Rn := Lib.hid (Rn.out.below hb)
      replace Rf := Lib.hid (Rf.out.below hb)
      have Rq := Lib.hid hr
      clear hr hb
      have cGn := cell_row Gn.out
      have cGv := cell_row Gv.out
      have cGs := cell_row Gs.out
      have cGr := cell_row Gr.out
      go_wp2_with fail
      refine (T6.out _ _ _ Rf.out Rq.out).mono ?_
      rintro e w11 ⟨rfl, hb⟩
      clear cGn cGv cGs cGr
      replace HB := Lib.hid (below_then HB.out hb)
      replace Gn := Lib.hid ((hb.block _ (lt_of_heap Gn.out)).trans Gn.out)
      replace Gv := Lib.hid ((hb.block _ (lt_of_heap Gv.out)).trans Gv.out)
      replace Gs := Lib.hid ((hb.block _ (lt_of_heap Gs.out)).trans Gs.out)
      replace Gr := Lib.hid ((hb.block _ (lt_of_heap Gr.out)).trans Gr.out)
      replace Rw := Lib.hid (Rw.out.below hb)
      replace Rt := Lib.hid (Rt.out.below hb)
      replace Ro := Lib.hid (Ro.out.below hb)
      replace Ru := Lib.hid (Ru.out.below hb)
      replace Rn := Lib.hid (Rn.out.below hb)
      replace Rf := Lib.hid (Rf.out.below hb)
      replace Rq := Lib.hid (Rq.out.below hb)
      clear hb
      have cGn := cell_row Gn.out
      have cGv := cell_row Gv.out
      have cGs := cell_row Gs.out
      have cGr := cell_row Gr.out
      go_wp2_with fail
      refine (T2.out _).mono ?_
      rintro e w12 ⟨rp, rfl, hr, hb⟩
      clear cGn cGv cGs cGr
      replace HB := Lib.hid (below_then HB.out hb)
      replace Gn := Lib.hid ((hb.block _ (lt_of_heap Gn.out)).trans Gn.out)
      replace Gv := Lib.hid ((hb.block _ (lt_of_heap Gv.out)).trans Gv.out)
      replace Gs := Lib.hid ((hb.block _ (lt_of_heap Gs.out)).trans Gs.out)
      replace Gr := Lib.hid ((hb.block _ (lt_of_heap Gr.out)).trans Gr.out)
      replace Rw := Lib.hid (Rw.out.below hb)
      have Rp := Lib.hid hr
      clear hr hb
      have cGn := cell_row Gn.out
      have cGv := cell_row Gv.out
      have cGs := cell_row Gs.out
      have cGr := cell_row Gr.out
      go_wp2_with fail
      refine (T7.out _ _ _ Rw.out Rp.out).mono ?_
      rintro e w13 ⟨rx, rfl, hr, hb⟩
      clear cGn cGv cGs cGr
      replace HB := Lib.hid (below_then HB.out hb)
      replace Gn := Lib.hid ((hb.block _ (lt_of_heap Gn.out)).trans Gn.out)
      replace Gv := Lib.hid ((hb.block _ (lt_of_heap Gv.out)).trans Gv.out)
      replace Gs := Lib.hid ((hb.block _ (lt_of_heap Gs.out)).trans Gs.out)
      replace Gr := Lib.hid ((hb.block _ (lt_of_heap Gr.out)).trans Gr.out)
      replace Rw := Lib.hid (Rw.out.below hb)
      replace Rp := Lib.hid (Rp.out.below hb)
      have Rx := Lib.hid hr
      clear hr hb
      have cGn := cell_row Gn.out
      have cGv := cell_row Gv.out
      have cGs := cell_row Gs.out
      have cGr := cell_row Gr.out
      go_wp2_with fail
      refine (B3.out _).mono ?_
      rintro e w14 ⟨ry, rfl, hr, hb⟩
      clear cGn cGv cGs cGr
      replace HB := Lib.hid (below_then HB.out hb)
      replace Gn := Lib.hid ((hb.block _ (lt_of_heap Gn.out)).trans Gn.out)
      replace Gv := Lib.hid ((hb.block _ (lt_of_heap Gv.out)).trans Gv.out)
      replace Gs := Lib.hid ((hb.block _ (lt_of_heap Gs.out)).trans Gs.out)
      replace Gr := Lib.hid ((hb.block _ (lt_of_heap Gr.out)).trans Gr.out)
      replace Rw := Lib.hid (Rw.out.below hb)
      replace Rp := Lib.hid (Rp.out.below hb)
      replace Rx := Lib.hid (Rx.out.below hb)
      have Ry := Lib.hid hr
      clear hr hb
      have cGn := cell_row Gn.out
      have cGv := cell_row Gv.out
      have cGs := cell_row Gs.out
      have cGr := cell_row Gr.out
      go_wp2_with fail
      refine (C2.out _ _ _ Ry.out Rx.out).mono ?_
      rintro e w15 ⟨rfl, hb⟩
      clear cGn cGv cGs cGr
      replace HB := Lib.hid (below_then HB.out hb)
      replace Gn := Lib.hid ((hb.block _ (lt_of_heap Gn.out)).trans Gn.out)
      replace Gv := Lib.hid ((hb.block _ (lt_of_heap Gv.out)).trans Gv.out)
      replace Gs := Lib.hid ((hb.block _ (lt_of_heap Gs.out)).trans Gs.out)
      replace Gr := Lib.hid ((hb.block _ (lt_of_heap Gr.out)).trans Gr.out)
      replace Rw := Lib.hid (Rw.out.below hb)
      replace Rp := Lib.hid (Rp.out.below hb)
      replace Rx := Lib.hid (Rx.out.below hb)
      replace Ry := Lib.hid (Ry.out.below hb)
      clear hb
      have cGn := cell_row Gn.out
      have cGv := cell_row Gv.out
      have cGs := cell_row Gs.out
      have cGr := cell_row Gr.out
      go_wp2_with fail
      refine (SA.out _).mono ?_
      rintro e w16 ⟨rfl, hb⟩
      clear cGn cGv cGs cGr
      replace HB := Lib.hid (below_then HB.out hb)
      replace Gn := Lib.hid ((hb.block _ (lt_of_heap Gn.out)).trans Gn.out)
      replace Gv := Lib.hid ((hb.block _ (lt_of_heap Gv.out)).trans Gv.out)
      replace Gs := Lib.hid ((hb.block _ (lt_of_heap Gs.out)).trans Gs.out)
      replace Gr := Lib.hid ((hb.block _ (lt_of_heap Gr.out)).trans Gr.out)
      replace Rw := Lib.hid (Rw.out.below hb)
      replace Rp := Lib.hid (Rp.out.below hb)
      replace Rx := Lib.hid (Rx.out.below hb)
      replace Ry := Lib.hid (Ry.out.below hb)
      clear hb
      have cGn := cell_row Gn.out
      have cGv := cell_row Gv.out
      have cGs := cell_row Gs.out
      have cGr := cell_row Gr.out
      go_wp2
      go_ret
      exact ⟨rfl, HB.out⟩
    · rw [if_neg (fun h => hc (hcond.2 h))] at S1
      clear hn hm hS h128 h1 h2 hV hSe hR hSM hSB h129 h130 hTT h4n hcond hC hN4 hTe hT2 hS2 hS1M c1 c2 hS1n
      go_enter Try.func26, Try.ntmps26
      have HB := Lib.hid (Below.refl w.heap.size w)
      have Gn := Lib.hid (alloc_new (w) (.cells (wcells n) 26))
      replace HB := Lib.hid (below_al HB.out (.cells (wcells n) 26))
      have cGn := cell_row Gn.out
      go_wp2_with fail
      refine (S1.out _).mono ?_
      rintro e w17 ⟨rfl, hb⟩
      clear cGn
      replace HB := Lib.hid (below_then HB.out hb)
      replace Gn := Lib.hid ((hb.block _ (lt_of_heap Gn.out)).trans Gn.out)
      clear hb
      replace Gn := Lib.hid (keepAl (o' := .cells (wcells S) 26) Gn.out)
      have Gv := Lib.hid (alloc_new (w17) (.cells (wcells S) 26))
      replace HB := Lib.hid (below_al HB.out (.cells (wcells S) 26))
      have cGn := cell_row Gn.out
      have cGv := cell_row Gv.out
      go_wp2_with fail
      refine (S2.out _).mono ?_
      rintro e w18 ⟨rfl, hb⟩
      clear cGn cGv
      replace HB := Lib.hid (below_then HB.out hb)
      replace Gn := Lib.hid ((hb.block _ (lt_of_heap Gn.out)).trans Gn.out)
      replace Gv := Lib.hid ((hb.block _ (lt_of_heap Gv.out)).trans Gv.out)
      clear hb
      have cGn := cell_row Gn.out
      have cGv := cell_row Gv.out
      go_wp2_with fail
      refine (S3.out _).mono ?_
      rintro e w19 ⟨rfl, hb⟩
      clear cGn cGv
      replace HB := Lib.hid (below_then HB.out hb)
      replace Gn := Lib.hid ((hb.block _ (lt_of_heap Gn.out)).trans Gn.out)
      replace Gv := Lib.hid ((hb.block _ (lt_of_heap Gv.out)).trans Gv.out)
      clear hb
      replace Gn := Lib.hid (keepAl (o' := .cells (wcells S) 26) Gn.out)
      replace Gv := Lib.hid (keepAl (o' := .cells (wcells S) 26) Gv.out)
      have Gs := Lib.hid (alloc_new (w19) (.cells (wcells S) 26))
      replace HB := Lib.hid (below_al HB.out (.cells (wcells S) 26))
      replace Gn := Lib.hid (keepAl (o' := .cells (wcells R) 26) Gn.out)
      replace Gv := Lib.hid (keepAl (o' := .cells (wcells R) 26) Gv.out)
      replace Gs := Lib.hid (keepAl (o' := .cells (wcells R) 26) Gs.out)
      have Gr := Lib.hid (alloc_new' (w := (w19).alloc (.cells (wcells S) 26)) (n := w19.heap.size + 1) (.cells (wcells R) 26) (by simp))
      replace HB := Lib.hid (below_al HB.out (.cells (wcells R) 26))
      have cGn := cell_row Gn.out
      have cGv := cell_row Gv.out
      have cGs := cell_row Gs.out
      have cGr := cell_row Gr.out
      go_wp2_with fail
      refine (B1.out _).mono ?_
      rintro e w20 ⟨rw, rfl, hr, hb⟩
      clear cGn cGv cGs cGr
      replace HB := Lib.hid (below_then HB.out hb)
      replace Gn := Lib.hid ((hb.block _ (lt_of_heap Gn.out)).trans Gn.out)
      replace Gv := Lib.hid ((hb.block _ (lt_of_heap Gv.out)).trans Gv.out)
      replace Gs := Lib.hid ((hb.block _ (lt_of_heap Gs.out)).trans Gs.out)
      replace Gr := Lib.hid ((hb.block _ (lt_of_heap Gr.out)).trans Gr.out)
      have Rw := Lib.hid hr
      clear hr hb
      have cGn := cell_row Gn.out
      have cGv := cell_row Gv.out
      have cGs := cell_row Gs.out
      have cGr := cell_row Gr.out
      go_wp2_with fail
      refine (T1.out _ _ Rw.out).mono ?_
      rintro e w21 ⟨rt, rfl, hr, hb⟩
      clear cGn cGv cGs cGr
      replace HB := Lib.hid (below_then HB.out hb)
      replace Gn := Lib.hid ((hb.block _ (lt_of_heap Gn.out)).trans Gn.out)
      replace Gv := Lib.hid ((hb.block _ (lt_of_heap Gv.out)).trans Gv.out)
      replace Gs := Lib.hid ((hb.block _ (lt_of_heap Gs.out)).trans Gs.out)
      replace Gr := Lib.hid ((hb.block _ (lt_of_heap Gr.out)).trans Gr.out)
      replace Rw := Lib.hid (Rw.out.below hb)
      have Rt := Lib.hid hr
      clear hr hb
      have cGn := cell_row Gn.out
      have cGv := cell_row Gv.out
      have cGs := cell_row Gs.out
      have cGr := cell_row Gr.out
      go_wp2_with fail
      refine (T2.out _).mono ?_
      rintro e w22 ⟨ro, rfl, hr, hb⟩
      clear cGn cGv cGs cGr
      replace HB := Lib.hid (below_then HB.out hb)
      replace Gn := Lib.hid ((hb.block _ (lt_of_heap Gn.out)).trans Gn.out)
      replace Gv := Lib.hid ((hb.block _ (lt_of_heap Gv.out)).trans Gv.out)
      replace Gs := Lib.hid ((hb.block _ (lt_of_heap Gs.out)).trans Gs.out)
      replace Gr := Lib.hid ((hb.block _ (lt_of_heap Gr.out)).trans Gr.out)
      replace Rw := Lib.hid (Rw.out.below hb)
      replace Rt := Lib.hid (Rt.out.below hb)
      have Ro := Lib.hid hr
      clear hr hb
      have cGn := cell_row Gn.out
      have cGv := cell_row Gv.out
      have cGs := cell_row Gs.out
      have cGr := cell_row Gr.out
      go_wp2_with fail
      refine (T3.out _ _ _ Rt.out Ro.out).mono ?_
      rintro e w23 ⟨ru, rfl, hr, hb⟩
      clear cGn cGv cGs cGr
      replace HB := Lib.hid (below_then HB.out hb)
      replace Gn := Lib.hid ((hb.block _ (lt_of_heap Gn.out)).trans Gn.out)
      replace Gv := Lib.hid ((hb.block _ (lt_of_heap Gv.out)).trans Gv.out)
      replace Gs := Lib.hid ((hb.block _ (lt_of_heap Gs.out)).trans Gs.out)
      replace Gr := Lib.hid ((hb.block _ (lt_of_heap Gr.out)).trans Gr.out)
      replace Rw := Lib.hid (Rw.out.below hb)
      replace Rt := Lib.hid (Rt.out.below hb)
      replace Ro := Lib.hid (Ro.out.below hb)
      have Ru := Lib.hid hr
      clear hr hb
      have cGn := cell_row Gn.out
      have cGv := cell_row Gv.out
      have cGs := cell_row Gs.out
      have cGr := cell_row Gr.out
      go_wp2_with fail
      refine (B2.out _).mono ?_
      rintro e w24 ⟨rn, rfl, hr, hb⟩
      clear cGn cGv cGs cGr
      replace HB := Lib.hid (below_then HB.out hb)
      replace Gn := Lib.hid ((hb.block _ (lt_of_heap Gn.out)).trans Gn.out)
      replace Gv := Lib.hid ((hb.block _ (lt_of_heap Gv.out)).trans Gv.out)
      replace Gs := Lib.hid ((hb.block _ (lt_of_heap Gs.out)).trans Gs.out)
      replace Gr := Lib.hid ((hb.block _ (lt_of_heap Gr.out)).trans Gr.out)
      replace Rw := Lib.hid (Rw.out.below hb)
      replace Rt := Lib.hid (Rt.out.below hb)
      replace Ro := Lib.hid (Ro.out.below hb)
      replace Ru := Lib.hid (Ru.out.below hb)
      have Rn := Lib.hid hr
      clear hr hb
      have cGn := cell_row Gn.out
      have cGv := cell_row Gv.out
      have cGs := cell_row Gs.out
      have cGr := cell_row Gr.out
      go_wp2_with fail
      refine (T4.out _ _ Rn.out).mono ?_
      rintro e w25 ⟨rf, rfl, hr, hb⟩
      clear cGn cGv cGs cGr
      replace HB := Lib.hid (below_then HB.out hb)
      replace Gn := Lib.hid ((hb.block _ (lt_of_heap Gn.out)).trans Gn.out)
      replace Gv := Lib.hid ((hb.block _ (lt_of_heap Gv.out)).trans Gv.out)
      replace Gs := Lib.hid ((hb.block _ (lt_of_heap Gs.out)).trans Gs.out)
      replace Gr := Lib.hid ((hb.block _ (lt_of_heap Gr.out)).trans Gr.out)
      replace Rw := Lib.hid (Rw.out.below hb)
      replace Rt := Lib.hid (Rt.out.below hb)
      replace Ro := Lib.hid (Ro.out.below hb)
      replace Ru := Lib.hid (Ru.out.below hb)
      replace Rn := Lib.hid (Rn.out.below hb)
      have Rf := Lib.hid hr
      clear hr hb
      have cGn := cell_row Gn.out
      have cGv := cell_row Gv.out
      have cGs := cell_row Gs.out
      have cGr := cell_row Gr.out
      go_wp2_with fail
      refine (T5.out _ _ _ Ru.out Ru.out).mono ?_
      rintro e w26 ⟨rq, rfl, hr, hb⟩
      clear cGn cGv cGs cGr
      replace HB := Lib.hid (below_then HB.out hb)
      replace Gn := Lib.hid ((hb.block _ (lt_of_heap Gn.out)).trans Gn.out)
      replace Gv := Lib.hid ((hb.block _ (lt_of_heap Gv.out)).trans Gv.out)
      replace Gs := Lib.hid ((hb.block _ (lt_of_heap Gs.out)).trans Gs.out)
      replace Gr := Lib.hid ((hb.block _ (lt_of_heap Gr.out)).trans Gr.out)
      replace Rw := Lib.hid (Rw.out.below hb)
      replace Rt := Lib.hid (Rt.out.below hb)
      replace Ro := Lib.hid (Ro.out.below hb)
      replace Ru := Lib.hid (Ru.out.below hb)
      replace Rn := Lib.hid (Rn.out.below hb)
      replace Rf := Lib.hid (Rf.out.below hb)
      have Rq := Lib.hid hr
      clear hr hb
      have cGn := cell_row Gn.out
      have cGv := cell_row Gv.out
      have cGs := cell_row Gs.out
      have cGr := cell_row Gr.out
      go_wp2_with fail
      refine (T6.out _ _ _ Rf.out Rq.out).mono ?_
      rintro e w27 ⟨rfl, hb⟩
      clear cGn cGv cGs cGr
      replace HB := Lib.hid (below_then HB.out hb)
      replace Gn := Lib.hid ((hb.block _ (lt_of_heap Gn.out)).trans Gn.out)
      replace Gv := Lib.hid ((hb.block _ (lt_of_heap Gv.out)).trans Gv.out)
      replace Gs := Lib.hid ((hb.block _ (lt_of_heap Gs.out)).trans Gs.out)
      replace Gr := Lib.hid ((hb.block _ (lt_of_heap Gr.out)).trans Gr.out)
      replace Rw := Lib.hid (Rw.out.below hb)
      replace Rt := Lib.hid (Rt.out.below hb)
      replace Ro := Lib.hid (Ro.out.below hb)
      replace Ru := Lib.hid (Ru.out.below hb)
      replace Rn := Lib.hid (Rn.out.below hb)
      replace Rf := Lib.hid (Rf.out.below hb)
      replace Rq := Lib.hid (Rq.out.below hb)
      clear hb
      have cGn := cell_row Gn.out
      have cGv := cell_row Gv.out
      have cGs := cell_row Gs.out
      have cGr := cell_row Gr.out
      go_wp2_with fail
      refine (B1.out _).mono ?_
      rintro e w28 ⟨ry, rfl, hr, hb⟩
      clear cGn cGv cGs cGr
      replace HB := Lib.hid (below_then HB.out hb)
      replace Gn := Lib.hid ((hb.block _ (lt_of_heap Gn.out)).trans Gn.out)
      replace Gv := Lib.hid ((hb.block _ (lt_of_heap Gv.out)).trans Gv.out)
      replace Gs := Lib.hid ((hb.block _ (lt_of_heap Gs.out)).trans Gs.out)
      replace Gr := Lib.hid ((hb.block _ (lt_of_heap Gr.out)).trans Gr.out)
      replace Rw := Lib.hid (Rw.out.below hb)
      have Ry := Lib.hid hr
      clear hr hb
      have cGn := cell_row Gn.out
      have cGv := cell_row Gv.out
      have cGs := cell_row Gs.out
      have cGr := cell_row Gr.out
      go_wp2_with fail
      refine (C1.out _ _ _ Ry.out Rw.out).mono ?_
      rintro e w29 ⟨rfl, hb⟩
      clear cGn cGv cGs cGr
      replace HB := Lib.hid (below_then HB.out hb)
      replace Gn := Lib.hid ((hb.block _ (lt_of_heap Gn.out)).trans Gn.out)
      replace Gv := Lib.hid ((hb.block _ (lt_of_heap Gv.out)).trans Gv.out)
      replace Gs := Lib.hid ((hb.block _ (lt_of_heap Gs.out)).trans Gs.out)
      replace Gr := Lib.hid ((hb.block _ (lt_of_heap Gr.out)).trans Gr.out)
      replace Rw := Lib.hid (Rw.out.below hb)
      replace Ry := Lib.hid (Ry.out.below hb)
      clear hb
      have cGn := cell_row Gn.out
      have cGv := cell_row Gv.out
      have cGs := cell_row Gs.out
      have cGr := cell_row Gr.out
      go_wp2_with fail
      refine (SA.out _).mono ?_
      rintro e w30 ⟨rfl, hb⟩
      clear cGn cGv cGs cGr
      replace HB := Lib.hid (below_then HB.out hb)
      replace Gn := Lib.hid ((hb.block _ (lt_of_heap Gn.out)).trans Gn.out)
      replace Gv := Lib.hid ((hb.block _ (lt_of_heap Gv.out)).trans Gv.out)
      replace Gs := Lib.hid ((hb.block _ (lt_of_heap Gs.out)).trans Gs.out)
      replace Gr := Lib.hid ((hb.block _ (lt_of_heap Gr.out)).trans Gr.out)
      replace Rw := Lib.hid (Rw.out.below hb)
      replace Ry := Lib.hid (Ry.out.below hb)
      clear hb
      have cGn := cell_row Gn.out
      have cGv := cell_row Gv.out
      have cGs := cell_row Gs.out
      have cGr := cell_row Gr.out
      go_wp2
      go_ret
      exact ⟨rfl, HB.out⟩
  · rw [decide_eq_false hm] at S2
    rw [(rs_no hm).2.2, show rdV n = 0 by unfold rdV; rw [if_neg hm]] at S1
    clear hn hm
    go_enter Try.func26, Try.ntmps26
    have HB := Lib.hid (Below.refl w.heap.size w)
    have Gn := Lib.hid (alloc_new (w) (.cells (wcells n) 26))
    replace HB := Lib.hid (below_al HB.out (.cells (wcells n) 26))
    have cGn := cell_row Gn.out
    go_wp2_with fail
    refine (S1.out _).mono ?_
    rintro e w31 ⟨rfl, hb⟩
    clear cGn
    replace HB := Lib.hid (below_then HB.out hb)
    replace Gn := Lib.hid ((hb.block _ (lt_of_heap Gn.out)).trans Gn.out)
    clear hb
    replace Gn := Lib.hid (keepAl (o' := .cells (wcells 0) 26) Gn.out)
    have Gv := Lib.hid (alloc_new (w31) (.cells (wcells 0) 26))
    replace HB := Lib.hid (below_al HB.out (.cells (wcells 0) 26))
    have cGn := cell_row Gn.out
    have cGv := cell_row Gv.out
    go_wp2_with fail
    refine (S2.out _).mono ?_
    rintro e w32 ⟨rfl, hb⟩
    clear cGn cGv
    replace HB := Lib.hid (below_then HB.out hb)
    replace Gn := Lib.hid ((hb.block _ (lt_of_heap Gn.out)).trans Gn.out)
    replace Gv := Lib.hid ((hb.block _ (lt_of_heap Gv.out)).trans Gv.out)
    clear hb
    have cGn := cell_row Gn.out
    have cGv := cell_row Gv.out
    go_wp2_with fail
    refine (SA.out _).mono ?_
    rintro e w33 ⟨rfl, hb⟩
    clear cGn cGv
    replace HB := Lib.hid (below_then HB.out hb)
    replace Gn := Lib.hid ((hb.block _ (lt_of_heap Gn.out)).trans Gn.out)
    replace Gv := Lib.hid ((hb.block _ (lt_of_heap Gv.out)).trans Gv.out)
    clear hb
    have cGn := cell_row Gn.out
    have cGv := cell_row Gv.out
    go_wp2
    go_ret
    exact ⟨rfl, HB.out⟩
end Go.Proofs.Ytenkaobgoknlhaa
