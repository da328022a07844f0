/- THE WALKS of the laws on srtroot: digits, the root so far. -/
import Derived.Test.YtffengboblekpaaLaw16
import Derived.Test.YtffengboblekpaaSrtrf
import Derived.Test.YtffengboblekpaaRef16
import Derived.Test.YtffengboblekpaaFly3
namespace Go.Proofs.Ytffengboblekpaa
open Go Go.RowKit

attribute [local go_sem ↓] Go.wp_at_zero Go.wp_at_succ
set_option maxRecDepth 100000 in
set_option maxHeartbeats 2000000 in
theorem srtrootDigits_any (n : Nat) (w : World) (hn : n < M) :
    Calls Try.prog 4 #[wv n] w fun e w' => e = .returned (.bool true) ∧ Below w.heap.size w w' := by
  have SA := Lib.hid (fun w' => awake16_any w')
  have SM := Lib.hid (fun w' => rmayR_any n hn w')
  by_cases hm : n < P2 256
  · rw [decide_eq_true hm] at SM
    by_cases h0 : n = 0
    · have SD := Lib.hid (fun w' => digitsS_no n hn (Or.inl h0) w')
      rw [(rs_yes hm).2.2] at SD
      have hz := isZ_yes h0
      clear hn hm h0
      go_enter Try.func4, Try.ntmps4
      have HB := Lib.hid (Below.refl w.heap.size w)
      have Gn := Lib.hid (alloc_new (w) (.cells (wcells n) 24))
      replace HB := Lib.hid (below_al HB.out (.cells (wcells n) 24))
      have cGn := cell_row Gn.out
      go_wp2_with fail
      refine (SD.out _).mono ?_
      rintro e w1 ⟨rfl, hb⟩
      clear cGn
      replace HB := Lib.hid (below_then HB.out hb)
      replace Gn := Lib.hid ((hb.block _ (lt_of_heap Gn.out)).trans Gn.out)
      clear hb
      have cGn := cell_row Gn.out
      go_wp2_with fail
      refine (SM.out _).mono ?_
      rintro e w2 ⟨rfl, hb⟩
      clear cGn
      replace HB := Lib.hid (below_then HB.out hb)
      replace Gn := Lib.hid ((hb.block _ (lt_of_heap Gn.out)).trans Gn.out)
      clear hb
      have cGn := cell_row Gn.out
      go_wp2_with fail
      refine (SA.out _).mono ?_
      rintro e w3 ⟨rfl, hb⟩
      clear cGn
      replace HB := Lib.hid (below_then HB.out hb)
      replace Gn := Lib.hid ((hb.block _ (lt_of_heap Gn.out)).trans Gn.out)
      clear hb
      have cGn := cell_row Gn.out
      go_wp2
      go_ret
      exact ⟨rfl, HB.out⟩
    · have SD := Lib.hid (fun w' => digitsS_yes n h0 hm w')
      have SR : Hid (∀ w' : World, Calls Try.prog 16 #[wv n, .int .i64 64] w' fun e w'' => ∃ va vb, e = .returned (.tuple #[va, vb]) ∧ IsIntsN w'' va (rDigs (upN n) 64) ∧ IsBig w'' vb (rpN (upN n) 64) ∧ Below w'.heap.size w' w'') := Lib.hid fun w' => run16_any n 64 h0 hm (by omega) w'
      have SS := Lib.hid (fun va vb w' h h' => same13_eq va vb (rDigs (upN n) 64) w' (by rw [rDigs_len]; omega) h h')
      have hz := isZ_no hn h0
      obtain ⟨X, hX⟩ : ∃ X, X = upN n := ⟨_, rfl⟩
      rw [← hX] at SD SR SS
      clear hn hm h0 hX
      go_enter Try.func4, Try.ntmps4
      have HB := Lib.hid (Below.refl w.heap.size w)
      have Gn := Lib.hid (alloc_new (w) (.cells (wcells n) 24))
      replace HB := Lib.hid (below_al HB.out (.cells (wcells n) 24))
      have cGn := cell_row Gn.out
      go_wp2_with fail
      clear cGn
      refine (SD.out _).mono ?_
      rintro e w2 ⟨va, rfl, hr, hb⟩
      replace HB := Lib.hid (below_then HB.out hb)
      replace Gn := Lib.hid ((hb.block _ (lt_of_heap Gn.out)).trans Gn.out)
      have Ka := Lib.hid hr
      clear hr hb
      have cGn := cell_row Gn.out
      go_wp2_with fail
      refine (SM.out _).mono ?_
      rintro e w4 ⟨rfl, hb⟩
      clear cGn
      replace HB := Lib.hid (below_then HB.out hb)
      replace Gn := Lib.hid ((hb.block _ (lt_of_heap Gn.out)).trans Gn.out)
      replace Ka := Lib.hid (Ka.out.older hb)
      clear hb
      have cGn := cell_row Gn.out
      go_wp2_with fail
      clear cGn
      refine (SR.out _).mono ?_
      rintro e w4 ⟨vb, vp, rfl, hr, hp, hb⟩
      replace HB := Lib.hid (below_then HB.out hb)
      replace Ka := Lib.hid (Ka.out.older hb)
      have Kb := Lib.hid hr
      clear hr hb hp Gn
      go_wp2_with fail
      refine (SS.out _ _ _ Ka.out Kb.out).mono ?_
      rintro e w5 ⟨rfl, hb⟩
      replace HB := Lib.hid (below_then HB.out hb)
      replace Ka := Lib.hid (Ka.out.older hb)
      replace Kb := Lib.hid (Kb.out.older hb)
      clear hb
      go_wp2_with fail
      refine (SA.out _).mono ?_
      rintro e w6 ⟨rfl, hb⟩
      replace HB := Lib.hid (below_then HB.out hb)
      replace Ka := Lib.hid (Ka.out.older hb)
      replace Kb := Lib.hid (Kb.out.older hb)
      clear hb
      go_wp2
      go_ret
      exact ⟨rfl, HB.out⟩
  · rw [decide_eq_false hm] at SM
    have SD := Lib.hid (fun w' => digitsS_no n hn (Or.inr hm) w')
    rw [(rs_no hm).2.2] at SD
    clear hn hm
    go_enter Try.func4, Try.ntmps4
    have HB := Lib.hid (Below.refl w.heap.size w)
    have Gn := Lib.hid (alloc_new (w) (.cells (wcells n) 24))
    replace HB := Lib.hid (below_al HB.out (.cells (wcells n) 24))
    have cGn := cell_row Gn.out
    go_wp2_with fail
    refine (SD.out _).mono ?_
    rintro e w7 ⟨rfl, hb⟩
    clear cGn
    replace HB := Lib.hid (below_then HB.out hb)
    replace Gn := Lib.hid ((hb.block _ (lt_of_heap Gn.out)).trans Gn.out)
    clear hb
    have cGn := cell_row Gn.out
    go_wp2_with fail
    refine (SM.out _).mono ?_
    rintro e w8 ⟨rfl, hb⟩
    clear cGn
    replace HB := Lib.hid (below_then HB.out hb)
    replace Gn := Lib.hid ((hb.block _ (lt_of_heap Gn.out)).trans Gn.out)
    clear hb
    have cGn := cell_row Gn.out
    go_wp2_with fail
    refine (SA.out _).mono ?_
    rintro e w9 ⟨rfl, hb⟩
    clear cGn
    replace HB := Lib.hid (below_then HB.out hb)
    replace Gn := Lib.hid ((hb.block _ (lt_of_heap Gn.out)).trans Gn.out)
    clear hb
    have cGn := cell_row Gn.out
    go_wp2
    go_ret
    exact ⟨rfl, HB.out⟩
set_option maxRecDepth 100000 in
set_option maxHeartbeats 4000000 in
theorem srtrootFar_any (n : Nat) (m : Int) (w : World) (hn : n < M) (hm1 : -9223372036854775808 ≤ m) (hm2 : m ≤ 9223372036854775807) :
    Calls Try.prog 5 #[wv n, .int .i64 m] w fun e w' => e = .returned (.bool true) ∧ Below w.heap.size w w' := by
  have SA := Lib.hid (fun w' => awake16_any w')
  have SM := Lib.hid (fun w' => rmayR_any n hn w')
  by_cases hm : n < P2 256
  · rw [decide_eq_true hm] at SM
    by_cases h0 : n = 0
    · have SN := Lib.hid (fun w' => normS_no n hn (Or.inl h0) w')
      have SF := Lib.hid (fun w' => farS_no n m hn (Or.inr (Or.inr (Or.inl h0))) w')
      have hz := isZ_yes h0
      have h1 : decide (m < 0) = true ∨ (decide (m < 0) = false ∧ decide (64 < m) = true) ∨ (decide (m < 0) = false ∧ decide (64 < m) = false) := by
        by_cases h : m < 0
        · exact Or.inl (decide_eq_true h)
        · right
          by_cases h' : 64 < m
          · left; exact ⟨decide_eq_false h, decide_eq_true h'⟩
          · right; exact ⟨decide_eq_false h, decide_eq_false h'⟩
      rcases h1 with h1 | ⟨h1, h2⟩ | ⟨h1, h2⟩
      · rw [if_neg (by have := of_decide_eq_true h1; omega)] at SF
        clear hn hm h0 hm1 hm2
        go_enter Try.func5, Try.ntmps5
        have HB := Lib.hid (Below.refl w.heap.size w)
        have Gn := Lib.hid (alloc_new (w) (.cells (wcells n) 24))
        replace HB := Lib.hid (below_al HB.out (.cells (wcells n) 24))
        have cGn := cell_row Gn.out
        go_wp2_with fail
        refine (SF.out _).mono ?_
        rintro e w10 ⟨rfl, hb⟩
        clear cGn
        replace HB := Lib.hid (below_then HB.out hb)
        replace Gn := Lib.hid ((hb.block _ (lt_of_heap Gn.out)).trans Gn.out)
        clear hb
        replace Gn := Lib.hid (keepAl (o' := .cells (wcells 0) 24) Gn.out)
        have Gp := Lib.hid (alloc_new (w10) (.cells (wcells 0) 24))
        replace HB := Lib.hid (below_al HB.out (.cells (wcells 0) 24))
        have cGn := cell_row Gn.out
        have cGp := cell_row Gp.out
        go_wp2_with fail
        refine (SN.out _).mono ?_
        rintro e w11 ⟨rfl, hb⟩
        clear cGn cGp
        replace HB := Lib.hid (below_then HB.out hb)
        replace Gn := Lib.hid ((hb.block _ (lt_of_heap Gn.out)).trans Gn.out)
        replace Gp := Lib.hid ((hb.block _ (lt_of_heap Gp.out)).trans Gp.out)
        clear hb
        replace Gn := Lib.hid (keepAl (o' := .cells (wcells 0) 24) Gn.out)
        replace Gp := Lib.hid (keepAl (o' := .cells (wcells 0) 24) Gp.out)
        have Gx := Lib.hid (alloc_new (w11) (.cells (wcells 0) 24))
        replace HB := Lib.hid (below_al HB.out (.cells (wcells 0) 24))
        have cGn := cell_row Gn.out
        have cGp := cell_row Gp.out
        have cGx := cell_row Gx.out
        go_wp2_with fail
        refine (SM.out _).mono ?_
        rintro e w12 ⟨rfl, hb⟩
        clear cGn cGp cGx
        replace HB := Lib.hid (below_then HB.out hb)
        replace Gn := Lib.hid ((hb.block _ (lt_of_heap Gn.out)).trans Gn.out)
        replace Gp := Lib.hid ((hb.block _ (lt_of_heap Gp.out)).trans Gp.out)
        replace Gx := Lib.hid ((hb.block _ (lt_of_heap Gx.out)).trans Gx.out)
        clear hb
        have cGn := cell_row Gn.out
        have cGp := cell_row Gp.out
        have cGx := cell_row Gx.out
        go_wp2_with fail
        refine (SA.out _).mono ?_
        rintro e w13 ⟨rfl, hb⟩
        clear cGn cGp cGx
        replace HB := Lib.hid (below_then HB.out hb)
        replace Gn := Lib.hid ((hb.block _ (lt_of_heap Gn.out)).trans Gn.out)
        replace Gp := Lib.hid ((hb.block _ (lt_of_heap Gp.out)).trans Gp.out)
        replace Gx := Lib.hid ((hb.block _ (lt_of_heap Gx.out)).trans Gx.out)
        clear hb
        have cGn := cell_row Gn.out
        have cGp := cell_row Gp.out
        have cGx := cell_row Gx.out
        go_wp2
        go_ret
        exact ⟨rfl, HB.out⟩
      · rw [if_neg (by have := of_decide_eq_true h2; omega)] at SF
        clear hn hm h0 hm1 hm2
        go_enter Try.func5, Try.ntmps5
        have HB := Lib.hid (Below.refl w.heap.size w)
        have Gn := Lib.hid (alloc_new (w) (.cells (wcells n) 24))
        replace HB := Lib.hid (below_al HB.out (.cells (wcells n) 24))
        have cGn := cell_row Gn.out
        go_wp2_with fail
        refine (SF.out _).mono ?_
        rintro e w14 ⟨rfl, hb⟩
        clear cGn
        replace HB := Lib.hid (below_then HB.out hb)
        replace Gn := Lib.hid ((hb.block _ (lt_of_heap Gn.out)).trans Gn.out)
        clear hb
        replace Gn := Lib.hid (keepAl (o' := .cells (wcells 0) 24) Gn.out)
        have Gp := Lib.hid (alloc_new (w14) (.cells (wcells 0) 24))
        replace HB := Lib.hid (below_al HB.out (.cells (wcells 0) 24))
        have cGn := cell_row Gn.out
        have cGp := cell_row Gp.out
        go_wp2_with fail
        refine (SN.out _).mono ?_
        rintro e w15 ⟨rfl, hb⟩
        clear cGn cGp
        replace HB := Lib.hid (below_then HB.out hb)
        replace Gn := Lib.hid ((hb.block _ (lt_of_heap Gn.out)).trans Gn.out)
        replace Gp := Lib.hid ((hb.block _ (lt_of_heap Gp.out)).trans Gp.out)
        clear hb
        replace Gn := Lib.hid (keepAl (o' := .cells (wcells 0) 24) Gn.out)
        replace Gp := Lib.hid (keepAl (o' := .cells (wcells 0) 24) Gp.out)
        have Gx := Lib.hid (alloc_new (w15) (.cells (wcells 0) 24))
        replace HB := Lib.hid (below_al HB.out (.cells (wcells 0) 24))
        have cGn := cell_row Gn.out
        have cGp := cell_row Gp.out
        have cGx := cell_row Gx.out
        go_wp2_with fail
        refine (SM.out _).mono ?_
        rintro e w16 ⟨rfl, hb⟩
        clear cGn cGp cGx
        replace HB := Lib.hid (below_then HB.out hb)
        replace Gn := Lib.hid ((hb.block _ (lt_of_heap Gn.out)).trans Gn.out)
        replace Gp := Lib.hid ((hb.block _ (lt_of_heap Gp.out)).trans Gp.out)
        replace Gx := Lib.hid ((hb.block _ (lt_of_heap Gx.out)).trans Gx.out)
        clear hb
        have cGn := cell_row Gn.out
        have cGp := cell_row Gp.out
        have cGx := cell_row Gx.out
        go_wp2_with fail
        refine (SA.out _).mono ?_
        rintro e w17 ⟨rfl, hb⟩
        clear cGn cGp cGx
        replace HB := Lib.hid (below_then HB.out hb)
        replace Gn := Lib.hid ((hb.block _ (lt_of_heap Gn.out)).trans Gn.out)
        replace Gp := Lib.hid ((hb.block _ (lt_of_heap Gp.out)).trans Gp.out)
        replace Gx := Lib.hid ((hb.block _ (lt_of_heap Gx.out)).trans Gx.out)
        clear hb
        have cGn := cell_row Gn.out
        have cGp := cell_row Gp.out
        have cGx := cell_row Gx.out
        go_wp2
        go_ret
        exact ⟨rfl, HB.out⟩
      · rw [if_pos (by have := of_decide_eq_false h2; have := of_decide_eq_false h1; omega)] at SF
        clear hn hm h0 hm1 hm2
        go_enter Try.func5, Try.ntmps5
        have HB := Lib.hid (Below.refl w.heap.size w)
        have Gn := Lib.hid (alloc_new (w) (.cells (wcells n) 24))
        replace HB := Lib.hid (below_al HB.out (.cells (wcells n) 24))
        have cGn := cell_row Gn.out
        go_wp2_with fail
        refine (SF.out _).mono ?_
        rintro e w18 ⟨rfl, hb⟩
        clear cGn
        replace HB := Lib.hid (below_then HB.out hb)
        replace Gn := Lib.hid ((hb.block _ (lt_of_heap Gn.out)).trans Gn.out)
        clear hb
        replace Gn := Lib.hid (keepAl (o' := .cells (wcells 0) 24) Gn.out)
        have Gp := Lib.hid (alloc_new (w18) (.cells (wcells 0) 24))
        replace HB := Lib.hid (below_al HB.out (.cells (wcells 0) 24))
        have cGn := cell_row Gn.out
        have cGp := cell_row Gp.out
        go_wp2_with fail
        refine (SN.out _).mono ?_
        rintro e w19 ⟨rfl, hb⟩
        clear cGn cGp
        replace HB := Lib.hid (below_then HB.out hb)
        replace Gn := Lib.hid ((hb.block _ (lt_of_heap Gn.out)).trans Gn.out)
        replace Gp := Lib.hid ((hb.block _ (lt_of_heap Gp.out)).trans Gp.out)
        clear hb
        replace Gn := Lib.hid (keepAl (o' := .cells (wcells 0) 24) Gn.out)
        replace Gp := Lib.hid (keepAl (o' := .cells (wcells 0) 24) Gp.out)
        have Gx := Lib.hid (alloc_new (w19) (.cells (wcells 0) 24))
        replace HB := Lib.hid (below_al HB.out (.cells (wcells 0) 24))
        have cGn := cell_row Gn.out
        have cGp := cell_row Gp.out
        have cGx := cell_row Gx.out
        go_wp2_with fail
        refine (SM.out _).mono ?_
        rintro e w20 ⟨rfl, hb⟩
        clear cGn cGp cGx
        replace HB := Lib.hid (below_then HB.out hb)
        replace Gn := Lib.hid ((hb.block _ (lt_of_heap Gn.out)).trans Gn.out)
        replace Gp := Lib.hid ((hb.block _ (lt_of_heap Gp.out)).trans Gp.out)
        replace Gx := Lib.hid ((hb.block _ (lt_of_heap Gx.out)).trans Gx.out)
        clear hb
        have cGn := cell_row Gn.out
        have cGp := cell_row Gp.out
        have cGx := cell_row Gx.out
        go_wp2_with fail
        refine (SA.out _).mono ?_
        rintro e w21 ⟨rfl, hb⟩
        clear cGn cGp cGx
        replace HB := Lib.hid (below_then HB.out hb)
        replace Gn := Lib.hid ((hb.block _ (lt_of_heap Gn.out)).trans Gn.out)
        replace Gp := Lib.hid ((hb.block _ (lt_of_heap Gp.out)).trans Gp.out)
        replace Gx := Lib.hid ((hb.block _ (lt_of_heap Gx.out)).trans Gx.out)
        clear hb
        have cGn := cell_row Gn.out
        have cGp := cell_row Gp.out
        have cGx := cell_row Gx.out
        go_wp2
        go_ret
        exact ⟨rfl, HB.out⟩
    · have SN := Lib.hid (fun w' => normS_yes n h0 hm w')
      have SG := Lib.hid (fun w' => norm16_any n h0 hm w')
      have hz := isZ_no hn h0
      obtain ⟨u1, u2, u3⟩ := up_range h0 hm
      have h256 : P2 256 < M := by rw [M_eq]; exact P2_lt (by omega)
      have SW := Lib.hid (fun v w' h => wide_any v (upN n) w' (small_M (by omega)) h)
      rw [Nat.mod_eq_of_lt (show upN n < M by omega), decide_eq_false (show ¬ M ≤ upN n by omega)] at SW
      by_cases hr : m < 0 ∨ 64 < m
      · have SF := Lib.hid (fun w' => farS_no n m hn (by omega) w')
        rw [if_neg (by omega)] at SF
        obtain ⟨X, hX⟩ : ∃ X, X = upN n := ⟨_, rfl⟩
        rw [← hX] at SN SG SW
        obtain ⟨c, hc⟩ : ∃ X, X = nrmN n := ⟨_, rfl⟩
        rw [← hc] at SN SG
        have h1 : decide (m < 0) = true ∨ (decide (m < 0) = false ∧ decide (64 < m) = true) := by
          by_cases h : m < 0
          · exact Or.inl (decide_eq_true h)
          · exact Or.inr ⟨decide_eq_false h, decide_eq_true (by omega)⟩
        clear hn hm h0 hm1 hm2 u1 u2 u3 h256 hr hX hc
        rcases h1 with h1 | ⟨h1, h2⟩
        · skip
          go_enter Try.func5, Try.ntmps5
          have HB := Lib.hid (Below.refl w.heap.size w)
          have Gn := Lib.hid (alloc_new (w) (.cells (wcells n) 24))
          replace HB := Lib.hid (below_al HB.out (.cells (wcells n) 24))
          have cGn := cell_row Gn.out
          go_wp2_with fail
          refine (SF.out _).mono ?_
          rintro e w22 ⟨rfl, hb⟩
          clear cGn
          replace HB := Lib.hid (below_then HB.out hb)
          replace Gn := Lib.hid ((hb.block _ (lt_of_heap Gn.out)).trans Gn.out)
          clear hb
          replace Gn := Lib.hid (keepAl (o' := .cells (wcells 0) 24) Gn.out)
          have Gp := Lib.hid (alloc_new (w22) (.cells (wcells 0) 24))
          replace HB := Lib.hid (below_al HB.out (.cells (wcells 0) 24))
          have cGn := cell_row Gn.out
          have cGp := cell_row Gp.out
          go_wp2_with fail
          refine (SN.out _).mono ?_
          rintro e w23 ⟨rfl, hb⟩
          clear cGn cGp
          replace HB := Lib.hid (below_then HB.out hb)
          replace Gn := Lib.hid ((hb.block _ (lt_of_heap Gn.out)).trans Gn.out)
          replace Gp := Lib.hid ((hb.block _ (lt_of_heap Gp.out)).trans Gp.out)
          clear hb
          replace Gn := Lib.hid (keepAl (o' := .cells (wcells X) 24) Gn.out)
          replace Gp := Lib.hid (keepAl (o' := .cells (wcells X) 24) Gp.out)
          have Gx := Lib.hid (alloc_new (w23) (.cells (wcells X) 24))
          replace HB := Lib.hid (below_al HB.out (.cells (wcells X) 24))
          have cGn := cell_row Gn.out
          have cGp := cell_row Gp.out
          have cGx := cell_row Gx.out
          go_wp2_with fail
          refine (SM.out _).mono ?_
          rintro e w24 ⟨rfl, hb⟩
          clear cGn cGp cGx
          replace HB := Lib.hid (below_then HB.out hb)
          replace Gn := Lib.hid ((hb.block _ (lt_of_heap Gn.out)).trans Gn.out)
          replace Gp := Lib.hid ((hb.block _ (lt_of_heap Gp.out)).trans Gp.out)
          replace Gx := Lib.hid ((hb.block _ (lt_of_heap Gx.out)).trans Gx.out)
          clear hb
          have cGn := cell_row Gn.out
          have cGp := cell_row Gp.out
          have cGx := cell_row Gx.out
          go_wp2_with fail
          clear cGn cGp cGx
          refine (SG.out _).mono ?_
          rintro e w7 ⟨vu, rfl, hr, hb⟩
          replace HB := Lib.hid (below_then HB.out hb)
          replace Gn := Lib.hid ((hb.block _ (lt_of_heap Gn.out)).trans Gn.out)
          replace Gp := Lib.hid ((hb.block _ (lt_of_heap Gp.out)).trans Gp.out)
          replace Gx := Lib.hid ((hb.block _ (lt_of_heap Gx.out)).trans Gx.out)
          have Ru := Lib.hid hr
          clear hr hb
          have cGn := cell_row Gn.out
          have cGp := cell_row Gp.out
          have cGx := cell_row Gx.out
          go_wp2_with fail
          refine (SW.out _ _ Ru.out).mono ?_
          rintro e w25 ⟨rfl, hb⟩
          clear cGn cGp cGx
          replace HB := Lib.hid (below_then HB.out hb)
          replace Gn := Lib.hid ((hb.block _ (lt_of_heap Gn.out)).trans Gn.out)
          replace Gp := Lib.hid ((hb.block _ (lt_of_heap Gp.out)).trans Gp.out)
          replace Gx := Lib.hid ((hb.block _ (lt_of_heap Gx.out)).trans Gx.out)
          replace Ru := Lib.hid (Ru.out.below hb)
          clear hb
          replace Gn := Lib.hid (keepAl (o' := .cells (wcells X) 24) Gn.out)
          replace Gp := Lib.hid (keepAl (o' := .cells (wcells X) 24) Gp.out)
          replace Gx := Lib.hid (keepAl (o' := .cells (wcells X) 24) Gx.out)
          have Gu := Lib.hid (alloc_new (w25) (.cells (wcells X) 24))
          replace HB := Lib.hid (below_al HB.out (.cells (wcells X) 24))
          have cGn := cell_row Gn.out
          have cGp := cell_row Gp.out
          have cGx := cell_row Gx.out
          have cGu := cell_row Gu.out
          go_wp2_with fail
          refine (SA.out _).mono ?_
          rintro e w26 ⟨rfl, hb⟩
          clear cGn cGp cGx cGu
          replace HB := Lib.hid (below_then HB.out hb)
          replace Gn := Lib.hid ((hb.block _ (lt_of_heap Gn.out)).trans Gn.out)
          replace Gp := Lib.hid ((hb.block _ (lt_of_heap Gp.out)).trans Gp.out)
          replace Gx := Lib.hid ((hb.block _ (lt_of_heap Gx.out)).trans Gx.out)
          replace Gu := Lib.hid ((hb.block _ (lt_of_heap Gu.out)).trans Gu.out)
          clear hb
          have cGn := cell_row Gn.out
          have cGp := cell_row Gp.out
          have cGx := cell_row Gx.out
          have cGu := cell_row Gu.out
          go_wp2
          go_ret
          exact ⟨rfl, HB.out⟩
        · skip
          go_enter Try.func5, Try.ntmps5
          have HB := Lib.hid (Below.refl w.heap.size w)
          have Gn := Lib.hid (alloc_new (w) (.cells (wcells n) 24))
          replace HB := Lib.hid (below_al HB.out (.cells (wcells n) 24))
          have cGn := cell_row Gn.out
          go_wp2_with fail
          refine (SF.out _).mono ?_
          rintro e w27 ⟨rfl, hb⟩
          clear cGn
          replace HB := Lib.hid (below_then HB.out hb)
          replace Gn := Lib.hid ((hb.block _ (lt_of_heap Gn.out)).trans Gn.out)
          clear hb
          replace Gn := Lib.hid (keepAl (o' := .cells (wcells 0) 24) Gn.out)
          have Gp := Lib.hid (alloc_new (w27) (.cells (wcells 0) 24))
          replace HB := Lib.hid (below_al HB.out (.cells (wcells 0) 24))
          have cGn := cell_row Gn.out
          have cGp := cell_row Gp.out
          go_wp2_with fail
          refine (SN.out _).mono ?_
          rintro e w28 ⟨rfl, hb⟩
          clear cGn cGp
          replace HB := Lib.hid (below_then HB.out hb)
          replace Gn := Lib.hid ((hb.block _ (lt_of_heap Gn.out)).trans Gn.out)
          replace Gp := Lib.hid ((hb.block _ (lt_of_heap Gp.out)).trans Gp.out)
          clear hb
          replace Gn := Lib.hid (keepAl (o' := .cells (wcells X) 24) Gn.out)
          replace Gp := Lib.hid (keepAl (o' := .cells (wcells X) 24) Gp.out)
          have Gx := Lib.hid (alloc_new (w28) (.cells (wcells X) 24))
          replace HB := Lib.hid (below_al HB.out (.cells (wcells X) 24))
          have cGn := cell_row Gn.out
          have cGp := cell_row Gp.out
          have cGx := cell_row Gx.out
          go_wp2_with fail
          refine (SM.out _).mono ?_
          rintro e w29 ⟨rfl, hb⟩
          clear cGn cGp cGx
          replace HB := Lib.hid (below_then HB.out hb)
          replace Gn := Lib.hid ((hb.block _ (lt_of_heap Gn.out)).trans Gn.out)
          replace Gp := Lib.hid ((hb.block _ (lt_of_heap Gp.out)).trans Gp.out)
          replace Gx := Lib.hid ((hb.block _ (lt_of_heap Gx.out)).trans Gx.out)
          clear hb
          have cGn := cell_row Gn.out
          have cGp := cell_row Gp.out
          have cGx := cell_row Gx.out
          go_wp2_with fail
          clear cGn cGp cGx
          refine (SG.out _).mono ?_
          rintro e w7 ⟨vu, rfl, hr, hb⟩
          replace HB := Lib.hid (below_then HB.out hb)
          replace Gn := Lib.hid ((hb.block _ (lt_of_heap Gn.out)).trans Gn.out)
          replace Gp := Lib.hid ((hb.block _ (lt_of_heap Gp.out)).trans Gp.out)
          replace Gx := Lib.hid ((hb.block _ (lt_of_heap Gx.out)).trans Gx.out)
          have Ru := Lib.hid hr
          clear hr hb
          have cGn := cell_row Gn.out
          have cGp := cell_row Gp.out
          have cGx := cell_row Gx.out
          go_wp2_with fail
          refine (SW.out _ _ Ru.out).mono ?_
          rintro e w30 ⟨rfl, hb⟩
          clear cGn cGp cGx
          replace HB := Lib.hid (below_then HB.out hb)
          replace Gn := Lib.hid ((hb.block _ (lt_of_heap Gn.out)).trans Gn.out)
          replace Gp := Lib.hid ((hb.block _ (lt_of_heap Gp.out)).trans Gp.out)
          replace Gx := Lib.hid ((hb.block _ (lt_of_heap Gx.out)).trans Gx.out)
          replace Ru := Lib.hid (Ru.out.below hb)
          clear hb
          replace Gn := Lib.hid (keepAl (o' := .cells (wcells X) 24) Gn.out)
          replace Gp := Lib.hid (keepAl (o' := .cells (wcells X) 24) Gp.out)
          replace Gx := Lib.hid (keepAl (o' := .cells (wcells X) 24) Gx.out)
          have Gu := Lib.hid (alloc_new (w30) (.cells (wcells X) 24))
          replace HB := Lib.hid (below_al HB.out (.cells (wcells X) 24))
          have cGn := cell_row Gn.out
          have cGp := cell_row Gp.out
          have cGx := cell_row Gx.out
          have cGu := cell_row Gu.out
          go_wp2_with fail
          refine (SA.out _).mono ?_
          rintro e w31 ⟨rfl, hb⟩
          clear cGn cGp cGx cGu
          replace HB := Lib.hid (below_then HB.out hb)
          replace Gn := Lib.hid ((hb.block _ (lt_of_heap Gn.out)).trans Gn.out)
          replace Gp := Lib.hid ((hb.block _ (lt_of_heap Gp.out)).trans Gp.out)
          replace Gx := Lib.hid ((hb.block _ (lt_of_heap Gx.out)).trans Gx.out)
          replace Gu := Lib.hid ((hb.block _ (lt_of_heap Gu.out)).trans Gu.out)
          clear hb
          have cGn := cell_row Gn.out
          have cGp := cell_row Gp.out
          have cGx := cell_row Gx.out
          have cGu := cell_row Gu.out
          go_wp2
          go_ret
          exact ⟨rfl, HB.out⟩
      · obtain ⟨k, rfl⟩ := Int.eq_ofNat_of_zero_le (show 0 ≤ m by omega)
        have hk : k ≤ 64 := by omega
        have SF := Lib.hid (fun w' => farS_yes n k h0 hm hk w')
        have SR := Lib.hid (fun w' => run16_any n k h0 hm hk w')
        obtain ⟨q1, q2⟩ := rpN_eq u1 u2 hk
        have h128 : P2 128 < P2 256 := P2_lt (by omega)
        rw [q1, toW_nat (by omega)] at SF
        have SV := Lib.hid (fun v w' h => wide_any v (rpN (upN n) k) w' (small_M (by omega)) h)
        rw [Nat.mod_eq_of_lt (show rpN (upN n) k < M by omega), decide_eq_false (show ¬ M ≤ rpN (upN n) k by omega)] at SV
        have h1 : decide ((k : Int) < 0) = false := decide_eq_false (by omega)
        have h2 : decide (64 < (k : Int)) = false := decide_eq_false (by omega)
        obtain ⟨V, hV⟩ : ∃ X, X = rpN (upN n) k := ⟨_, rfl⟩
        rw [← hV] at SF SR SV
        obtain ⟨X, hX⟩ : ∃ X, X = upN n := ⟨_, rfl⟩
        rw [← hX] at SN SG SW SR
        obtain ⟨c, hc⟩ : ∃ X, X = nrmN n := ⟨_, rfl⟩
        rw [← hc] at SN SG
        clear hn hm h0 hm1 hm2 u1 u2 u3 h256 hr hk q1 q2 h128 hV hX hc
        go_enter Try.func5, Try.ntmps5
        have HB := Lib.hid (Below.refl w.heap.size w)
        have Gn := Lib.hid (alloc_new (w) (.cells (wcells n) 24))
        replace HB := Lib.hid (below_al HB.out (.cells (wcells n) 24))
        have cGn := cell_row Gn.out
        go_wp2_with fail
        refine (SF.out _).mono ?_
        rintro e w32 ⟨rfl, hb⟩
        clear cGn
        replace HB := Lib.hid (below_then HB.out hb)
        replace Gn := Lib.hid ((hb.block _ (lt_of_heap Gn.out)).trans Gn.out)
        clear hb
        replace Gn := Lib.hid (keepAl (o' := .cells (wcells V) 24) Gn.out)
        have Gp := Lib.hid (alloc_new (w32) (.cells (wcells V) 24))
        replace HB := Lib.hid (below_al HB.out (.cells (wcells V) 24))
        have cGn := cell_row Gn.out
        have cGp := cell_row Gp.out
        go_wp2_with fail
        refine (SN.out _).mono ?_
        rintro e w33 ⟨rfl, hb⟩
        clear cGn cGp
        replace HB := Lib.hid (below_then HB.out hb)
        replace Gn := Lib.hid ((hb.block _ (lt_of_heap Gn.out)).trans Gn.out)
        replace Gp := Lib.hid ((hb.block _ (lt_of_heap Gp.out)).trans Gp.out)
        clear hb
        replace Gn := Lib.hid (keepAl (o' := .cells (wcells X) 24) Gn.out)
        replace Gp := Lib.hid (keepAl (o' := .cells (wcells X) 24) Gp.out)
        have Gx := Lib.hid (alloc_new (w33) (.cells (wcells X) 24))
        replace HB := Lib.hid (below_al HB.out (.cells (wcells X) 24))
        have cGn := cell_row Gn.out
        have cGp := cell_row Gp.out
        have cGx := cell_row Gx.out
        go_wp2_with fail
        refine (SM.out _).mono ?_
        rintro e w34 ⟨rfl, hb⟩
        clear cGn cGp cGx
        replace HB := Lib.hid (below_then HB.out hb)
        replace Gn := Lib.hid ((hb.block _ (lt_of_heap Gn.out)).trans Gn.out)
        replace Gp := Lib.hid ((hb.block _ (lt_of_heap Gp.out)).trans Gp.out)
        replace Gx := Lib.hid ((hb.block _ (lt_of_heap Gx.out)).trans Gx.out)
        clear hb
        have cGn := cell_row Gn.out
        have cGp := cell_row Gp.out
        have cGx := cell_row Gx.out
        go_wp2_with fail
        clear cGn cGp cGx
        refine (SG.out _).mono ?_
        rintro e w7 ⟨vu, rfl, hr, hb⟩
        replace HB := Lib.hid (below_then HB.out hb)
        replace Gn := Lib.hid ((hb.block _ (lt_of_heap Gn.out)).trans Gn.out)
        replace Gp := Lib.hid ((hb.block _ (lt_of_heap Gp.out)).trans Gp.out)
        replace Gx := Lib.hid ((hb.block _ (lt_of_heap Gx.out)).trans Gx.out)
        have Ru := Lib.hid hr
        clear hr hb
        have cGn := cell_row Gn.out
        have cGp := cell_row Gp.out
        have cGx := cell_row Gx.out
        go_wp2_with fail
        refine (SW.out _ _ Ru.out).mono ?_
        rintro e w35 ⟨rfl, hb⟩
        clear cGn cGp cGx
        replace HB := Lib.hid (below_then HB.out hb)
        replace Gn := Lib.hid ((hb.block _ (lt_of_heap Gn.out)).trans Gn.out)
        replace Gp := Lib.hid ((hb.block _ (lt_of_heap Gp.out)).trans Gp.out)
        replace Gx := Lib.hid ((hb.block _ (lt_of_heap Gx.out)).trans Gx.out)
        replace Ru := Lib.hid (Ru.out.below hb)
        clear hb
        replace Gn := Lib.hid (keepAl (o' := .cells (wcells X) 24) Gn.out)
        replace Gp := Lib.hid (keepAl (o' := .cells (wcells X) 24) Gp.out)
        replace Gx := Lib.hid (keepAl (o' := .cells (wcells X) 24) Gx.out)
        have Gu := Lib.hid (alloc_new (w35) (.cells (wcells X) 24))
        replace HB := Lib.hid (below_al HB.out (.cells (wcells X) 24))
        have cGn := cell_row Gn.out
        have cGp := cell_row Gp.out
        have cGx := cell_row Gx.out
        have cGu := cell_row Gu.out
        go_wp2_with fail
        clear cGn cGp cGx cGu
        refine (SR.out _).mono ?_
        rintro e w9 ⟨vb, vp, rfl, hr, hp, hb⟩
        replace HB := Lib.hid (below_then HB.out hb)
        replace Gp := Lib.hid ((hb.block _ (lt_of_heap Gp.out)).trans Gp.out)
        have Rp := Lib.hid hp
        clear hr hb hp Gn Gx Gu
        have cGp := cell_row Gp.out
        go_wp2_with fail
        refine (SV.out _ _ Rp.out).mono ?_
        rintro e w36 ⟨rfl, hb⟩
        clear cGp
        replace HB := Lib.hid (below_then HB.out hb)
        replace Gp := Lib.hid ((hb.block _ (lt_of_heap Gp.out)).trans Gp.out)
        replace Rp := Lib.hid (Rp.out.below hb)
        clear hb
        replace Gp := Lib.hid (keepAl (o' := .cells (wcells V) 24) Gp.out)
        have Gv := Lib.hid (alloc_new (w36) (.cells (wcells V) 24))
        replace HB := Lib.hid (below_al HB.out (.cells (wcells V) 24))
        have cGp := cell_row Gp.out
        have cGv := cell_row Gv.out
        go_wp2_with fail
        refine (SA.out _).mono ?_
        rintro e w37 ⟨rfl, hb⟩
        clear cGp cGv
        replace HB := Lib.hid (below_then HB.out hb)
        replace Gp := Lib.hid ((hb.block _ (lt_of_heap Gp.out)).trans Gp.out)
        replace Gv := Lib.hid ((hb.block _ (lt_of_heap Gv.out)).trans Gv.out)
        clear hb
        have cGp := cell_row Gp.out
        have cGv := cell_row Gv.out
        go_wp2
        go_ret
        exact ⟨rfl, HB.out⟩
  · rw [decide_eq_false hm] at SM
    have h0 : ¬ n = 0 := fun h => hm (by rw [h]; exact P2_pos _)
    have SN := Lib.hid (fun w' => normS_no n hn (Or.inr hm) w')
    have SF := Lib.hid (fun w' => farS_no n m hn (Or.inr (Or.inr (Or.inr hm))) w')
    rw [if_neg (by omega)] at SF
    have hz := isZ_no hn h0
    have h1 : decide (m < 0) = true ∨ (decide (m < 0) = false ∧ decide (64 < m) = true) ∨ (decide (m < 0) = false ∧ decide (64 < m) = false) := by
      by_cases h : m < 0
      · exact Or.inl (decide_eq_true h)
      · right
        by_cases h' : 64 < m
        · left; exact ⟨decide_eq_false h, decide_eq_true h'⟩
        · right; exact ⟨decide_eq_false h, decide_eq_false h'⟩
    rcases h1 with h1 | ⟨h1, h2⟩ | ⟨h1, h2⟩
    all_goals
      clear hn hm h0 hm1 hm2
      go_enter Try.func5, Try.ntmps5
      have HB := Lib.hid (Below.refl w.heap.size w)
      have Gn := Lib.hid (alloc_new (w) (.cells (wcells n) 24))
      replace HB := Lib.hid (below_al HB.out (.cells (wcells n) 24))
      have cGn := cell_row Gn.out
      go_wp2_with fail
      refine (SF.out _).mono ?_
      rintro e w38 ⟨rfl, hb⟩
      clear cGn
      replace HB := Lib.hid (below_then HB.out hb)
      replace Gn := Lib.hid ((hb.block _ (lt_of_heap Gn.out)).trans Gn.out)
      clear hb
      replace Gn := Lib.hid (keepAl (o' := .cells (wcells 0) 24) Gn.out)
      have Gp := Lib.hid (alloc_new (w38) (.cells (wcells 0) 24))
      replace HB := Lib.hid (below_al HB.out (.cells (wcells 0) 24))
      have cGn := cell_row Gn.out
      have cGp := cell_row Gp.out
      go_wp2_with fail
      refine (SN.out _).mono ?_
      rintro e w39 ⟨rfl, hb⟩
      clear cGn cGp
      replace HB := Lib.hid (below_then HB.out hb)
      replace Gn := Lib.hid ((hb.block _ (lt_of_heap Gn.out)).trans Gn.out)
      replace Gp := Lib.hid ((hb.block _ (lt_of_heap Gp.out)).trans Gp.out)
      clear hb
      replace Gn := Lib.hid (keepAl (o' := .cells (wcells 0) 24) Gn.out)
      replace Gp := Lib.hid (keepAl (o' := .cells (wcells 0) 24) Gp.out)
      have Gx := Lib.hid (alloc_new (w39) (.cells (wcells 0) 24))
      replace HB := Lib.hid (below_al HB.out (.cells (wcells 0) 24))
      have cGn := cell_row Gn.out
      have cGp := cell_row Gp.out
      have cGx := cell_row Gx.out
      go_wp2_with fail
      refine (SM.out _).mono ?_
      rintro e w40 ⟨rfl, hb⟩
      clear cGn cGp cGx
      replace HB := Lib.hid (below_then HB.out hb)
      replace Gn := Lib.hid ((hb.block _ (lt_of_heap Gn.out)).trans Gn.out)
      replace Gp := Lib.hid ((hb.block _ (lt_of_heap Gp.out)).trans Gp.out)
      replace Gx := Lib.hid ((hb.block _ (lt_of_heap Gx.out)).trans Gx.out)
      clear hb
      have cGn := cell_row Gn.out
      have cGp := cell_row Gp.out
      have cGx := cell_row Gx.out
      go_wp2_with fail
      refine (SA.out _).mono ?_
      rintro e w41 ⟨rfl, hb⟩
      clear cGn cGp cGx
      replace HB := Lib.hid (below_then HB.out hb)
      replace Gn := Lib.hid ((hb.block _ (lt_of_heap Gn.out)).trans Gn.out)
      replace Gp := Lib.hid ((hb.block _ (lt_of_heap Gp.out)).trans Gp.out)
      replace Gx := Lib.hid ((hb.block _ (lt_of_heap Gx.out)).trans Gx.out)
      clear hb
      have cGn := cell_row Gn.out
      have cGp := cell_row Gp.out
      have cGx := cell_row Gx.out
      go_wp2
      go_ret
      exact ⟨rfl, HB.out⟩
end Go.Proofs.Ytffengboblekpaa
