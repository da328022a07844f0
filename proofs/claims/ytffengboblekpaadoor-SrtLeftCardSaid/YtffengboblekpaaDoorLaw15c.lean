/- THE WALK of the law on what is left behind some steps of srt. -/
import Derived.Test.YtffengboblekpaaDoorLaw15
import Derived.Test.YtffengboblekpaaDoorRef15c
import Derived.Test.YtffengboblekpaaDoorSrtd
namespace Go.Proofs.YtffengboblekpaaDoor
open Go Go.RowKit

attribute [local go_sem ↓] Go.wp_at_zero Go.wp_at_succ
set_option maxRecDepth 100000 in
set_option maxHeartbeats 8000000 in
theorem srtLeft_any (n d : Nat) (m : Int) (w : World) (hn : n < M) (hd : d < M) (hm1 : -9223372036854775808 ≤ m) (hm2 : m ≤ 9223372036854775807) (hL : Laid w) :
    Calls Tryd.prog 7 #[wv n, wv d, .int .i64 m] w fun e w' => e = .returned (.bool true) ∧ Below w.heap.size w w' := by
  have SA := Lib.hid (fun w' h => awake15_any w' h)
  have SM := Lib.hid (fun w' => rmay_any n d hn hd w')
  have SB := Lib.hid (fun w' => big_any d hd w')
  have SL := Lib.hid (fun v w' h => rlen_any v d w' (small_M hd) h)
  have KL := Lib.hid hL
  by_cases hgood : d ≠ 0 ∧ d < P2 120
  · skip
    by_cases hr : m < 0 ∨ 65 < m
    · have SF := Lib.hid (fun w' (_ : Laid w') => leftT_out n d m hr w')
      have h1 : decide (m < 0) = true ∨ (decide (m < 0) = false ∧ decide (65 < m) = true) := by
        by_cases h : m < 0
        · exact Or.inl (decide_eq_true h)
        · exact Or.inr ⟨decide_eq_false h, decide_eq_true (by omega)⟩
      obtain ⟨g0, g1⟩ : d ≠ 0 ∧ d < P2 120 := hgood
      have hl : blen d ≤ 120 := blen_le_of g1
      have hp := blen_pos g0
      have SN := Lib.hid (fun w' => normT_yes d g0 g1 w')
      have SU := Lib.hid (fun v w' h => rshl_any v d (128 - blen d) w' (small_M hd) (by omega) h)
      have hXM : d * P2 (128 - blen d) < M := by
        have g1 := Nat.mul_lt_mul_of_pos_right (blen_lt d) (P2_pos (128 - blen d))
        rw [← P2_add, show blen d + (128 - blen d) = 128 by omega] at g1
        exact Nat.lt_trans g1 (by rw [M_eq]; exact P2_lt (by omega))
      have SW := Lib.hid (fun v w' h => wide_any v (d * P2 (128 - blen d)) w' (small_M hXM) h)
      rw [Nat.mod_eq_of_lt hXM, decide_eq_false (show ¬ M ≤ d * P2 (128 - blen d) by omega)] at SW
      have hw0 : IntKind.i64.wrap (128 - ((blen d : Nat) : Int)) = ((128 - blen d : Nat) : Int) := by rw [IntWalk.i64_in _ (by omega)]; omega
      have hb1 : (((blen d : Nat) : Int) == 0) = false := by simp; omega
      have hb2 : decide ((120 : Int) < ((blen d : Nat) : Int)) = false := decide_eq_false (by omega)
      obtain ⟨X, hX⟩ : ∃ X, X = d * P2 (128 - blen d) := ⟨_, rfl⟩
      rw [← hX] at SN SU SW
      obtain ⟨c, hc⟩ : ∃ X, X = 128 - blen d := ⟨_, rfl⟩
      rw [← hc] at SN SU hw0
      obtain ⟨l, hle⟩ : ∃ X, X = blen d := ⟨_, rfl⟩
      rw [← hle] at SL hw0 hb1 hb2
      clear hn hd hL g0 g1 hl hp hXM hX hc hle
      clear hm1 hm2 hr SM
      rcases h1 with h1 | ⟨h1, h2⟩
      · skip
        go_enter Tryd.func7, Tryd.ntmps7
        have HB := Lib.hid (Below.refl w.heap.size w)
        replace KL := Lib.hid (KL.out.older (below_al (Below.refl (w).heap.size (w)) (.cells (wcells n) 24)))
        have Gn := Lib.hid (alloc_new (w) (.cells (wcells n) 24))
        replace HB := Lib.hid (below_al HB.out (.cells (wcells n) 24))
        replace KL := Lib.hid (KL.out.older (below_al (Below.refl ((w).alloc (.cells (wcells n) 24)).heap.size ((w).alloc (.cells (wcells n) 24))) (.cells (wcells d) 24)))
        replace Gn := Lib.hid (keepAl (o' := .cells (wcells d) 24) Gn.out)
        have Gd := Lib.hid (alloc_new' (w := (w).alloc (.cells (wcells n) 24)) (n := w.heap.size + 1) (.cells (wcells d) 24) (by simp))
        replace HB := Lib.hid (below_al HB.out (.cells (wcells d) 24))
        have cGn := cell_row Gn.out
        have cGd := cell_row Gd.out
        go_wp2_with fail
        refine (SF.out _ KL.out).mono ?_
        rintro e w1 ⟨rfl, hb⟩
        clear cGn cGd
        replace HB := Lib.hid (below_then HB.out hb)
        replace KL := Lib.hid (KL.out.older hb)
        replace Gn := Lib.hid ((hb.block _ (lt_of_heap Gn.out)).trans Gn.out)
        replace Gd := Lib.hid ((hb.block _ (lt_of_heap Gd.out)).trans Gd.out)
        clear hb
        replace KL := Lib.hid (KL.out.older (below_al (Below.refl (w1).heap.size (w1)) (.cells (wcells 0) 24)))
        replace Gn := Lib.hid (keepAl (o' := .cells (wcells 0) 24) Gn.out)
        replace Gd := Lib.hid (keepAl (o' := .cells (wcells 0) 24) Gd.out)
        have Gp := Lib.hid (alloc_new (w1) (.cells (wcells 0) 24))
        replace HB := Lib.hid (below_al HB.out (.cells (wcells 0) 24))
        have cGn := cell_row Gn.out
        have cGd := cell_row Gd.out
        have cGp := cell_row Gp.out
        go_wp2_with fail
        refine (SN.out _).mono ?_
        rintro e w2 ⟨rfl, hb⟩
        clear cGn cGd cGp
        replace HB := Lib.hid (below_then HB.out hb)
        replace KL := Lib.hid (KL.out.older hb)
        replace Gn := Lib.hid ((hb.block _ (lt_of_heap Gn.out)).trans Gn.out)
        replace Gd := Lib.hid ((hb.block _ (lt_of_heap Gd.out)).trans Gd.out)
        replace Gp := Lib.hid ((hb.block _ (lt_of_heap Gp.out)).trans Gp.out)
        clear hb
        replace KL := Lib.hid (KL.out.older (below_al (Below.refl (w2).heap.size (w2)) (.cells (wcells X) 24)))
        replace Gn := Lib.hid (keepAl (o' := .cells (wcells X) 24) Gn.out)
        replace Gd := Lib.hid (keepAl (o' := .cells (wcells X) 24) Gd.out)
        replace Gp := Lib.hid (keepAl (o' := .cells (wcells X) 24) Gp.out)
        have Gx := Lib.hid (alloc_new (w2) (.cells (wcells X) 24))
        replace HB := Lib.hid (below_al HB.out (.cells (wcells X) 24))
        have cGn := cell_row Gn.out
        have cGd := cell_row Gd.out
        have cGp := cell_row Gp.out
        have cGx := cell_row Gx.out
        go_wp2_with fail
        refine (SB.out _).mono ?_
        rintro e w3 ⟨rb, rfl, hr, hb⟩
        clear cGn cGd cGp cGx
        replace HB := Lib.hid (below_then HB.out hb)
        replace KL := Lib.hid (KL.out.older hb)
        replace Gn := Lib.hid ((hb.block _ (lt_of_heap Gn.out)).trans Gn.out)
        replace Gd := Lib.hid ((hb.block _ (lt_of_heap Gd.out)).trans Gd.out)
        replace Gp := Lib.hid ((hb.block _ (lt_of_heap Gp.out)).trans Gp.out)
        replace Gx := Lib.hid ((hb.block _ (lt_of_heap Gx.out)).trans Gx.out)
        have Rb := Lib.hid hr
        clear hr hb
        have cGn := cell_row Gn.out
        have cGd := cell_row Gd.out
        have cGp := cell_row Gp.out
        have cGx := cell_row Gx.out
        go_wp2_with fail
        refine (SL.out _ _ Rb.out).mono ?_
        rintro e w4 ⟨rfl, hb⟩
        clear cGn cGd cGp cGx
        replace HB := Lib.hid (below_then HB.out hb)
        replace KL := Lib.hid (KL.out.older hb)
        replace Gn := Lib.hid ((hb.block _ (lt_of_heap Gn.out)).trans Gn.out)
        replace Gd := Lib.hid ((hb.block _ (lt_of_heap Gd.out)).trans Gd.out)
        replace Gp := Lib.hid ((hb.block _ (lt_of_heap Gp.out)).trans Gp.out)
        replace Gx := Lib.hid ((hb.block _ (lt_of_heap Gx.out)).trans Gx.out)
        replace Rb := Lib.hid (Rb.out.below hb)
        clear hb
        have cGn := cell_row Gn.out
        have cGd := cell_row Gd.out
        have cGp := cell_row Gp.out
        have cGx := cell_row Gx.out
        go_wp2_with fail
        refine (SU.out _ _ Rb.out).mono ?_
        rintro e w5 ⟨ru, rfl, hr, hb⟩
        clear cGn cGd cGp cGx
        replace HB := Lib.hid (below_then HB.out hb)
        replace KL := Lib.hid (KL.out.older hb)
        replace Gn := Lib.hid ((hb.block _ (lt_of_heap Gn.out)).trans Gn.out)
        replace Gd := Lib.hid ((hb.block _ (lt_of_heap Gd.out)).trans Gd.out)
        replace Gp := Lib.hid ((hb.block _ (lt_of_heap Gp.out)).trans Gp.out)
        replace Gx := Lib.hid ((hb.block _ (lt_of_heap Gx.out)).trans Gx.out)
        replace Rb := Lib.hid (Rb.out.below hb)
        have Ru := Lib.hid hr
        clear hr hb
        have cGn := cell_row Gn.out
        have cGd := cell_row Gd.out
        have cGp := cell_row Gp.out
        have cGx := cell_row Gx.out
        go_wp2_with fail
        refine (SW.out _ _ Ru.out).mono ?_
        rintro e w6 ⟨rfl, hb⟩
        clear cGn cGd cGp cGx
        replace HB := Lib.hid (below_then HB.out hb)
        replace KL := Lib.hid (KL.out.older hb)
        replace Gn := Lib.hid ((hb.block _ (lt_of_heap Gn.out)).trans Gn.out)
        replace Gd := Lib.hid ((hb.block _ (lt_of_heap Gd.out)).trans Gd.out)
        replace Gp := Lib.hid ((hb.block _ (lt_of_heap Gp.out)).trans Gp.out)
        replace Gx := Lib.hid ((hb.block _ (lt_of_heap Gx.out)).trans Gx.out)
        replace Rb := Lib.hid (Rb.out.below hb)
        replace Ru := Lib.hid (Ru.out.below hb)
        clear hb
        replace KL := Lib.hid (KL.out.older (below_al (Below.refl (w6).heap.size (w6)) (.cells (wcells X) 24)))
        replace Gn := Lib.hid (keepAl (o' := .cells (wcells X) 24) Gn.out)
        replace Gd := Lib.hid (keepAl (o' := .cells (wcells X) 24) Gd.out)
        replace Gp := Lib.hid (keepAl (o' := .cells (wcells X) 24) Gp.out)
        replace Gx := Lib.hid (keepAl (o' := .cells (wcells X) 24) Gx.out)
        have Gy := Lib.hid (alloc_new (w6) (.cells (wcells X) 24))
        replace HB := Lib.hid (below_al HB.out (.cells (wcells X) 24))
        have cGn := cell_row Gn.out
        have cGd := cell_row Gd.out
        have cGp := cell_row Gp.out
        have cGx := cell_row Gx.out
        have cGy := cell_row Gy.out
        go_wp2_with fail
        refine (SA.out _ KL.out).mono ?_
        rintro e w7 ⟨rfl, hb⟩
        clear cGn cGd cGp cGx cGy
        replace HB := Lib.hid (below_then HB.out hb)
        replace KL := Lib.hid (KL.out.older hb)
        replace Gn := Lib.hid ((hb.block _ (lt_of_heap Gn.out)).trans Gn.out)
        replace Gd := Lib.hid ((hb.block _ (lt_of_heap Gd.out)).trans Gd.out)
        replace Gp := Lib.hid ((hb.block _ (lt_of_heap Gp.out)).trans Gp.out)
        replace Gx := Lib.hid ((hb.block _ (lt_of_heap Gx.out)).trans Gx.out)
        replace Gy := Lib.hid ((hb.block _ (lt_of_heap Gy.out)).trans Gy.out)
        clear hb
        have cGn := cell_row Gn.out
        have cGd := cell_row Gd.out
        have cGp := cell_row Gp.out
        have cGx := cell_row Gx.out
        have cGy := cell_row Gy.out
        go_wp2
        go_ret
        exact ⟨rfl, HB.out⟩
      · skip
        go_enter Tryd.func7, Tryd.ntmps7
        have HB := Lib.hid (Below.refl w.heap.size w)
        replace KL := Lib.hid (KL.out.older (below_al (Below.refl (w).heap.size (w)) (.cells (wcells n) 24)))
        have Gn := Lib.hid (alloc_new (w) (.cells (wcells n) 24))
        replace HB := Lib.hid (below_al HB.out (.cells (wcells n) 24))
        replace KL := Lib.hid (KL.out.older (below_al (Below.refl ((w).alloc (.cells (wcells n) 24)).heap.size ((w).alloc (.cells (wcells n) 24))) (.cells (wcells d) 24)))
        replace Gn := Lib.hid (keepAl (o' := .cells (wcells d) 24) Gn.out)
        have Gd := Lib.hid (alloc_new' (w := (w).alloc (.cells (wcells n) 24)) (n := w.heap.size + 1) (.cells (wcells d) 24) (by simp))
        replace HB := Lib.hid (below_al HB.out (.cells (wcells d) 24))
        have cGn := cell_row Gn.out
        have cGd := cell_row Gd.out
        go_wp2_with fail
        refine (SF.out _ KL.out).mono ?_
        rintro e w8 ⟨rfl, hb⟩
        clear cGn cGd
        replace HB := Lib.hid (below_then HB.out hb)
        replace KL := Lib.hid (KL.out.older hb)
        replace Gn := Lib.hid ((hb.block _ (lt_of_heap Gn.out)).trans Gn.out)
        replace Gd := Lib.hid ((hb.block _ (lt_of_heap Gd.out)).trans Gd.out)
        clear hb
        replace KL := Lib.hid (KL.out.older (below_al (Below.refl (w8).heap.size (w8)) (.cells (wcells 0) 24)))
        replace Gn := Lib.hid (keepAl (o' := .cells (wcells 0) 24) Gn.out)
        replace Gd := Lib.hid (keepAl (o' := .cells (wcells 0) 24) Gd.out)
        have Gp := Lib.hid (alloc_new (w8) (.cells (wcells 0) 24))
        replace HB := Lib.hid (below_al HB.out (.cells (wcells 0) 24))
        have cGn := cell_row Gn.out
        have cGd := cell_row Gd.out
        have cGp := cell_row Gp.out
        go_wp2_with fail
        refine (SN.out _).mono ?_
        rintro e w9 ⟨rfl, hb⟩
        clear cGn cGd cGp
        replace HB := Lib.hid (below_then HB.out hb)
        replace KL := Lib.hid (KL.out.older hb)
        replace Gn := Lib.hid ((hb.block _ (lt_of_heap Gn.out)).trans Gn.out)
        replace Gd := Lib.hid ((hb.block _ (lt_of_heap Gd.out)).trans Gd.out)
        replace Gp := Lib.hid ((hb.block _ (lt_of_heap Gp.out)).trans Gp.out)
        clear hb
        replace KL := Lib.hid (KL.out.older (below_al (Below.refl (w9).heap.size (w9)) (.cells (wcells X) 24)))
        replace Gn := Lib.hid (keepAl (o' := .cells (wcells X) 24) Gn.out)
        replace Gd := Lib.hid (keepAl (o' := .cells (wcells X) 24) Gd.out)
        replace Gp := Lib.hid (keepAl (o' := .cells (wcells X) 24) Gp.out)
        have Gx := Lib.hid (alloc_new (w9) (.cells (wcells X) 24))
        replace HB := Lib.hid (below_al HB.out (.cells (wcells X) 24))
        have cGn := cell_row Gn.out
        have cGd := cell_row Gd.out
        have cGp := cell_row Gp.out
        have cGx := cell_row Gx.out
        go_wp2_with fail
        refine (SB.out _).mono ?_
        rintro e w10 ⟨rb, rfl, hr, hb⟩
        clear cGn cGd cGp cGx
        replace HB := Lib.hid (below_then HB.out hb)
        replace KL := Lib.hid (KL.out.older hb)
        replace Gn := Lib.hid ((hb.block _ (lt_of_heap Gn.out)).trans Gn.out)
        replace Gd := Lib.hid ((hb.block _ (lt_of_heap Gd.out)).trans Gd.out)
        replace Gp := Lib.hid ((hb.block _ (lt_of_heap Gp.out)).trans Gp.out)
        replace Gx := Lib.hid ((hb.block _ (lt_of_heap Gx.out)).trans Gx.out)
        have Rb := Lib.hid hr
        clear hr hb
        have cGn := cell_row Gn.out
        have cGd := cell_row Gd.out
        have cGp := cell_row Gp.out
        have cGx := cell_row Gx.out
        go_wp2_with fail
        refine (SL.out _ _ Rb.out).mono ?_
        rintro e w11 ⟨rfl, hb⟩
        clear cGn cGd cGp cGx
        replace HB := Lib.hid (below_then HB.out hb)
        replace KL := Lib.hid (KL.out.older hb)
        replace Gn := Lib.hid ((hb.block _ (lt_of_heap Gn.out)).trans Gn.out)
        replace Gd := Lib.hid ((hb.block _ (lt_of_heap Gd.out)).trans Gd.out)
        replace Gp := Lib.hid ((hb.block _ (lt_of_heap Gp.out)).trans Gp.out)
        replace Gx := Lib.hid ((hb.block _ (lt_of_heap Gx.out)).trans Gx.out)
        replace Rb := Lib.hid (Rb.out.below hb)
        clear hb
        have cGn := cell_row Gn.out
        have cGd := cell_row Gd.out
        have cGp := cell_row Gp.out
        have cGx := cell_row Gx.out
        go_wp2_with fail
        refine (SU.out _ _ Rb.out).mono ?_
        rintro e w12 ⟨ru, rfl, hr, hb⟩
        clear cGn cGd cGp cGx
        replace HB := Lib.hid (below_then HB.out hb)
        replace KL := Lib.hid (KL.out.older hb)
        replace Gn := Lib.hid ((hb.block _ (lt_of_heap Gn.out)).trans Gn.out)
        replace Gd := Lib.hid ((hb.block _ (lt_of_heap Gd.out)).trans Gd.out)
        replace Gp := Lib.hid ((hb.block _ (lt_of_heap Gp.out)).trans Gp.out)
        replace Gx := Lib.hid ((hb.block _ (lt_of_heap Gx.out)).trans Gx.out)
        replace Rb := Lib.hid (Rb.out.below hb)
        have Ru := Lib.hid hr
        clear hr hb
        have cGn := cell_row Gn.out
        have cGd := cell_row Gd.out
        have cGp := cell_row Gp.out
        have cGx := cell_row Gx.out
        go_wp2_with fail
        refine (SW.out _ _ Ru.out).mono ?_
        rintro e w13 ⟨rfl, hb⟩
        clear cGn cGd cGp cGx
        replace HB := Lib.hid (below_then HB.out hb)
        replace KL := Lib.hid (KL.out.older hb)
        replace Gn := Lib.hid ((hb.block _ (lt_of_heap Gn.out)).trans Gn.out)
        replace Gd := Lib.hid ((hb.block _ (lt_of_heap Gd.out)).trans Gd.out)
        replace Gp := Lib.hid ((hb.block _ (lt_of_heap Gp.out)).trans Gp.out)
        replace Gx := Lib.hid ((hb.block _ (lt_of_heap Gx.out)).trans Gx.out)
        replace Rb := Lib.hid (Rb.out.below hb)
        replace Ru := Lib.hid (Ru.out.below hb)
        clear hb
        replace KL := Lib.hid (KL.out.older (below_al (Below.refl (w13).heap.size (w13)) (.cells (wcells X) 24)))
        replace Gn := Lib.hid (keepAl (o' := .cells (wcells X) 24) Gn.out)
        replace Gd := Lib.hid (keepAl (o' := .cells (wcells X) 24) Gd.out)
        replace Gp := Lib.hid (keepAl (o' := .cells (wcells X) 24) Gp.out)
        replace Gx := Lib.hid (keepAl (o' := .cells (wcells X) 24) Gx.out)
        have Gy := Lib.hid (alloc_new (w13) (.cells (wcells X) 24))
        replace HB := Lib.hid (below_al HB.out (.cells (wcells X) 24))
        have cGn := cell_row Gn.out
        have cGd := cell_row Gd.out
        have cGp := cell_row Gp.out
        have cGx := cell_row Gx.out
        have cGy := cell_row Gy.out
        go_wp2_with fail
        refine (SA.out _ KL.out).mono ?_
        rintro e w14 ⟨rfl, hb⟩
        clear cGn cGd cGp cGx cGy
        replace HB := Lib.hid (below_then HB.out hb)
        replace KL := Lib.hid (KL.out.older hb)
        replace Gn := Lib.hid ((hb.block _ (lt_of_heap Gn.out)).trans Gn.out)
        replace Gd := Lib.hid ((hb.block _ (lt_of_heap Gd.out)).trans Gd.out)
        replace Gp := Lib.hid ((hb.block _ (lt_of_heap Gp.out)).trans Gp.out)
        replace Gx := Lib.hid ((hb.block _ (lt_of_heap Gx.out)).trans Gx.out)
        replace Gy := Lib.hid ((hb.block _ (lt_of_heap Gy.out)).trans Gy.out)
        clear hb
        have cGn := cell_row Gn.out
        have cGd := cell_row Gd.out
        have cGp := cell_row Gp.out
        have cGx := cell_row Gx.out
        have cGy := cell_row Gy.out
        go_wp2
        go_ret
        exact ⟨rfl, HB.out⟩
    · have h1 : decide (m < 0) = false := decide_eq_false (by omega)
      have h2 : decide (65 < m) = false := decide_eq_false (by omega)
      by_cases hm : mayN n d = 0
      · obtain ⟨k, rfl⟩ := Int.eq_ofNat_of_zero_le (show 0 ≤ m by omega)
        have hk : k ≤ 65 := by omega
        have SF0 : ∀ w', Laid w' → _ := fun w' h => leftT_yes n d k hn hd hm hk w' h
        have SR := Lib.hid (fun w' => run15_any n d k hn hd hm hk w')
        obtain ⟨r1, r2, r3, _, _⟩ := shift_range hm
        have hsm := sLeft_small (fit_of r1 r2).1 r3 r2 k hk
        clear r1 r2 r3
        obtain ⟨Z, hZ⟩ : ∃ Z, Z = sLeft (n * P2 (128 - blen d)) (d * P2 (128 - blen d)) ((rowT (d * P2 (128 - blen d)) : Nat) : Int) k := ⟨_, rfl⟩
        have SF : Hid (∀ w', Laid w' → Calls Tryd.prog 30 #[wv n, wv d, .int .i64 (k : Int)] w' fun e w'' => e = .returned (.tuple #[wv Z.natAbs, .bool (decide (Z < 0)), .int .i64 0]) ∧ Below w'.heap.size w' w'') := Lib.hid fun w' h => by
          obtain ⟨z, hz, hh⟩ := SF0 w' h
          rw [← hZ] at hz
          rw [← hz]
          exact hh
        rw [← hZ] at SR hsm
        obtain ⟨ZD, hZD⟩ : ∃ Z, Z = sDigs (n * P2 (128 - blen d)) (d * P2 (128 - blen d)) ((rowT (d * P2 (128 - blen d)) : Nat) : Int) k := ⟨_, rfl⟩
        rw [← hZD] at SR
        have hZM : Z.natAbs < M := by rw [M_eq]; have : P2 260 < P2 512 := P2_lt (by omega); omega
        have BZ := Lib.hid (fun w' => big_any Z.natAbs hZM w')
        have SC := Lib.hid (fun v v2 w' h h' => cmp_any v v2 Z.natAbs Z.natAbs w' (small_M hZM) (small_M hZM) h h')
        rw [cmpN_eq rfl] at SC
        rw [hm] at SM
        obtain ⟨g0, g1⟩ : d ≠ 0 ∧ d < P2 120 := hgood
        have hl : blen d ≤ 120 := blen_le_of g1
        have hp := blen_pos g0
        have SN := Lib.hid (fun w' => normT_yes d g0 g1 w')
        have SU := Lib.hid (fun v w' h => rshl_any v d (128 - blen d) w' (small_M hd) (by omega) h)
        have hXM : d * P2 (128 - blen d) < M := by
          have g1 := Nat.mul_lt_mul_of_pos_right (blen_lt d) (P2_pos (128 - blen d))
          rw [← P2_add, show blen d + (128 - blen d) = 128 by omega] at g1
          exact Nat.lt_trans g1 (by rw [M_eq]; exact P2_lt (by omega))
        have SW := Lib.hid (fun v w' h => wide_any v (d * P2 (128 - blen d)) w' (small_M hXM) h)
        rw [Nat.mod_eq_of_lt hXM, decide_eq_false (show ¬ M ≤ d * P2 (128 - blen d) by omega)] at SW
        have hw0 : IntKind.i64.wrap (128 - ((blen d : Nat) : Int)) = ((128 - blen d : Nat) : Int) := by rw [IntWalk.i64_in _ (by omega)]; omega
        have hb1 : (((blen d : Nat) : Int) == 0) = false := by simp; omega
        have hb2 : decide ((120 : Int) < ((blen d : Nat) : Int)) = false := decide_eq_false (by omega)
        obtain ⟨X, hX⟩ : ∃ X, X = d * P2 (128 - blen d) := ⟨_, rfl⟩
        rw [← hX] at SN SU SW
        obtain ⟨c, hc⟩ : ∃ X, X = 128 - blen d := ⟨_, rfl⟩
        rw [← hc] at SN SU hw0
        obtain ⟨l, hle⟩ : ∃ X, X = blen d := ⟨_, rfl⟩
        rw [← hle] at SL hw0 hb1 hb2
        clear hn hd hL g0 g1 hl hp hXM hX hc hle
        obtain ⟨V, hV⟩ : ∃ V, V = Z.natAbs := ⟨_, rfl⟩
        rw [← hV] at SF BZ SC
        have HV := Lib.hid hV
        obtain ⟨F, hF⟩ : ∃ V, V = decide (Z < 0) := ⟨_, rfl⟩
        rw [← hF] at SF
        have HF := Lib.hid hF
        clear hm1 hm2 hr hm hk hZ SF0 hsm hZM hZD hV hF
        go_enter Tryd.func7, Tryd.ntmps7
        have HB := Lib.hid (Below.refl w.heap.size w)
        replace KL := Lib.hid (KL.out.older (below_al (Below.refl (w).heap.size (w)) (.cells (wcells n) 24)))
        have Gn := Lib.hid (alloc_new (w) (.cells (wcells n) 24))
        replace HB := Lib.hid (below_al HB.out (.cells (wcells n) 24))
        replace KL := Lib.hid (KL.out.older (below_al (Below.refl ((w).alloc (.cells (wcells n) 24)).heap.size ((w).alloc (.cells (wcells n) 24))) (.cells (wcells d) 24)))
        replace Gn := Lib.hid (keepAl (o' := .cells (wcells d) 24) Gn.out)
        have Gd := Lib.hid (alloc_new' (w := (w).alloc (.cells (wcells n) 24)) (n := w.heap.size + 1) (.cells (wcells d) 24) (by simp))
        replace HB := Lib.hid (below_al HB.out (.cells (wcells d) 24))
        have cGn := cell_row Gn.out
        have cGd := cell_row Gd.out
        go_wp2_with fail
        refine (SF.out _ KL.out).mono ?_
        rintro e w15 ⟨rfl, hb⟩
        clear cGn cGd
        replace HB := Lib.hid (below_then HB.out hb)
        replace KL := Lib.hid (KL.out.older hb)
        replace Gn := Lib.hid ((hb.block _ (lt_of_heap Gn.out)).trans Gn.out)
        replace Gd := Lib.hid ((hb.block _ (lt_of_heap Gd.out)).trans Gd.out)
        clear hb
        replace KL := Lib.hid (KL.out.older (below_al (Below.refl (w15).heap.size (w15)) (.cells (wcells V) 24)))
        replace Gn := Lib.hid (keepAl (o' := .cells (wcells V) 24) Gn.out)
        replace Gd := Lib.hid (keepAl (o' := .cells (wcells V) 24) Gd.out)
        have Gp := Lib.hid (alloc_new (w15) (.cells (wcells V) 24))
        replace HB := Lib.hid (below_al HB.out (.cells (wcells V) 24))
        have cGn := cell_row Gn.out
        have cGd := cell_row Gd.out
        have cGp := cell_row Gp.out
        go_wp2_with fail
        refine (SN.out _).mono ?_
        rintro e w16 ⟨rfl, hb⟩
        clear cGn cGd cGp
        replace HB := Lib.hid (below_then HB.out hb)
        replace KL := Lib.hid (KL.out.older hb)
        replace Gn := Lib.hid ((hb.block _ (lt_of_heap Gn.out)).trans Gn.out)
        replace Gd := Lib.hid ((hb.block _ (lt_of_heap Gd.out)).trans Gd.out)
        replace Gp := Lib.hid ((hb.block _ (lt_of_heap Gp.out)).trans Gp.out)
        clear hb
        replace KL := Lib.hid (KL.out.older (below_al (Below.refl (w16).heap.size (w16)) (.cells (wcells X) 24)))
        replace Gn := Lib.hid (keepAl (o' := .cells (wcells X) 24) Gn.out)
        replace Gd := Lib.hid (keepAl (o' := .cells (wcells X) 24) Gd.out)
        replace Gp := Lib.hid (keepAl (o' := .cells (wcells X) 24) Gp.out)
        have Gx := Lib.hid (alloc_new (w16) (.cells (wcells X) 24))
        replace HB := Lib.hid (below_al HB.out (.cells (wcells X) 24))
        have cGn := cell_row Gn.out
        have cGd := cell_row Gd.out
        have cGp := cell_row Gp.out
        have cGx := cell_row Gx.out
        go_wp2_with fail
        refine (SB.out _).mono ?_
        rintro e w17 ⟨rb, rfl, hr, hb⟩
        clear cGn cGd cGp cGx
        replace HB := Lib.hid (below_then HB.out hb)
        replace KL := Lib.hid (KL.out.older hb)
        replace Gn := Lib.hid ((hb.block _ (lt_of_heap Gn.out)).trans Gn.out)
        replace Gd := Lib.hid ((hb.block _ (lt_of_heap Gd.out)).trans Gd.out)
        replace Gp := Lib.hid ((hb.block _ (lt_of_heap Gp.out)).trans Gp.out)
        replace Gx := Lib.hid ((hb.block _ (lt_of_heap Gx.out)).trans Gx.out)
        have Rb := Lib.hid hr
        clear hr hb
        have cGn := cell_row Gn.out
        have cGd := cell_row Gd.out
        have cGp := cell_row Gp.out
        have cGx := cell_row Gx.out
        go_wp2_with fail
        refine (SL.out _ _ Rb.out).mono ?_
        rintro e w18 ⟨rfl, hb⟩
        clear cGn cGd cGp cGx
        replace HB := Lib.hid (below_then HB.out hb)
        replace KL := Lib.hid (KL.out.older hb)
        replace Gn := Lib.hid ((hb.block _ (lt_of_heap Gn.out)).trans Gn.out)
        replace Gd := Lib.hid ((hb.block _ (lt_of_heap Gd.out)).trans Gd.out)
        replace Gp := Lib.hid ((hb.block _ (lt_of_heap Gp.out)).trans Gp.out)
        replace Gx := Lib.hid ((hb.block _ (lt_of_heap Gx.out)).trans Gx.out)
        replace Rb := Lib.hid (Rb.out.below hb)
        clear hb
        have cGn := cell_row Gn.out
        have cGd := cell_row Gd.out
        have cGp := cell_row Gp.out
        have cGx := cell_row Gx.out
        go_wp2_with fail
        refine (SU.out _ _ Rb.out).mono ?_
        rintro e w19 ⟨ru, rfl, hr, hb⟩
        clear cGn cGd cGp cGx
        replace HB := Lib.hid (below_then HB.out hb)
        replace KL := Lib.hid (KL.out.older hb)
        replace Gn := Lib.hid ((hb.block _ (lt_of_heap Gn.out)).trans Gn.out)
        replace Gd := Lib.hid ((hb.block _ (lt_of_heap Gd.out)).trans Gd.out)
        replace Gp := Lib.hid ((hb.block _ (lt_of_heap Gp.out)).trans Gp.out)
        replace Gx := Lib.hid ((hb.block _ (lt_of_heap Gx.out)).trans Gx.out)
        replace Rb := Lib.hid (Rb.out.below hb)
        have Ru := Lib.hid hr
        clear hr hb
        have cGn := cell_row Gn.out
        have cGd := cell_row Gd.out
        have cGp := cell_row Gp.out
        have cGx := cell_row Gx.out
        go_wp2_with fail
        refine (SW.out _ _ Ru.out).mono ?_
        rintro e w20 ⟨rfl, hb⟩
        clear cGn cGd cGp cGx
        replace HB := Lib.hid (below_then HB.out hb)
        replace KL := Lib.hid (KL.out.older hb)
        replace Gn := Lib.hid ((hb.block _ (lt_of_heap Gn.out)).trans Gn.out)
        replace Gd := Lib.hid ((hb.block _ (lt_of_heap Gd.out)).trans Gd.out)
        replace Gp := Lib.hid ((hb.block _ (lt_of_heap Gp.out)).trans Gp.out)
        replace Gx := Lib.hid ((hb.block _ (lt_of_heap Gx.out)).trans Gx.out)
        replace Rb := Lib.hid (Rb.out.below hb)
        replace Ru := Lib.hid (Ru.out.below hb)
        clear hb
        replace KL := Lib.hid (KL.out.older (below_al (Below.refl (w20).heap.size (w20)) (.cells (wcells X) 24)))
        replace Gn := Lib.hid (keepAl (o' := .cells (wcells X) 24) Gn.out)
        replace Gd := Lib.hid (keepAl (o' := .cells (wcells X) 24) Gd.out)
        replace Gp := Lib.hid (keepAl (o' := .cells (wcells X) 24) Gp.out)
        replace Gx := Lib.hid (keepAl (o' := .cells (wcells X) 24) Gx.out)
        have Gy := Lib.hid (alloc_new (w20) (.cells (wcells X) 24))
        replace HB := Lib.hid (below_al HB.out (.cells (wcells X) 24))
        have cGn := cell_row Gn.out
        have cGd := cell_row Gd.out
        have cGp := cell_row Gp.out
        have cGx := cell_row Gx.out
        have cGy := cell_row Gy.out
        go_wp2_with fail
        refine (SM.out _).mono ?_
        rintro e w21 ⟨rfl, hb⟩
        clear cGn cGd cGp cGx cGy
        replace HB := Lib.hid (below_then HB.out hb)
        replace KL := Lib.hid (KL.out.older hb)
        replace Gn := Lib.hid ((hb.block _ (lt_of_heap Gn.out)).trans Gn.out)
        replace Gd := Lib.hid ((hb.block _ (lt_of_heap Gd.out)).trans Gd.out)
        replace Gp := Lib.hid ((hb.block _ (lt_of_heap Gp.out)).trans Gp.out)
        replace Gx := Lib.hid ((hb.block _ (lt_of_heap Gx.out)).trans Gx.out)
        replace Gy := Lib.hid ((hb.block _ (lt_of_heap Gy.out)).trans Gy.out)
        clear hb
        have cGn := cell_row Gn.out
        have cGd := cell_row Gd.out
        have cGp := cell_row Gp.out
        have cGx := cell_row Gx.out
        have cGy := cell_row Gy.out
        go_wp2_with fail
        clear cGn cGd cGp cGx cGy
        refine (SR.out _).mono ?_
        rintro e w9 ⟨vb, vp, rfl, hr, ⟨pa, pL, pc, rfl, hpb⟩, hb⟩
        replace HB := Lib.hid (below_then HB.out hb)
        replace Gp := Lib.hid ((hb.block _ (lt_of_heap Gp.out)).trans Gp.out)
        replace KL := Lib.hid (KL.out.older hb)
        rw [← HF.out]
        rw [← HV.out] at hpb
        have Rp := Lib.hid hpb
        clear hr hb hpb Gn Gd Gx Gy
        replace Gp := Lib.hid (keepAl (o' := .cells #[.slice pa pL pc, .bool F] 52) Gp.out)
        replace Rp := Lib.hid (Rp.out.below (below_al (Below.refl (w9).heap.size (w9)) (.cells #[.slice pa pL pc, .bool F] 52)))
        replace KL := Lib.hid (KL.out.older (below_al (Below.refl (w9).heap.size (w9)) (.cells #[.slice pa pL pc, .bool F] 52)))
        have Gs := Lib.hid (alloc_new (w9) (.cells #[.slice pa pL pc, .bool F] 52))
        replace HB := Lib.hid (below_al HB.out (.cells #[.slice pa pL pc, .bool F] 52))
        have cGp := cell_row Gp.out
        have cGs := cell_row Gs.out
        go_upto_region 17 with fail
        clear cGp cGs
        obtain ⟨wA, hw⟩ : ∃ wx, wx = (w9).alloc (.cells #[.slice pa pL pc, .bool F] 52) := ⟨_, rfl⟩
        rw [← hw] at Gp Rp KL Gs HB ⊢
        clear hw
        have xGp := ext_row (B := wA.heap.size) Gp.out (lt_of_heap Gp.out)
        have xGs := ext_row (B := wA.heap.size) Gs.out (lt_of_heap Gs.out)
        apply wp_region_loose (looseR [_, _, _, _, _, _, _, _, _, _, _, _, _, _, _, _, _, _, _, _]) (pureL [])
        · kernel_rfl
        · kernel_rfl
        · kernel_rfl
        · exact allocs_ok [] rfl (by intro T hT; cases hT)
        · exact looseR_st _
        · change wpL _ _ _ _ _ _ _ 20 0 _ _
          refine wpL_calm wA rfl rfl rfl rfl (fun K hK K0 hK0 => ?_)
          go_simp
          first | refine hK _ _ rfl rfl ?_ | refine hK0 _ rfl ?_
          clear hK hK0 K K0
          refine wpL_calm wA rfl rfl rfl rfl (fun K hK K0 hK0 => ?_)
          go_simp
          first | refine hK _ _ rfl rfl ?_ | refine hK0 _ rfl ?_
          clear hK hK0 K K0
          refine wpL_calm wA rfl rfl rfl rfl (fun K hK K0 hK0 => ?_)
          go_simp
          first | refine hK _ _ rfl rfl ?_ | refine hK0 _ rfl ?_
          clear hK hK0 K K0
          refine wpL_calm wA rfl rfl rfl rfl (fun K hK K0 hK0 => ?_)
          go_simp
          first | refine hK _ _ rfl rfl ?_ | refine hK0 _ rfl ?_
          clear hK hK0 K K0
          refine wpL_call (Lft.big V) (big_some w _) rfl rfl rfl rfl (by first | rfl | go_simp) rfl (fun w' hC hF => ?_) (fun v4 hv4 => ?_)
          · obtain ⟨x, rfl⟩ := hC
            go_simp
            go_at_call 10
            exact gives_loose (BZ.out _)
          refine wpL_calm wA rfl rfl rfl rfl (fun K hK K0 hK0 => ?_)
          go_simp
          first | refine hK _ _ rfl rfl ?_ | refine hK0 _ rfl ?_
          clear hK hK0 K K0
          refine wpL_calm wA rfl rfl rfl rfl (fun K hK K0 hK0 => ?_)
          go_simp
          first | refine hK _ _ rfl rfl ?_ | refine hK0 _ rfl ?_
          clear hK hK0 K K0
          refine wpL_call (Lft.val (.int .i64 0)) (val_some wA _) rfl rfl rfl rfl (by first | rfl | go_simp) rfl (fun w' hC hF => ?_) (fun v7 hv7 => ?_)
          · obtain ⟨x, rfl⟩ := hC
            go_simp
            go_at_call 15
            exact val_loose (SC.out _ _ _ (hF 4 _ 126 rfl rfl rfl rfl (by decide)) (ext_bigB Rp.out (Below.refl _ _) x))
          obtain ⟨_, rfl⟩ := hv7
          refine wpL_calm wA rfl rfl rfl rfl (fun K hK K0 hK0 => ?_)
          go_simp
          first | refine hK _ _ rfl rfl ?_ | refine hK0 _ rfl ?_
          clear hK hK0 K K0
          refine wpL_calm wA rfl rfl rfl rfl (fun K hK K0 hK0 => ?_)
          go_simp
          first | refine hK _ _ rfl rfl ?_ | refine hK0 _ rfl ?_
          clear hK hK0 K K0
          refine wpL_calm wA rfl rfl rfl rfl (fun K hK K0 hK0 => ?_)
          go_simp
          first | refine hK _ _ rfl rfl ?_ | refine hK0 _ rfl ?_
          clear hK hK0 K K0
          refine wpL_calm wA rfl rfl rfl rfl (fun K hK K0 hK0 => ?_)
          go_simp
          first | refine hK _ _ rfl rfl ?_ | refine hK0 _ rfl ?_
          clear hK hK0 K K0
          refine wpL_calm wA rfl rfl rfl rfl (fun K hK K0 hK0 => ?_)
          go_simp
          first | refine hK _ _ rfl rfl ?_ | refine hK0 _ rfl ?_
          clear hK hK0 K K0
          refine wpL_calm wA rfl rfl rfl rfl (fun K hK K0 hK0 => ?_)
          go_simp
          first | refine hK _ _ rfl rfl ?_ | refine hK0 _ rfl ?_
          clear hK hK0 K K0
          refine wpL_calm wA rfl rfl rfl rfl (fun K hK K0 hK0 => ?_)
          go_simp
          first | refine hK _ _ rfl rfl ?_ | refine hK0 _ rfl ?_
          clear hK hK0 K K0
          refine wpL_calm wA rfl rfl rfl rfl (fun K hK K0 hK0 => ?_)
          go_simp
          first | refine hK _ _ rfl rfl ?_ | refine hK0 _ rfl ?_
          clear hK hK0 K K0
          refine wpL_calm wA rfl rfl rfl rfl (fun K hK K0 hK0 => ?_)
          go_simp
          first | refine hK _ _ rfl rfl ?_ | refine hK0 _ rfl ?_
          clear hK hK0 K K0
          refine wpL_call (Lft.val (.bool true)) (val_some wA _) rfl rfl rfl rfl (by first | rfl | go_simp) rfl (fun w' hC hF => ?_) (fun v17 hv17 => ?_)
          · obtain ⟨x, rfl⟩ := hC
            go_simp
            go_at_call 25
            exact val_loose (SA.out _ (KL.out.older x.property))
          obtain ⟨_, rfl⟩ := hv17
          refine wpL_calm wA rfl rfl rfl rfl (fun K hK K0 hK0 => ?_)
          go_simp
          first | refine hK _ _ rfl rfl ?_ | refine hK0 _ rfl ?_
          clear hK hK0 K K0
          refine wpL_calm wA rfl rfl rfl rfl (fun K hK K0 hK0 => ?_)
          go_simp
          first | refine hK _ _ rfl rfl ?_ | refine hK0 _ rfl ?_
          clear hK hK0 K K0
          refine wpL_nil (endL [] rfl (by intro q hq; cases hq) (fun w22 hb hst hap hfin => ?_))
          replace HB := Lib.hid (below_then HB.out hb)
          replace Gp := Lib.hid ((hb.block _ (lt_of_heap Gp.out)).trans Gp.out)
          replace Rp := Lib.hid (Rp.out.below hb)
          replace KL := Lib.hid (KL.out.older hb)
          replace Gs := Lib.hid ((hb.block _ (lt_of_heap Gs.out)).trans Gs.out)
          clear hb hst hap hfin xGp xGs
          have cGp := cell_row Gp.out
          have cGs := cell_row Gs.out
          go_wp2
          go_ret
          exact ⟨rfl, HB.out⟩
      · have SF := Lib.hid (fun w' (_ : Laid w') => leftT_no n d m hn hd hm (by omega) (by omega) w')
        obtain ⟨g0, g1⟩ : d ≠ 0 ∧ d < P2 120 := hgood
        have hl : blen d ≤ 120 := blen_le_of g1
        have hp := blen_pos g0
        have SN := Lib.hid (fun w' => normT_yes d g0 g1 w')
        have SU := Lib.hid (fun v w' h => rshl_any v d (128 - blen d) w' (small_M hd) (by omega) h)
        have hXM : d * P2 (128 - blen d) < M := by
          have g1 := Nat.mul_lt_mul_of_pos_right (blen_lt d) (P2_pos (128 - blen d))
          rw [← P2_add, show blen d + (128 - blen d) = 128 by omega] at g1
          exact Nat.lt_trans g1 (by rw [M_eq]; exact P2_lt (by omega))
        have SW := Lib.hid (fun v w' h => wide_any v (d * P2 (128 - blen d)) w' (small_M hXM) h)
        rw [Nat.mod_eq_of_lt hXM, decide_eq_false (show ¬ M ≤ d * P2 (128 - blen d) by omega)] at SW
        have hw0 : IntKind.i64.wrap (128 - ((blen d : Nat) : Int)) = ((128 - blen d : Nat) : Int) := by rw [IntWalk.i64_in _ (by omega)]; omega
        have hb1 : (((blen d : Nat) : Int) == 0) = false := by simp; omega
        have hb2 : decide ((120 : Int) < ((blen d : Nat) : Int)) = false := decide_eq_false (by omega)
        obtain ⟨E, hE⟩ : ∃ E, E = mayN n d := ⟨_, rfl⟩
        rw [← hE] at SF SM hm
        have hb : (E == 0) = false := by simp [hm]
        obtain ⟨X, hX⟩ : ∃ X, X = d * P2 (128 - blen d) := ⟨_, rfl⟩
        rw [← hX] at SN SU SW
        obtain ⟨c, hc⟩ : ∃ X, X = 128 - blen d := ⟨_, rfl⟩
        rw [← hc] at SN SU hw0
        obtain ⟨l, hle⟩ : ∃ X, X = blen d := ⟨_, rfl⟩
        rw [← hle] at SL hw0 hb1 hb2
        clear hn hd hL g0 g1 hl hp hXM hX hc hle
        clear hm1 hm2 hr hE hm
        go_enter Tryd.func7, Tryd.ntmps7
        have HB := Lib.hid (Below.refl w.heap.size w)
        replace KL := Lib.hid (KL.out.older (below_al (Below.refl (w).heap.size (w)) (.cells (wcells n) 24)))
        have Gn := Lib.hid (alloc_new (w) (.cells (wcells n) 24))
        replace HB := Lib.hid (below_al HB.out (.cells (wcells n) 24))
        replace KL := Lib.hid (KL.out.older (below_al (Below.refl ((w).alloc (.cells (wcells n) 24)).heap.size ((w).alloc (.cells (wcells n) 24))) (.cells (wcells d) 24)))
        replace Gn := Lib.hid (keepAl (o' := .cells (wcells d) 24) Gn.out)
        have Gd := Lib.hid (alloc_new' (w := (w).alloc (.cells (wcells n) 24)) (n := w.heap.size + 1) (.cells (wcells d) 24) (by simp))
        replace HB := Lib.hid (below_al HB.out (.cells (wcells d) 24))
        have cGn := cell_row Gn.out
        have cGd := cell_row Gd.out
        go_wp2_with fail
        refine (SF.out _ KL.out).mono ?_
        rintro e w23 ⟨rfl, hb⟩
        clear cGn cGd
        replace HB := Lib.hid (below_then HB.out hb)
        replace KL := Lib.hid (KL.out.older hb)
        replace Gn := Lib.hid ((hb.block _ (lt_of_heap Gn.out)).trans Gn.out)
        replace Gd := Lib.hid ((hb.block _ (lt_of_heap Gd.out)).trans Gd.out)
        clear hb
        replace KL := Lib.hid (KL.out.older (below_al (Below.refl (w23).heap.size (w23)) (.cells (wcells 0) 24)))
        replace Gn := Lib.hid (keepAl (o' := .cells (wcells 0) 24) Gn.out)
        replace Gd := Lib.hid (keepAl (o' := .cells (wcells 0) 24) Gd.out)
        have Gp := Lib.hid (alloc_new (w23) (.cells (wcells 0) 24))
        replace HB := Lib.hid (below_al HB.out (.cells (wcells 0) 24))
        have cGn := cell_row Gn.out
        have cGd := cell_row Gd.out
        have cGp := cell_row Gp.out
        go_wp2_with fail
        refine (SN.out _).mono ?_
        rintro e w24 ⟨rfl, hb⟩
        clear cGn cGd cGp
        replace HB := Lib.hid (below_then HB.out hb)
        replace KL := Lib.hid (KL.out.older hb)
        replace Gn := Lib.hid ((hb.block _ (lt_of_heap Gn.out)).trans Gn.out)
        replace Gd := Lib.hid ((hb.block _ (lt_of_heap Gd.out)).trans Gd.out)
        replace Gp := Lib.hid ((hb.block _ (lt_of_heap Gp.out)).trans Gp.out)
        clear hb
        replace KL := Lib.hid (KL.out.older (below_al (Below.refl (w24).heap.size (w24)) (.cells (wcells X) 24)))
        replace Gn := Lib.hid (keepAl (o' := .cells (wcells X) 24) Gn.out)
        replace Gd := Lib.hid (keepAl (o' := .cells (wcells X) 24) Gd.out)
        replace Gp := Lib.hid (keepAl (o' := .cells (wcells X) 24) Gp.out)
        have Gx := Lib.hid (alloc_new (w24) (.cells (wcells X) 24))
        replace HB := Lib.hid (below_al HB.out (.cells (wcells X) 24))
        have cGn := cell_row Gn.out
        have cGd := cell_row Gd.out
        have cGp := cell_row Gp.out
        have cGx := cell_row Gx.out
        go_wp2_with fail
        refine (SB.out _).mono ?_
        rintro e w25 ⟨rb, rfl, hr, hb⟩
        clear cGn cGd cGp cGx
        replace HB := Lib.hid (below_then HB.out hb)
        replace KL := Lib.hid (KL.out.older hb)
        replace Gn := Lib.hid ((hb.block _ (lt_of_heap Gn.out)).trans Gn.out)
        replace Gd := Lib.hid ((hb.block _ (lt_of_heap Gd.out)).trans Gd.out)
        replace Gp := Lib.hid ((hb.block _ (lt_of_heap Gp.out)).trans Gp.out)
        replace Gx := Lib.hid ((hb.block _ (lt_of_heap Gx.out)).trans Gx.out)
        have Rb := Lib.hid hr
        clear hr hb
        have cGn := cell_row Gn.out
        have cGd := cell_row Gd.out
        have cGp := cell_row Gp.out
        have cGx := cell_row Gx.out
        go_wp2_with fail
        refine (SL.out _ _ Rb.out).mono ?_
        rintro e w26 ⟨rfl, hb⟩
        clear cGn cGd cGp cGx
        replace HB := Lib.hid (below_then HB.out hb)
        replace KL := Lib.hid (KL.out.older hb)
        replace Gn := Lib.hid ((hb.block _ (lt_of_heap Gn.out)).trans Gn.out)
        replace Gd := Lib.hid ((hb.block _ (lt_of_heap Gd.out)).trans Gd.out)
        replace Gp := Lib.hid ((hb.block _ (lt_of_heap Gp.out)).trans Gp.out)
        replace Gx := Lib.hid ((hb.block _ (lt_of_heap Gx.out)).trans Gx.out)
        replace Rb := Lib.hid (Rb.out.below hb)
        clear hb
        have cGn := cell_row Gn.out
        have cGd := cell_row Gd.out
        have cGp := cell_row Gp.out
        have cGx := cell_row Gx.out
        go_wp2_with fail
        refine (SU.out _ _ Rb.out).mono ?_
        rintro e w27 ⟨ru, rfl, hr, hb⟩
        clear cGn cGd cGp cGx
        replace HB := Lib.hid (below_then HB.out hb)
        replace KL := Lib.hid (KL.out.older hb)
        replace Gn := Lib.hid ((hb.block _ (lt_of_heap Gn.out)).trans Gn.out)
        replace Gd := Lib.hid ((hb.block _ (lt_of_heap Gd.out)).trans Gd.out)
        replace Gp := Lib.hid ((hb.block _ (lt_of_heap Gp.out)).trans Gp.out)
        replace Gx := Lib.hid ((hb.block _ (lt_of_heap Gx.out)).trans Gx.out)
        replace Rb := Lib.hid (Rb.out.below hb)
        have Ru := Lib.hid hr
        clear hr hb
        have cGn := cell_row Gn.out
        have cGd := cell_row Gd.out
        have cGp := cell_row Gp.out
        have cGx := cell_row Gx.out
        go_wp2_with fail
        refine (SW.out _ _ Ru.out).mono ?_
        rintro e w28 ⟨rfl, hb⟩
        clear cGn cGd cGp cGx
        replace HB := Lib.hid (below_then HB.out hb)
        replace KL := Lib.hid (KL.out.older hb)
        replace Gn := Lib.hid ((hb.block _ (lt_of_heap Gn.out)).trans Gn.out)
        replace Gd := Lib.hid ((hb.block _ (lt_of_heap Gd.out)).trans Gd.out)
        replace Gp := Lib.hid ((hb.block _ (lt_of_heap Gp.out)).trans Gp.out)
        replace Gx := Lib.hid ((hb.block _ (lt_of_heap Gx.out)).trans Gx.out)
        replace Rb := Lib.hid (Rb.out.below hb)
        replace Ru := Lib.hid (Ru.out.below hb)
        clear hb
        replace KL := Lib.hid (KL.out.older (below_al (Below.refl (w28).heap.size (w28)) (.cells (wcells X) 24)))
        replace Gn := Lib.hid (keepAl (o' := .cells (wcells X) 24) Gn.out)
        replace Gd := Lib.hid (keepAl (o' := .cells (wcells X) 24) Gd.out)
        replace Gp := Lib.hid (keepAl (o' := .cells (wcells X) 24) Gp.out)
        replace Gx := Lib.hid (keepAl (o' := .cells (wcells X) 24) Gx.out)
        have Gy := Lib.hid (alloc_new (w28) (.cells (wcells X) 24))
        replace HB := Lib.hid (below_al HB.out (.cells (wcells X) 24))
        have cGn := cell_row Gn.out
        have cGd := cell_row Gd.out
        have cGp := cell_row Gp.out
        have cGx := cell_row Gx.out
        have cGy := cell_row Gy.out
        go_wp2_with fail
        refine (SM.out _).mono ?_
        rintro e w29 ⟨rfl, hb⟩
        clear cGn cGd cGp cGx cGy
        replace HB := Lib.hid (below_then HB.out hb)
        replace KL := Lib.hid (KL.out.older hb)
        replace Gn := Lib.hid ((hb.block _ (lt_of_heap Gn.out)).trans Gn.out)
        replace Gd := Lib.hid ((hb.block _ (lt_of_heap Gd.out)).trans Gd.out)
        replace Gp := Lib.hid ((hb.block _ (lt_of_heap Gp.out)).trans Gp.out)
        replace Gx := Lib.hid ((hb.block _ (lt_of_heap Gx.out)).trans Gx.out)
        replace Gy := Lib.hid ((hb.block _ (lt_of_heap Gy.out)).trans Gy.out)
        clear hb
        have cGn := cell_row Gn.out
        have cGd := cell_row Gd.out
        have cGp := cell_row Gp.out
        have cGx := cell_row Gx.out
        have cGy := cell_row Gy.out
        go_wp2_with fail
        refine (SA.out _ KL.out).mono ?_
        rintro e w30 ⟨rfl, hb⟩
        clear cGn cGd cGp cGx cGy
        replace HB := Lib.hid (below_then HB.out hb)
        replace KL := Lib.hid (KL.out.older hb)
        replace Gn := Lib.hid ((hb.block _ (lt_of_heap Gn.out)).trans Gn.out)
        replace Gd := Lib.hid ((hb.block _ (lt_of_heap Gd.out)).trans Gd.out)
        replace Gp := Lib.hid ((hb.block _ (lt_of_heap Gp.out)).trans Gp.out)
        replace Gx := Lib.hid ((hb.block _ (lt_of_heap Gx.out)).trans Gx.out)
        replace Gy := Lib.hid ((hb.block _ (lt_of_heap Gy.out)).trans Gy.out)
        clear hb
        have cGn := cell_row Gn.out
        have cGd := cell_row Gd.out
        have cGp := cell_row Gp.out
        have cGx := cell_row Gx.out
        have cGy := cell_row Gy.out
        go_wp2
        go_ret
        exact ⟨rfl, HB.out⟩
  · have SN := Lib.hid (fun w' => normT_no d hd (by omega) w')
    have hm : mayN n d ≠ 0 := fun h => by
      obtain ⟨g1, g2, _⟩ := may_ok h
      exact hgood ⟨by omega, g2⟩
    have hl : (((blen d : Nat) : Int) == 0) = true ∨ ((((blen d : Nat) : Int) == 0) = false ∧ decide ((120 : Int) < ((blen d : Nat) : Int)) = true) := by
      rcases (show d = 0 ∨ (d ≠ 0 ∧ ¬ d < P2 120) by omega) with h | ⟨h, h'⟩
      · left; rw [h, blen_zero]; rfl
      · right
        have h3 : ¬ blen d ≤ 120 := fun hh => h' (lt_of_blen hh)
        exact ⟨by simp; omega, decide_eq_true (by omega)⟩
    by_cases hr : m < 0 ∨ 65 < m
    · have SF := Lib.hid (fun w' (_ : Laid w') => leftT_out n d m hr w')
      have h1 : decide (m < 0) = true ∨ (decide (m < 0) = false ∧ decide (65 < m) = true) := by
        by_cases h : m < 0
        · exact Or.inl (decide_eq_true h)
        · exact Or.inr ⟨decide_eq_false h, decide_eq_true (by omega)⟩
      obtain ⟨l, hle⟩ : ∃ X, X = blen d := ⟨_, rfl⟩
      rw [← hle] at SL hl
      clear hn hd hL hgood hm hm1 hm2 hr hle SM
      rcases h1 with h1 | ⟨h1, h2⟩ <;> rcases hl with hl | ⟨hl, hl2⟩
      all_goals
        skip
        go_enter Tryd.func7, Tryd.ntmps7
        have HB := Lib.hid (Below.refl w.heap.size w)
        replace KL := Lib.hid (KL.out.older (below_al (Below.refl (w).heap.size (w)) (.cells (wcells n) 24)))
        have Gn := Lib.hid (alloc_new (w) (.cells (wcells n) 24))
        replace HB := Lib.hid (below_al HB.out (.cells (wcells n) 24))
        replace KL := Lib.hid (KL.out.older (below_al (Below.refl ((w).alloc (.cells (wcells n) 24)).heap.size ((w).alloc (.cells (wcells n) 24))) (.cells (wcells d) 24)))
        replace Gn := Lib.hid (keepAl (o' := .cells (wcells d) 24) Gn.out)
        have Gd := Lib.hid (alloc_new' (w := (w).alloc (.cells (wcells n) 24)) (n := w.heap.size + 1) (.cells (wcells d) 24) (by simp))
        replace HB := Lib.hid (below_al HB.out (.cells (wcells d) 24))
        have cGn := cell_row Gn.out
        have cGd := cell_row Gd.out
        go_wp2_with fail
        refine (SF.out _ KL.out).mono ?_
        rintro e w31 ⟨rfl, hb⟩
        clear cGn cGd
        replace HB := Lib.hid (below_then HB.out hb)
        replace KL := Lib.hid (KL.out.older hb)
        replace Gn := Lib.hid ((hb.block _ (lt_of_heap Gn.out)).trans Gn.out)
        replace Gd := Lib.hid ((hb.block _ (lt_of_heap Gd.out)).trans Gd.out)
        clear hb
        replace KL := Lib.hid (KL.out.older (below_al (Below.refl (w31).heap.size (w31)) (.cells (wcells 0) 24)))
        replace Gn := Lib.hid (keepAl (o' := .cells (wcells 0) 24) Gn.out)
        replace Gd := Lib.hid (keepAl (o' := .cells (wcells 0) 24) Gd.out)
        have Gp := Lib.hid (alloc_new (w31) (.cells (wcells 0) 24))
        replace HB := Lib.hid (below_al HB.out (.cells (wcells 0) 24))
        have cGn := cell_row Gn.out
        have cGd := cell_row Gd.out
        have cGp := cell_row Gp.out
        go_wp2_with fail
        refine (SN.out _).mono ?_
        rintro e w32 ⟨rfl, hb⟩
        clear cGn cGd cGp
        replace HB := Lib.hid (below_then HB.out hb)
        replace KL := Lib.hid (KL.out.older hb)
        replace Gn := Lib.hid ((hb.block _ (lt_of_heap Gn.out)).trans Gn.out)
        replace Gd := Lib.hid ((hb.block _ (lt_of_heap Gd.out)).trans Gd.out)
        replace Gp := Lib.hid ((hb.block _ (lt_of_heap Gp.out)).trans Gp.out)
        clear hb
        replace KL := Lib.hid (KL.out.older (below_al (Below.refl (w32).heap.size (w32)) (.cells (wcells 0) 24)))
        replace Gn := Lib.hid (keepAl (o' := .cells (wcells 0) 24) Gn.out)
        replace Gd := Lib.hid (keepAl (o' := .cells (wcells 0) 24) Gd.out)
        replace Gp := Lib.hid (keepAl (o' := .cells (wcells 0) 24) Gp.out)
        have Gx := Lib.hid (alloc_new (w32) (.cells (wcells 0) 24))
        replace HB := Lib.hid (below_al HB.out (.cells (wcells 0) 24))
        have cGn := cell_row Gn.out
        have cGd := cell_row Gd.out
        have cGp := cell_row Gp.out
        have cGx := cell_row Gx.out
        go_wp2_with fail
        refine (SB.out _).mono ?_
        rintro e w33 ⟨rb, rfl, hr, hb⟩
        clear cGn cGd cGp cGx
        replace HB := Lib.hid (below_then HB.out hb)
        replace KL := Lib.hid (KL.out.older hb)
        replace Gn := Lib.hid ((hb.block _ (lt_of_heap Gn.out)).trans Gn.out)
        replace Gd := Lib.hid ((hb.block _ (lt_of_heap Gd.out)).trans Gd.out)
        replace Gp := Lib.hid ((hb.block _ (lt_of_heap Gp.out)).trans Gp.out)
        replace Gx := Lib.hid ((hb.block _ (lt_of_heap Gx.out)).trans Gx.out)
        have Rb := Lib.hid hr
        clear hr hb
        have cGn := cell_row Gn.out
        have cGd := cell_row Gd.out
        have cGp := cell_row Gp.out
        have cGx := cell_row Gx.out
        go_wp2_with fail
        refine (SL.out _ _ Rb.out).mono ?_
        rintro e w34 ⟨rfl, hb⟩
        clear cGn cGd cGp cGx
        replace HB := Lib.hid (below_then HB.out hb)
        replace KL := Lib.hid (KL.out.older hb)
        replace Gn := Lib.hid ((hb.block _ (lt_of_heap Gn.out)).trans Gn.out)
        replace Gd := Lib.hid ((hb.block _ (lt_of_heap Gd.out)).trans Gd.out)
        replace Gp := Lib.hid ((hb.block _ (lt_of_heap Gp.out)).trans Gp.out)
        replace Gx := Lib.hid ((hb.block _ (lt_of_heap Gx.out)).trans Gx.out)
        replace Rb := Lib.hid (Rb.out.below hb)
        clear hb
        have cGn := cell_row Gn.out
        have cGd := cell_row Gd.out
        have cGp := cell_row Gp.out
        have cGx := cell_row Gx.out
        go_wp2_with fail
        refine (SA.out _ KL.out).mono ?_
        rintro e w35 ⟨rfl, hb⟩
        clear cGn cGd cGp cGx
        replace HB := Lib.hid (below_then HB.out hb)
        replace KL := Lib.hid (KL.out.older hb)
        replace Gn := Lib.hid ((hb.block _ (lt_of_heap Gn.out)).trans Gn.out)
        replace Gd := Lib.hid ((hb.block _ (lt_of_heap Gd.out)).trans Gd.out)
        replace Gp := Lib.hid ((hb.block _ (lt_of_heap Gp.out)).trans Gp.out)
        replace Gx := Lib.hid ((hb.block _ (lt_of_heap Gx.out)).trans Gx.out)
        clear hb
        have cGn := cell_row Gn.out
        have cGd := cell_row Gd.out
        have cGp := cell_row Gp.out
        have cGx := cell_row Gx.out
        go_wp2
        go_ret
        exact ⟨rfl, HB.out⟩
    · have h1 : decide (m < 0) = false := decide_eq_false (by omega)
      have h2 : decide (65 < m) = false := decide_eq_false (by omega)
      have SF := Lib.hid (fun w' (_ : Laid w') => leftT_no n d m hn hd hm (by omega) (by omega) w')
      obtain ⟨E, hE⟩ : ∃ E, E = mayN n d := ⟨_, rfl⟩
      rw [← hE] at SF SM hm
      have hb : (E == 0) = false := by simp [hm]
      obtain ⟨l, hle⟩ : ∃ X, X = blen d := ⟨_, rfl⟩
      rw [← hle] at SL hl
      clear hn hd hL hgood hm hm1 hm2 hr hE hle
      rcases hl with hl | ⟨hl, hl2⟩
      all_goals
        skip
        go_enter Tryd.func7, Tryd.ntmps7
        have HB := Lib.hid (Below.refl w.heap.size w)
        replace KL := Lib.hid (KL.out.older (below_al (Below.refl (w).heap.size (w)) (.cells (wcells n) 24)))
        have Gn := Lib.hid (alloc_new (w) (.cells (wcells n) 24))
        replace HB := Lib.hid (below_al HB.out (.cells (wcells n) 24))
        replace KL := Lib.hid (KL.out.older (below_al (Below.refl ((w).alloc (.cells (wcells n) 24)).heap.size ((w).alloc (.cells (wcells n) 24))) (.cells (wcells d) 24)))
        replace Gn := Lib.hid (keepAl (o' := .cells (wcells d) 24) Gn.out)
        have Gd := Lib.hid (alloc_new' (w := (w).alloc (.cells (wcells n) 24)) (n := w.heap.size + 1) (.cells (wcells d) 24) (by simp))
        replace HB := Lib.hid (below_al HB.out (.cells (wcells d) 24))
        have cGn := cell_row Gn.out
        have cGd := cell_row Gd.out
        go_wp2_with fail
        refine (SF.out _ KL.out).mono ?_
        rintro e w36 ⟨rfl, hb⟩
        clear cGn cGd
        replace HB := Lib.hid (below_then HB.out hb)
        replace KL := Lib.hid (KL.out.older hb)
        replace Gn := Lib.hid ((hb.block _ (lt_of_heap Gn.out)).trans Gn.out)
        replace Gd := Lib.hid ((hb.block _ (lt_of_heap Gd.out)).trans Gd.out)
        clear hb
        replace KL := Lib.hid (KL.out.older (below_al (Below.refl (w36).heap.size (w36)) (.cells (wcells 0) 24)))
        replace Gn := Lib.hid (keepAl (o' := .cells (wcells 0) 24) Gn.out)
        replace Gd := Lib.hid (keepAl (o' := .cells (wcells 0) 24) Gd.out)
        have Gp := Lib.hid (alloc_new (w36) (.cells (wcells 0) 24))
        replace HB := Lib.hid (below_al HB.out (.cells (wcells 0) 24))
        have cGn := cell_row Gn.out
        have cGd := cell_row Gd.out
        have cGp := cell_row Gp.out
        go_wp2_with fail
        refine (SN.out _).mono ?_
        rintro e w37 ⟨rfl, hb⟩
        clear cGn cGd cGp
        replace HB := Lib.hid (below_then HB.out hb)
        replace KL := Lib.hid (KL.out.older hb)
        replace Gn := Lib.hid ((hb.block _ (lt_of_heap Gn.out)).trans Gn.out)
        replace Gd := Lib.hid ((hb.block _ (lt_of_heap Gd.out)).trans Gd.out)
        replace Gp := Lib.hid ((hb.block _ (lt_of_heap Gp.out)).trans Gp.out)
        clear hb
        replace KL := Lib.hid (KL.out.older (below_al (Below.refl (w37).heap.size (w37)) (.cells (wcells 0) 24)))
        replace Gn := Lib.hid (keepAl (o' := .cells (wcells 0) 24) Gn.out)
        replace Gd := Lib.hid (keepAl (o' := .cells (wcells 0) 24) Gd.out)
        replace Gp := Lib.hid (keepAl (o' := .cells (wcells 0) 24) Gp.out)
        have Gx := Lib.hid (alloc_new (w37) (.cells (wcells 0) 24))
        replace HB := Lib.hid (below_al HB.out (.cells (wcells 0) 24))
        have cGn := cell_row Gn.out
        have cGd := cell_row Gd.out
        have cGp := cell_row Gp.out
        have cGx := cell_row Gx.out
        go_wp2_with fail
        refine (SB.out _).mono ?_
        rintro e w38 ⟨rb, rfl, hr, hb⟩
        clear cGn cGd cGp cGx
        replace HB := Lib.hid (below_then HB.out hb)
        replace KL := Lib.hid (KL.out.older hb)
        replace Gn := Lib.hid ((hb.block _ (lt_of_heap Gn.out)).trans Gn.out)
        replace Gd := Lib.hid ((hb.block _ (lt_of_heap Gd.out)).trans Gd.out)
        replace Gp := Lib.hid ((hb.block _ (lt_of_heap Gp.out)).trans Gp.out)
        replace Gx := Lib.hid ((hb.block _ (lt_of_heap Gx.out)).trans Gx.out)
        have Rb := Lib.hid hr
        clear hr hb
        have cGn := cell_row Gn.out
        have cGd := cell_row Gd.out
        have cGp := cell_row Gp.out
        have cGx := cell_row Gx.out
        go_wp2_with fail
        refine (SL.out _ _ Rb.out).mono ?_
        rintro e w39 ⟨rfl, hb⟩
        clear cGn cGd cGp cGx
        replace HB := Lib.hid (below_then HB.out hb)
        replace KL := Lib.hid (KL.out.older hb)
        replace Gn := Lib.hid ((hb.block _ (lt_of_heap Gn.out)).trans Gn.out)
        replace Gd := Lib.hid ((hb.block _ (lt_of_heap Gd.out)).trans Gd.out)
        replace Gp := Lib.hid ((hb.block _ (lt_of_heap Gp.out)).trans Gp.out)
        replace Gx := Lib.hid ((hb.block _ (lt_of_heap Gx.out)).trans Gx.out)
        replace Rb := Lib.hid (Rb.out.below hb)
        clear hb
        have cGn := cell_row Gn.out
        have cGd := cell_row Gd.out
        have cGp := cell_row Gp.out
        have cGx := cell_row Gx.out
        go_wp2_with fail
        refine (SM.out _).mono ?_
        rintro e w40 ⟨rfl, hb⟩
        clear cGn cGd cGp cGx
        replace HB := Lib.hid (below_then HB.out hb)
        replace KL := Lib.hid (KL.out.older hb)
        replace Gn := Lib.hid ((hb.block _ (lt_of_heap Gn.out)).trans Gn.out)
        replace Gd := Lib.hid ((hb.block _ (lt_of_heap Gd.out)).trans Gd.out)
        replace Gp := Lib.hid ((hb.block _ (lt_of_heap Gp.out)).trans Gp.out)
        replace Gx := Lib.hid ((hb.block _ (lt_of_heap Gx.out)).trans Gx.out)
        clear hb
        have cGn := cell_row Gn.out
        have cGd := cell_row Gd.out
        have cGp := cell_row Gp.out
        have cGx := cell_row Gx.out
        go_wp2_with fail
        refine (SA.out _ KL.out).mono ?_
        rintro e w41 ⟨rfl, hb⟩
        clear cGn cGd cGp cGx
        replace HB := Lib.hid (below_then HB.out hb)
        replace KL := Lib.hid (KL.out.older hb)
        replace Gn := Lib.hid ((hb.block _ (lt_of_heap Gn.out)).trans Gn.out)
        replace Gd := Lib.hid ((hb.block _ (lt_of_heap Gd.out)).trans Gd.out)
        replace Gp := Lib.hid ((hb.block _ (lt_of_heap Gp.out)).trans Gp.out)
        replace Gx := Lib.hid ((hb.block _ (lt_of_heap Gx.out)).trans Gx.out)
        clear hb
        have cGn := cell_row Gn.out
        have cGd := cell_row Gd.out
        have cGp := cell_row Gp.out
        have cGx := cell_row Gx.out
        go_wp2
        go_ret
        exact ⟨rfl, HB.out⟩
end Go.Proofs.YtffengboblekpaaDoor
