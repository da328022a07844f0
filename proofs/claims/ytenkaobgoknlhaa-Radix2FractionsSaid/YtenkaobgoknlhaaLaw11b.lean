/- THE WALKS of the laws on radix2, going on: quotients with places behind the point. -/
import Derived.Test.YtenkaobgoknlhaaLaw11
import Derived.Test.YtenkaobgoknlhaaR2f
namespace Go.Proofs.Ytenkaobgoknlhaa
open Go Go.RowKit

attribute [local go_sem ↓] Go.wp_at_zero Go.wp_at_succ
set_option maxRecDepth 100000 in
set_option maxHeartbeats 4000000 in
theorem radix2Fractions_any (n d : Nat) (b : Int) (w : World) (hn : n < M) (hd : d < M) (_h1 : -9223372036854775808 ≤ b) (_h2 : b ≤ 9223372036854775807) :
    Calls Try.prog 18 #[wv n, wv d, .int .i64 b] w fun e w' => e = .returned (.bool true) ∧ Below w.heap.size w w' := by
  have SA := Lib.hid (fun w' => awake11_any w')
  by_cases hb : b < 0 ∨ 100 < b
  · have S1 := Lib.hid (fun w' => fraction_no n d b hb w')
    have hb' : b < 0 ∨ (¬ b < 0 ∧ 100 < b) := by omega
    clear hn hd _h1 _h2 hb
    rcases hb' with h0 | ⟨h0, h1⟩
    all_goals
      go_enter Try.func18, Try.ntmps18
      have HB := Lib.hid (Below.refl w.heap.size w)
      have Gn := Lib.hid (alloc_new (w) (.cells (wcells n) 26))
      replace HB := Lib.hid (below_al HB.out (.cells (wcells n) 26))
      replace Gn := Lib.hid (keepAl (o' := .cells (wcells d) 26) Gn.out)
      have Gd := Lib.hid (alloc_new' (w := (w).alloc (.cells (wcells n) 26)) (n := w.heap.size + 1) (.cells (wcells d) 26) (by simp))
      replace HB := Lib.hid (below_al HB.out (.cells (wcells d) 26))
      have cGn := cell_row Gn.out
      have cGd := cell_row Gd.out
      go_wp2_with fail
      refine (S1.out _).mono ?_
      rintro e w1 ⟨rfl, hb⟩
      clear cGn cGd
      replace HB := Lib.hid (below_then HB.out hb)
      replace Gn := Lib.hid ((hb.block _ (lt_of_heap Gn.out)).trans Gn.out)
      replace Gd := Lib.hid ((hb.block _ (lt_of_heap Gd.out)).trans Gd.out)
      clear hb
      replace Gn := Lib.hid (keepAl (o' := .cells (wcells 0) 26) Gn.out)
      replace Gd := Lib.hid (keepAl (o' := .cells (wcells 0) 26) Gd.out)
      have Gq := Lib.hid (alloc_new (w1) (.cells (wcells 0) 26))
      replace HB := Lib.hid (below_al HB.out (.cells (wcells 0) 26))
      have cGn := cell_row Gn.out
      have cGd := cell_row Gd.out
      have cGq := cell_row Gq.out
      go_wp2_with fail
      refine (SA.out _).mono ?_
      rintro e w2 ⟨rfl, hb⟩
      clear cGn cGd cGq
      replace HB := Lib.hid (below_then HB.out hb)
      replace Gn := Lib.hid ((hb.block _ (lt_of_heap Gn.out)).trans Gn.out)
      replace Gd := Lib.hid ((hb.block _ (lt_of_heap Gd.out)).trans Gd.out)
      replace Gq := Lib.hid ((hb.block _ (lt_of_heap Gq.out)).trans Gq.out)
      clear hb
      have cGn := cell_row Gn.out
      have cGd := cell_row Gd.out
      have cGq := cell_row Gq.out
      go_wp2
      go_ret
      exact ⟨rfl, HB.out⟩
  · obtain ⟨k, rfl⟩ := Int.eq_ofNat_of_zero_le (show 0 ≤ b by omega)
    have hk : k ≤ 100 := by omega
    have h0 : ¬ (k : Int) < 0 := by omega
    have h1 : ¬ (100 : Int) < (k : Int) := by omega
    have hs : n * P2 k < BIG := by
      have h2 := Nat.mul_lt_mul_of_pos_right hn (P2_pos k)
      rw [M_eq, ← P2_add] at h2
      exact small_of h2 (by omega)
    have S1 := Lib.hid (fun w' => fraction_yes n d k hd hk w')
    have S2 := Lib.hid (fun w' => big_any n hn w')
    have S3 := Lib.hid (fun v w' h => rshl_any v n k w' (small_M hn) (by omega) h)
    have S4 := Lib.hid (fun v w' h => wide_any v (n * P2 k) w' hs h)
    obtain ⟨X, hX⟩ : ∃ X, X = n * P2 k % M := ⟨_, rfl⟩
    have hXM : X < M := by rw [hX]; exact Nat.mod_lt _ M_pos
    rw [← hX] at S1 S4
    obtain ⟨p, hp⟩ : ∃ p, p = n * P2 k := ⟨_, rfl⟩
    rw [← hp] at S3 S4
    obtain ⟨f, hf⟩ : ∃ f, f = decide (M ≤ p) := ⟨_, rfl⟩
    rw [← hf] at S4
    have S5 := Lib.hid (fun w' => rmay_any X d hXM hd w')
    by_cases hm : mayN X d = 0
    · obtain ⟨g1, g2, g3⟩ := may_ok hm
      obtain ⟨e1, e2⟩ := dv_yes hm
      have hq : X / d < P2 131 := Nat.lt_of_lt_of_le (quo_lt g1 g3) (P2_le (by omega))
      have S6 := Lib.hid (fun w' => rdivide_any X d w' hXM hd g1 hq)
      rw [e1, e2, hm] at S1
      rw [hm] at S5
      obtain ⟨Q, hQ⟩ : ∃ x, x = X / d := ⟨_, rfl⟩
      obtain ⟨R, hR⟩ : ∃ x, x = X % d := ⟨_, rfl⟩
      rw [← hQ, ← hR] at S1 S6
      clear hn hd hb hk hs hX hXM hp hf hm g1 g2 g3 e1 e2 hq hQ hR _h1 _h2
      cases hz : isZ R
      all_goals
        rw [hz] at S1
        go_enter Try.func18, Try.ntmps18
        have HB := Lib.hid (Below.refl w.heap.size w)
        have Gn := Lib.hid (alloc_new (w) (.cells (wcells n) 26))
        replace HB := Lib.hid (below_al HB.out (.cells (wcells n) 26))
        replace Gn := Lib.hid (keepAl (o' := .cells (wcells d) 26) Gn.out)
        have Gd := Lib.hid (alloc_new' (w := (w).alloc (.cells (wcells n) 26)) (n := w.heap.size + 1) (.cells (wcells d) 26) (by simp))
        replace HB := Lib.hid (below_al HB.out (.cells (wcells d) 26))
        have cGn := cell_row Gn.out
        have cGd := cell_row Gd.out
        go_wp2_with fail
        refine (S1.out _).mono ?_
        rintro e w3 ⟨rfl, hb⟩
        clear cGn cGd
        replace HB := Lib.hid (below_then HB.out hb)
        replace Gn := Lib.hid ((hb.block _ (lt_of_heap Gn.out)).trans Gn.out)
        replace Gd := Lib.hid ((hb.block _ (lt_of_heap Gd.out)).trans Gd.out)
        clear hb
        replace Gn := Lib.hid (keepAl (o' := .cells (wcells Q) 26) Gn.out)
        replace Gd := Lib.hid (keepAl (o' := .cells (wcells Q) 26) Gd.out)
        have Gq := Lib.hid (alloc_new (w3) (.cells (wcells Q) 26))
        replace HB := Lib.hid (below_al HB.out (.cells (wcells Q) 26))
        have cGn := cell_row Gn.out
        have cGd := cell_row Gd.out
        have cGq := cell_row Gq.out
        go_wp2_with fail
        refine (S2.out _).mono ?_
        rintro e w4 ⟨rb, rfl, hr, hb⟩
        clear cGn cGd cGq
        replace HB := Lib.hid (below_then HB.out hb)
        replace Gn := Lib.hid ((hb.block _ (lt_of_heap Gn.out)).trans Gn.out)
        replace Gd := Lib.hid ((hb.block _ (lt_of_heap Gd.out)).trans Gd.out)
        replace Gq := Lib.hid ((hb.block _ (lt_of_heap Gq.out)).trans Gq.out)
        have Rb := Lib.hid hr
        clear hr hb
        have cGn := cell_row Gn.out
        have cGd := cell_row Gd.out
        have cGq := cell_row Gq.out
        go_wp2_with fail
        refine (S3.out _ _ Rb.out).mono ?_
        rintro e w5 ⟨rs, rfl, hr, hb⟩
        clear cGn cGd cGq
        replace HB := Lib.hid (below_then HB.out hb)
        replace Gn := Lib.hid ((hb.block _ (lt_of_heap Gn.out)).trans Gn.out)
        replace Gd := Lib.hid ((hb.block _ (lt_of_heap Gd.out)).trans Gd.out)
        replace Gq := Lib.hid ((hb.block _ (lt_of_heap Gq.out)).trans Gq.out)
        replace Rb := Lib.hid (Rb.out.below hb)
        have Rs := Lib.hid hr
        clear hr hb
        have cGn := cell_row Gn.out
        have cGd := cell_row Gd.out
        have cGq := cell_row Gq.out
        go_wp2_with fail
        refine (S4.out _ _ Rs.out).mono ?_
        rintro e w6 ⟨rfl, hb⟩
        clear cGn cGd cGq
        replace HB := Lib.hid (below_then HB.out hb)
        replace Gn := Lib.hid ((hb.block _ (lt_of_heap Gn.out)).trans Gn.out)
        replace Gd := Lib.hid ((hb.block _ (lt_of_heap Gd.out)).trans Gd.out)
        replace Gq := Lib.hid ((hb.block _ (lt_of_heap Gq.out)).trans Gq.out)
        replace Rb := Lib.hid (Rb.out.below hb)
        replace Rs := Lib.hid (Rs.out.below hb)
        clear hb
        replace Gn := Lib.hid (keepAl (o' := .cells (wcells X) 26) Gn.out)
        replace Gd := Lib.hid (keepAl (o' := .cells (wcells X) 26) Gd.out)
        replace Gq := Lib.hid (keepAl (o' := .cells (wcells X) 26) Gq.out)
        have Gx := Lib.hid (alloc_new (w6) (.cells (wcells X) 26))
        replace HB := Lib.hid (below_al HB.out (.cells (wcells X) 26))
        have cGn := cell_row Gn.out
        have cGd := cell_row Gd.out
        have cGq := cell_row Gq.out
        have cGx := cell_row Gx.out
        go_wp2_with fail
        refine (S5.out _).mono ?_
        rintro e w7 ⟨rfl, hb⟩
        clear cGn cGd cGq cGx
        replace HB := Lib.hid (below_then HB.out hb)
        replace Gn := Lib.hid ((hb.block _ (lt_of_heap Gn.out)).trans Gn.out)
        replace Gd := Lib.hid ((hb.block _ (lt_of_heap Gd.out)).trans Gd.out)
        replace Gq := Lib.hid ((hb.block _ (lt_of_heap Gq.out)).trans Gq.out)
        replace Gx := Lib.hid ((hb.block _ (lt_of_heap Gx.out)).trans Gx.out)
        clear hb
        have cGn := cell_row Gn.out
        have cGd := cell_row Gd.out
        have cGq := cell_row Gq.out
        have cGx := cell_row Gx.out
        go_wp2_with fail
        refine (S6.out _).mono ?_
        rintro e w8 ⟨rfl, hb⟩
        clear cGn cGd cGq cGx
        replace HB := Lib.hid (below_then HB.out hb)
        replace Gn := Lib.hid ((hb.block _ (lt_of_heap Gn.out)).trans Gn.out)
        replace Gd := Lib.hid ((hb.block _ (lt_of_heap Gd.out)).trans Gd.out)
        replace Gq := Lib.hid ((hb.block _ (lt_of_heap Gq.out)).trans Gq.out)
        replace Gx := Lib.hid ((hb.block _ (lt_of_heap Gx.out)).trans Gx.out)
        clear hb
        replace Gn := Lib.hid (keepAl (o' := .cells (wcells Q) 26) Gn.out)
        replace Gd := Lib.hid (keepAl (o' := .cells (wcells Q) 26) Gd.out)
        replace Gq := Lib.hid (keepAl (o' := .cells (wcells Q) 26) Gq.out)
        replace Gx := Lib.hid (keepAl (o' := .cells (wcells Q) 26) Gx.out)
        have Gy := Lib.hid (alloc_new (w8) (.cells (wcells Q) 26))
        replace HB := Lib.hid (below_al HB.out (.cells (wcells Q) 26))
        replace Gn := Lib.hid (keepAl (o' := .cells (wcells R) 26) Gn.out)
        replace Gd := Lib.hid (keepAl (o' := .cells (wcells R) 26) Gd.out)
        replace Gq := Lib.hid (keepAl (o' := .cells (wcells R) 26) Gq.out)
        replace Gx := Lib.hid (keepAl (o' := .cells (wcells R) 26) Gx.out)
        replace Gy := Lib.hid (keepAl (o' := .cells (wcells R) 26) Gy.out)
        have Gz := Lib.hid (alloc_new' (w := (w8).alloc (.cells (wcells Q) 26)) (n := w8.heap.size + 1) (.cells (wcells R) 26) (by simp))
        replace HB := Lib.hid (below_al HB.out (.cells (wcells R) 26))
        have cGn := cell_row Gn.out
        have cGd := cell_row Gd.out
        have cGq := cell_row Gq.out
        have cGx := cell_row Gx.out
        have cGy := cell_row Gy.out
        have cGz := cell_row Gz.out
        go_wp2_with fail
        refine (SA.out _).mono ?_
        rintro e w9 ⟨rfl, hb⟩
        clear cGn cGd cGq cGx cGy cGz
        replace HB := Lib.hid (below_then HB.out hb)
        replace Gn := Lib.hid ((hb.block _ (lt_of_heap Gn.out)).trans Gn.out)
        replace Gd := Lib.hid ((hb.block _ (lt_of_heap Gd.out)).trans Gd.out)
        replace Gq := Lib.hid ((hb.block _ (lt_of_heap Gq.out)).trans Gq.out)
        replace Gx := Lib.hid ((hb.block _ (lt_of_heap Gx.out)).trans Gx.out)
        replace Gy := Lib.hid ((hb.block _ (lt_of_heap Gy.out)).trans Gy.out)
        replace Gz := Lib.hid ((hb.block _ (lt_of_heap Gz.out)).trans Gz.out)
        clear hb
        have cGn := cell_row Gn.out
        have cGd := cell_row Gd.out
        have cGq := cell_row Gq.out
        have cGx := cell_row Gx.out
        have cGy := cell_row Gy.out
        have cGz := cell_row Gz.out
        go_wp2
        go_ret
        exact ⟨rfl, HB.out⟩
    · obtain ⟨e1, e2⟩ := dv_no hm
      rw [e1, e2] at S1
      obtain ⟨E, hE⟩ : ∃ x, x = mayN X d := ⟨_, rfl⟩
      rw [← hE] at S1 S5 hm
      have hb0 : (E == 0) = false := by simp [hm]
      clear hn hd hb hk hs hX hXM hp hf hm e1 e2 hE _h1 _h2
      go_enter Try.func18, Try.ntmps18
      have HB := Lib.hid (Below.refl w.heap.size w)
      have Gn := Lib.hid (alloc_new (w) (.cells (wcells n) 26))
      replace HB := Lib.hid (below_al HB.out (.cells (wcells n) 26))
      replace Gn := Lib.hid (keepAl (o' := .cells (wcells d) 26) Gn.out)
      have Gd := Lib.hid (alloc_new' (w := (w).alloc (.cells (wcells n) 26)) (n := w.heap.size + 1) (.cells (wcells d) 26) (by simp))
      replace HB := Lib.hid (below_al HB.out (.cells (wcells d) 26))
      have cGn := cell_row Gn.out
      have cGd := cell_row Gd.out
      go_wp2_with fail
      refine (S1.out _).mono ?_
      rintro e w10 ⟨rfl, hb⟩
      clear cGn cGd
      replace HB := Lib.hid (below_then HB.out hb)
      replace Gn := Lib.hid ((hb.block _ (lt_of_heap Gn.out)).trans Gn.out)
      replace Gd := Lib.hid ((hb.block _ (lt_of_heap Gd.out)).trans Gd.out)
      clear hb
      replace Gn := Lib.hid (keepAl (o' := .cells (wcells 0) 26) Gn.out)
      replace Gd := Lib.hid (keepAl (o' := .cells (wcells 0) 26) Gd.out)
      have Gq := Lib.hid (alloc_new (w10) (.cells (wcells 0) 26))
      replace HB := Lib.hid (below_al HB.out (.cells (wcells 0) 26))
      have cGn := cell_row Gn.out
      have cGd := cell_row Gd.out
      have cGq := cell_row Gq.out
      go_wp2_with fail
      refine (S2.out _).mono ?_
      rintro e w11 ⟨rb, rfl, hr, hb⟩
      clear cGn cGd cGq
      replace HB := Lib.hid (below_then HB.out hb)
      replace Gn := Lib.hid ((hb.block _ (lt_of_heap Gn.out)).trans Gn.out)
      replace Gd := Lib.hid ((hb.block _ (lt_of_heap Gd.out)).trans Gd.out)
      replace Gq := Lib.hid ((hb.block _ (lt_of_heap Gq.out)).trans Gq.out)
      have Rb := Lib.hid hr
      clear hr hb
      have cGn := cell_row Gn.out
      have cGd := cell_row Gd.out
      have cGq := cell_row Gq.out
      go_wp2_with fail
      refine (S3.out _ _ Rb.out).mono ?_
      rintro e w12 ⟨rs, rfl, hr, hb⟩
      clear cGn cGd cGq
      replace HB := Lib.hid (below_then HB.out hb)
      replace Gn := Lib.hid ((hb.block _ (lt_of_heap Gn.out)).trans Gn.out)
      replace Gd := Lib.hid ((hb.block _ (lt_of_heap Gd.out)).trans Gd.out)
      replace Gq := Lib.hid ((hb.block _ (lt_of_heap Gq.out)).trans Gq.out)
      replace Rb := Lib.hid (Rb.out.below hb)
      have Rs := Lib.hid hr
      clear hr hb
      have cGn := cell_row Gn.out
      have cGd := cell_row Gd.out
      have cGq := cell_row Gq.out
      go_wp2_with fail
      refine (S4.out _ _ Rs.out).mono ?_
      rintro e w13 ⟨rfl, hb⟩
      clear cGn cGd cGq
      replace HB := Lib.hid (below_then HB.out hb)
      replace Gn := Lib.hid ((hb.block _ (lt_of_heap Gn.out)).trans Gn.out)
      replace Gd := Lib.hid ((hb.block _ (lt_of_heap Gd.out)).trans Gd.out)
      replace Gq := Lib.hid ((hb.block _ (lt_of_heap Gq.out)).trans Gq.out)
      replace Rb := Lib.hid (Rb.out.below hb)
      replace Rs := Lib.hid (Rs.out.below hb)
      clear hb
      replace Gn := Lib.hid (keepAl (o' := .cells (wcells X) 26) Gn.out)
      replace Gd := Lib.hid (keepAl (o' := .cells (wcells X) 26) Gd.out)
      replace Gq := Lib.hid (keepAl (o' := .cells (wcells X) 26) Gq.out)
      have Gx := Lib.hid (alloc_new (w13) (.cells (wcells X) 26))
      replace HB := Lib.hid (below_al HB.out (.cells (wcells X) 26))
      have cGn := cell_row Gn.out
      have cGd := cell_row Gd.out
      have cGq := cell_row Gq.out
      have cGx := cell_row Gx.out
      go_wp2_with fail
      refine (S5.out _).mono ?_
      rintro e w14 ⟨rfl, hb⟩
      clear cGn cGd cGq cGx
      replace HB := Lib.hid (below_then HB.out hb)
      replace Gn := Lib.hid ((hb.block _ (lt_of_heap Gn.out)).trans Gn.out)
      replace Gd := Lib.hid ((hb.block _ (lt_of_heap Gd.out)).trans Gd.out)
      replace Gq := Lib.hid ((hb.block _ (lt_of_heap Gq.out)).trans Gq.out)
      replace Gx := Lib.hid ((hb.block _ (lt_of_heap Gx.out)).trans Gx.out)
      clear hb
      have cGn := cell_row Gn.out
      have cGd := cell_row Gd.out
      have cGq := cell_row Gq.out
      have cGx := cell_row Gx.out
      go_wp2_with fail
      refine (SA.out _).mono ?_
      rintro e w15 ⟨rfl, hb⟩
      clear cGn cGd cGq cGx
      replace HB := Lib.hid (below_then HB.out hb)
      replace Gn := Lib.hid ((hb.block _ (lt_of_heap Gn.out)).trans Gn.out)
      replace Gd := Lib.hid ((hb.block _ (lt_of_heap Gd.out)).trans Gd.out)
      replace Gq := Lib.hid ((hb.block _ (lt_of_heap Gq.out)).trans Gq.out)
      replace Gx := Lib.hid ((hb.block _ (lt_of_heap Gx.out)).trans Gx.out)
      clear hb
      have cGn := cell_row Gn.out
      have cGd := cell_row Gd.out
      have cGq := cell_row Gq.out
      have cGx := cell_row Gx.out
      go_wp2
      go_ret
      exact ⟨rfl, HB.out⟩
end Go.Proofs.Ytenkaobgoknlhaa
