/- THE WALK of the law on srt's digits. -/
import Derived.Test.YtffengboblekpaaDoorLaw15
import Derived.Test.YtffengboblekpaaDoorRef15c
import Derived.Test.YtffengboblekpaaDoorFly3
namespace Go.Proofs.YtffengboblekpaaDoor
open Go Go.RowKit

attribute [local go_sem ↓] Go.wp_at_zero Go.wp_at_succ
set_option maxRecDepth 100000 in
set_option maxHeartbeats 2000000 in
theorem srtDigits_any (n d : Nat) (w : World) (hn : n < M) (hd : d < M) (hL : Laid w) :
    Calls Tryd.prog 6 #[wv n, wv d] w fun e w' => e = .returned (.bool true) ∧ Below w.heap.size w w' := by
  have SA := Lib.hid (fun w' h => awake15_any w' h)
  have SM := Lib.hid (fun w' => rmay_any n d hn hd w')
  have KL := Lib.hid hL
  by_cases hm : mayN n d = 0
  · have SD := Lib.hid (fun w' h => digitsT_yes n d hn hd hm w' h)
    have SR : Hid (∀ w' : World, Calls Tryd.prog 28 #[wv n, wv d, .int .i64 65] w' fun e w'' => ∃ va vb, e = .returned (.tuple #[va, vb]) ∧ IsIntsN w'' va (sDigs (n * P2 (128 - blen d)) (d * P2 (128 - blen d)) ((rowT (d * P2 (128 - blen d)) : Nat) : Int) 65) ∧ IsSgn w'' vb (sLeft (n * P2 (128 - blen d)) (d * P2 (128 - blen d)) ((rowT (d * P2 (128 - blen d)) : Nat) : Int) 65) ∧ Below w'.heap.size w' w'') := Lib.hid fun w' => run15_any n d 65 hn hd hm (Nat.le_refl _) w'
    have SS := Lib.hid (fun va vb w' h h' => same13_eq va vb (sDigs (n * P2 (128 - blen d)) (d * P2 (128 - blen d)) ((rowT (d * P2 (128 - blen d)) : Nat) : Int) 65) w' (by rw [sDigs_len]; omega) h h')
    rw [hm] at SM
    obtain ⟨Z, hZ⟩ : ∃ X, X = sLeft (n * P2 (128 - blen d)) (d * P2 (128 - blen d)) ((rowT (d * P2 (128 - blen d)) : Nat) : Int) 65 := ⟨_, rfl⟩
    rw [← hZ] at SR
    obtain ⟨X, hX⟩ : ∃ X, X = sDigs (n * P2 (128 - blen d)) (d * P2 (128 - blen d)) ((rowT (d * P2 (128 - blen d)) : Nat) : Int) 65 := ⟨_, rfl⟩
    rw [← hX] at SD SR SS
    clear hn hd hm hX hZ hL
    go_enter Tryd.func6, Tryd.ntmps6
    have HB := Lib.hid (Below.refl w.heap.size w)
    replace KL := Lib.hid (KL.out.older (below_al (Below.refl (w).heap.size (w)) (.cells (wcells n) 24)))
    have Gn := Lib.hid (alloc_new (w) (.cells (wcells n) 24))
    replace HB := Lib.hid (below_al HB.out (.cells (wcells n) 24))
    replace KL := Lib.hid (KL.out.older (below_al (Below.refl ((w).alloc (.cells (wcells n) 24)).heap.size ((w).alloc (.cells (wcells n) 24))) (.cells (wcells d) 24)))
    replace Gn := Lib.hid (keepAl (o' := .cells (wcells d) 24) Gn.out)
    have Gd := Lib.hid (alloc_new' (w := (w).alloc (.cells (wcells n) 24)) (n := w.heap.size + 1) (.cells (wcells d) 24) (by simp))
    replace HB := Lib.hid (below_al HB.out (.cells (wcells d) 24))
    have cGn := cell_row Gn.out
    have cGd := cell_row Gd.out
    go_wp2_with fail
    clear cGn cGd
    refine (SD.out _ KL.out).mono ?_
    rintro e w2 ⟨va, rfl, hr, hb⟩
    replace HB := Lib.hid (below_then HB.out hb)
    replace Gn := Lib.hid ((hb.block _ (lt_of_heap Gn.out)).trans Gn.out)
    replace Gd := Lib.hid ((hb.block _ (lt_of_heap Gd.out)).trans Gd.out)
    replace KL := Lib.hid (KL.out.older hb)
    have Ka := Lib.hid hr
    clear hr hb
    have cGn := cell_row Gn.out
    have cGd := cell_row Gd.out
    go_wp2_with fail
    refine (SM.out _).mono ?_
    rintro e w1 ⟨rfl, hb⟩
    clear cGn cGd
    replace HB := Lib.hid (below_then HB.out hb)
    replace Gn := Lib.hid ((hb.block _ (lt_of_heap Gn.out)).trans Gn.out)
    replace Gd := Lib.hid ((hb.block _ (lt_of_heap Gd.out)).trans Gd.out)
    replace Ka := Lib.hid (Ka.out.older hb)
    replace KL := Lib.hid (KL.out.older hb)
    clear hb
    have cGn := cell_row Gn.out
    have cGd := cell_row Gd.out
    go_wp2_with fail
    clear cGn cGd
    refine (SR.out _).mono ?_
    rintro e w4 ⟨vb, vp, rfl, hr, ⟨pa, pL, pc, rfl, _⟩, hb⟩
    replace HB := Lib.hid (below_then HB.out hb)
    replace Ka := Lib.hid (Ka.out.older hb)
    replace KL := Lib.hid (KL.out.older hb)
    have Kb := Lib.hid hr
    clear hr hb Gn Gd
    obtain ⟨F, hF⟩ : ∃ F, F = decide (Z < 0) := ⟨_, rfl⟩
    rw [← hF]
    clear hF
    replace Ka := Lib.hid (Ka.out.older (below_al (Below.refl (w4).heap.size (w4)) (.cells #[.slice pa pL pc, .bool F] 52)))
    replace Kb := Lib.hid (Kb.out.older (below_al (Below.refl (w4).heap.size (w4)) (.cells #[.slice pa pL pc, .bool F] 52)))
    replace KL := Lib.hid (KL.out.older (below_al (Below.refl (w4).heap.size (w4)) (.cells #[.slice pa pL pc, .bool F] 52)))
    have Gs := Lib.hid (alloc_new (w4) (.cells #[.slice pa pL pc, .bool F] 52))
    replace HB := Lib.hid (below_al HB.out (.cells #[.slice pa pL pc, .bool F] 52))
    have cGs := cell_row Gs.out
    go_wp2_with fail
    refine (SS.out _ _ _ Ka.out Kb.out).mono ?_
    rintro e w2 ⟨rfl, hb⟩
    clear cGs
    replace HB := Lib.hid (below_then HB.out hb)
    replace Ka := Lib.hid (Ka.out.older hb)
    replace Kb := Lib.hid (Kb.out.older hb)
    replace KL := Lib.hid (KL.out.older hb)
    replace Gs := Lib.hid ((hb.block _ (lt_of_heap Gs.out)).trans Gs.out)
    clear hb
    have cGs := cell_row Gs.out
    go_wp2_with fail
    refine (SA.out _ KL.out).mono ?_
    rintro e w3 ⟨rfl, hb⟩
    clear cGs
    replace HB := Lib.hid (below_then HB.out hb)
    replace Ka := Lib.hid (Ka.out.older hb)
    replace Kb := Lib.hid (Kb.out.older hb)
    replace KL := Lib.hid (KL.out.older hb)
    replace Gs := Lib.hid ((hb.block _ (lt_of_heap Gs.out)).trans Gs.out)
    clear hb
    have cGs := cell_row Gs.out
    go_wp2
    go_ret
    exact ⟨rfl, HB.out⟩
  · have SD := Lib.hid (fun w' => digitsT_no n d hn hd hm w')
    obtain ⟨E, hE⟩ : ∃ E, E = mayN n d := ⟨_, rfl⟩
    rw [← hE] at SD SM hm
    have hb : (E == 0) = false := by simp [hm]
    clear hn hd hE hm hL
    go_enter Tryd.func6, Tryd.ntmps6
    have HB := Lib.hid (Below.refl w.heap.size w)
    replace KL := Lib.hid (KL.out.older (below_al (Below.refl (w).heap.size (w)) (.cells (wcells n) 24)))
    have Gn := Lib.hid (alloc_new (w) (.cells (wcells n) 24))
    replace HB := Lib.hid (below_al HB.out (.cells (wcells n) 24))
    replace KL := Lib.hid (KL.out.older (below_al (Below.refl ((w).alloc (.cells (wcells n) 24)).heap.size ((w).alloc (.cells (wcells n) 24))) (.cells (wcells d) 24)))
    replace Gn := Lib.hid (keepAl (o' := .cells (wcells d) 24) Gn.out)
    have Gd := Lib.hid (alloc_new' (w := (w).alloc (.cells (wcells n) 24)) (n := w.heap.size + 1) (.cells (wcells d) 24) (by simp))
    replace HB := Lib.hid (below_al HB.out (.cells (wcells d) 24))
    have cGn := cell_row Gn.out
    have cGd := cell_row Gd.out
    go_wp2_with fail
    refine (SD.out _).mono ?_
    rintro e w4 ⟨rfl, hb⟩
    clear cGn cGd
    replace HB := Lib.hid (below_then HB.out hb)
    replace KL := Lib.hid (KL.out.older hb)
    replace Gn := Lib.hid ((hb.block _ (lt_of_heap Gn.out)).trans Gn.out)
    replace Gd := Lib.hid ((hb.block _ (lt_of_heap Gd.out)).trans Gd.out)
    clear hb
    have cGn := cell_row Gn.out
    have cGd := cell_row Gd.out
    go_wp2_with fail
    refine (SM.out _).mono ?_
    rintro e w5 ⟨rfl, hb⟩
    clear cGn cGd
    replace HB := Lib.hid (below_then HB.out hb)
    replace KL := Lib.hid (KL.out.older hb)
    replace Gn := Lib.hid ((hb.block _ (lt_of_heap Gn.out)).trans Gn.out)
    replace Gd := Lib.hid ((hb.block _ (lt_of_heap Gd.out)).trans Gd.out)
    clear hb
    have cGn := cell_row Gn.out
    have cGd := cell_row Gd.out
    go_wp2_with fail
    refine (SA.out _ KL.out).mono ?_
    rintro e w6 ⟨rfl, hb⟩
    clear cGn cGd
    replace HB := Lib.hid (below_then HB.out hb)
    replace KL := Lib.hid (KL.out.older hb)
    replace Gn := Lib.hid ((hb.block _ (lt_of_heap Gn.out)).trans Gn.out)
    replace Gd := Lib.hid ((hb.block _ (lt_of_heap Gd.out)).trans Gd.out)
    clear hb
    have cGn := cell_row Gn.out
    have cGd := cell_row Gd.out
    go_wp2
    go_ret
    exact ⟨rfl, HB.out⟩
end Go.Proofs.YtffengboblekpaaDoor
