/- THE WALKS of the laws on srt: quotients and remainders. -/
import Derived.Test.YtffengboblekpaaDoorSrtc
import Derived.Test.YtffengboblekpaaDoorSrte
import Derived.Test.YtffengboblekpaaDoorLaw11
namespace Go.Proofs.YtffengboblekpaaDoor
open Go Go.RowKit

attribute [local go_sem ↓] Go.wp_at_zero Go.wp_at_succ
theorem digitsT_len (n d : Nat) (hn : n < M) (hd : d < M) (hm : mayN n d = 0) (w : World) (hL : Laid w) :
    Calls Tryd.prog 26 #[wv n, wv d] w fun e w' => ∃ a cap, e = .returned (.tuple #[.slice a 65 cap, .int .i64 0]) ∧ Below w.heap.size w w' := by
  refine (digitsT_yes n d hn hd hm w hL).mono ?_
  rintro e w' ⟨v, rfl, ⟨a, cap, rfl, _⟩, hb⟩
  rw [sDigs_len]
  exact ⟨a, cap, rfl, hb⟩
set_option maxRecDepth 100000 in
set_option maxHeartbeats 1000000 in
theorem awake15_any (w : World) (hL : Laid w) : Calls Tryd.prog 25 #[] w fun e w' => e = .returned (.bool true) ∧ Below w.heap.size w w' := by
  have hm : mayN 100 7 = 0 := may_yes (by decide) (Nat.lt_of_lt_of_le (show 7 < P2 64 by rw [P2_64]; decide) (P2_le (by omega))) (by
    have : P2 64 ≤ P2 128 := P2_le (by omega)
    rw [P2_64] at this
    omega)
  obtain ⟨e1, e2⟩ := dv_yes hm
  have S1 := Lib.hid (fun w' h => divideT_w 100 7 (lit_ltM _ (by decide)) (lit_ltM _ (by decide)) w' h)
  rw [e1, e2, hm] at S1
  have S2 := Lib.hid (fun w' h => digitsT_len 100 7 (lit_ltM _ (by decide)) (lit_ltM _ (by decide)) hm w' h)
  have E100 : (#[.int .u64 100, .int .u64 0, .int .u64 0, .int .u64 0, .int .u64 0, .int .u64 0, .int .u64 0, .int .u64 0] : Array Value) = wcells 100 := lit_cells 100 (by decide)
  have E7 : (#[.int .u64 7, .int .u64 0, .int .u64 0, .int .u64 0, .int .u64 0, .int .u64 0, .int .u64 0, .int .u64 0] : Array Value) = wcells 7 := lit_cells 7 (by decide)
  have E14 : (#[.int .u64 14, .int .u64 0, .int .u64 0, .int .u64 0, .int .u64 0, .int .u64 0, .int .u64 0, .int .u64 0] : Array Value) = wcells 14 := lit_cells 14 (by decide)
  have E2 : (#[.int .u64 2, .int .u64 0, .int .u64 0, .int .u64 0, .int .u64 0, .int .u64 0, .int .u64 0, .int .u64 0] : Array Value) = wcells 2 := lit_cells 2 (by decide)
  have KL := Lib.hid hL
  clear e1 e2 hm hL
  go_enter Tryd.func25, Tryd.ntmps25
  have HB := Lib.hid (Below.refl w.heap.size w)
  go_wp2_with fail
  refine (S1.out _ KL.out).mono ?_
  rintro e w1 ⟨rfl, hb⟩
  replace HB := Lib.hid (below_then HB.out hb)
  replace KL := Lib.hid (KL.out.older hb)
  clear hb
  replace KL := Lib.hid (KL.out.older (below_al (Below.refl (w1).heap.size (w1)) (.cells (wcells 14) 24)))
  have Gq := Lib.hid (alloc_new (w1) (.cells (wcells 14) 24))
  replace HB := Lib.hid (below_al HB.out (.cells (wcells 14) 24))
  replace KL := Lib.hid (KL.out.older (below_al (Below.refl ((w1).alloc (.cells (wcells 14) 24)).heap.size ((w1).alloc (.cells (wcells 14) 24))) (.cells (wcells 2) 24)))
  replace Gq := Lib.hid (keepAl (o' := .cells (wcells 2) 24) Gq.out)
  have Gr := Lib.hid (alloc_new' (w := (w1).alloc (.cells (wcells 14) 24)) (n := w1.heap.size + 1) (.cells (wcells 2) 24) (by simp))
  replace HB := Lib.hid (below_al HB.out (.cells (wcells 2) 24))
  have cGq := cell_row Gq.out
  have cGr := cell_row Gr.out
  go_wp2_with fail
  refine (S2.out _ KL.out).mono ?_
  rintro e w2 ⟨la, lc, rfl, hb⟩
  clear cGq cGr
  replace HB := Lib.hid (below_then HB.out hb)
  replace KL := Lib.hid (KL.out.older hb)
  replace Gq := Lib.hid ((hb.block _ (lt_of_heap Gq.out)).trans Gq.out)
  replace Gr := Lib.hid ((hb.block _ (lt_of_heap Gr.out)).trans Gr.out)
  clear hb
  have cGq := cell_row Gq.out
  have cGr := cell_row Gr.out
  go_wp2
  go_ret
  exact ⟨rfl, HB.out⟩
set_option maxRecDepth 100000 in
set_option maxHeartbeats 1000000 in
theorem srtDivides_any (n d : Nat) (w : World) (hn : n < M) (hd : d < M) (hL : Laid w) :
    Calls Tryd.prog 5 #[wv n, wv d] w fun e w' => e = .returned (.bool true) ∧ Below w.heap.size w w' := by
  have S1 := Lib.hid (fun w' h => divideT_w n d hn hd w' h)
  have S2 := Lib.hid (fun w' => holds11_any n d w' hn hd)
  have SA := Lib.hid (fun w' h => awake15_any w' h)
  obtain ⟨Q, hQ⟩ : ∃ S, S = dvQ n d := ⟨_, rfl⟩
  obtain ⟨R, hR⟩ : ∃ S, S = dvR n d := ⟨_, rfl⟩
  obtain ⟨E, hE⟩ : ∃ S, S = mayN n d := ⟨_, rfl⟩
  rw [← hQ, ← hR, ← hE] at S1 S2
  have KL := Lib.hid hL
  clear hn hd hQ hR hE hL
  go_enter Tryd.func5, Tryd.ntmps5
  have HB := Lib.hid (Below.refl w.heap.size w)
  replace KL := Lib.hid (KL.out.older (below_al (Below.refl (w).heap.size (w)) (.cells (wcells n) 24)))
  have Gn := Lib.hid (alloc_new (w) (.cells (wcells n) 24))
  replace HB := Lib.hid (below_al HB.out (.cells (wcells n) 24))
  replace KL := Lib.hid (KL.out.older (below_al (Below.refl ((w).alloc (.cells (wcells n) 24)).heap.size ((w).alloc (.cells (wcells n) 24))) (.cells (wcells d) 24)))
  replace Gn := Lib.hid (keepAl (o' := .cells (wcells d) 24) Gn.out)
  have Gd := Lib.hid (alloc_new' (w := (w).alloc (.cells (wcells n) 24)) (n := w.heap.size + 1) (.cells (wcells d) 24) (by simp))
  replace HB := Lib.hid (below_al HB.out (.cells (wcells d) 24))
  have cGn := cell_row Gn.out
  have cGd := cell_row Gd.out
  go_wp2_with fail
  refine (S1.out _ KL.out).mono ?_
  rintro e w3 ⟨rfl, hb⟩
  clear cGn cGd
  replace HB := Lib.hid (below_then HB.out hb)
  replace KL := Lib.hid (KL.out.older hb)
  replace Gn := Lib.hid ((hb.block _ (lt_of_heap Gn.out)).trans Gn.out)
  replace Gd := Lib.hid ((hb.block _ (lt_of_heap Gd.out)).trans Gd.out)
  clear hb
  replace KL := Lib.hid (KL.out.older (below_al (Below.refl (w3).heap.size (w3)) (.cells (wcells Q) 24)))
  replace Gn := Lib.hid (keepAl (o' := .cells (wcells Q) 24) Gn.out)
  replace Gd := Lib.hid (keepAl (o' := .cells (wcells Q) 24) Gd.out)
  have Gq := Lib.hid (alloc_new (w3) (.cells (wcells Q) 24))
  replace HB := Lib.hid (below_al HB.out (.cells (wcells Q) 24))
  replace KL := Lib.hid (KL.out.older (below_al (Below.refl ((w3).alloc (.cells (wcells Q) 24)).heap.size ((w3).alloc (.cells (wcells Q) 24))) (.cells (wcells R) 24)))
  replace Gn := Lib.hid (keepAl (o' := .cells (wcells R) 24) Gn.out)
  replace Gd := Lib.hid (keepAl (o' := .cells (wcells R) 24) Gd.out)
  replace Gq := Lib.hid (keepAl (o' := .cells (wcells R) 24) Gq.out)
  have Gr := Lib.hid (alloc_new' (w := (w3).alloc (.cells (wcells Q) 24)) (n := w3.heap.size + 1) (.cells (wcells R) 24) (by simp))
  replace HB := Lib.hid (below_al HB.out (.cells (wcells R) 24))
  have cGn := cell_row Gn.out
  have cGd := cell_row Gd.out
  have cGq := cell_row Gq.out
  have cGr := cell_row Gr.out
  go_wp2_with fail
  refine (S2.out _).mono ?_
  rintro e w4 ⟨rfl, hb⟩
  clear cGn cGd cGq cGr
  replace HB := Lib.hid (below_then HB.out hb)
  replace KL := Lib.hid (KL.out.older hb)
  replace Gn := Lib.hid ((hb.block _ (lt_of_heap Gn.out)).trans Gn.out)
  replace Gd := Lib.hid ((hb.block _ (lt_of_heap Gd.out)).trans Gd.out)
  replace Gq := Lib.hid ((hb.block _ (lt_of_heap Gq.out)).trans Gq.out)
  replace Gr := Lib.hid ((hb.block _ (lt_of_heap Gr.out)).trans Gr.out)
  clear hb
  have cGn := cell_row Gn.out
  have cGd := cell_row Gd.out
  have cGq := cell_row Gq.out
  have cGr := cell_row Gr.out
  go_wp2_with fail
  refine (SA.out _ KL.out).mono ?_
  rintro e w5 ⟨rfl, hb⟩
  clear cGn cGd cGq cGr
  replace HB := Lib.hid (below_then HB.out hb)
  replace KL := Lib.hid (KL.out.older hb)
  replace Gn := Lib.hid ((hb.block _ (lt_of_heap Gn.out)).trans Gn.out)
  replace Gd := Lib.hid ((hb.block _ (lt_of_heap Gd.out)).trans Gd.out)
  replace Gq := Lib.hid ((hb.block _ (lt_of_heap Gq.out)).trans Gq.out)
  replace Gr := Lib.hid ((hb.block _ (lt_of_heap Gr.out)).trans Gr.out)
  clear hb
  have cGn := cell_row Gn.out
  have cGd := cell_row Gd.out
  have cGq := cell_row Gq.out
  have cGr := cell_row Gr.out
  go_wp2
  go_ret
  exact ⟨rfl, HB.out⟩
end Go.Proofs.YtffengboblekpaaDoor
