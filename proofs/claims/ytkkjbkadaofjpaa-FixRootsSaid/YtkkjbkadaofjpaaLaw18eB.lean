/- THE WALKS of the law on roots by a guess, way by way. -/
import Derived.Test.YtkkjbkadaofjpaaLaw18b
import Derived.Test.YtkkjbkadaofjpaaFixc
import Derived.Test.YtkkjbkadaofjpaaRt2c
namespace Go.Proofs.Ytkkjbkadaofjpaa
open Go Go.RowKit

attribute [local go_sem ↓] Go.wp_at_zero Go.wp_at_succ
set_option maxRecDepth 100000 in
set_option maxHeartbeats 2000000 in
theorem fr_B_T1a (n a : Nat) (b m : Int) (w : World) (hn : n < M) (hb1 : -128 ≤ b) (hb2 : b ≤ 127) (hc : n < P2 256) (hm : m < 0) (hS : ∀ w' : World, Calls Try.prog 54 #[wv n, wv (bentN (rtN 2 n) b), .int .i64 m] w' fun e w'' => e = .returned (.tuple #[wv 0, wv 0, .int .i64 0, .int .i64 1]) ∧ Below w'.heap.size w' w'') :
    Calls Try.prog 10 #[wv n, .agg (gcells a false b m)] w fun e w' => e = .returned (.bool true) ∧ Below w.heap.size w w' := by
  have SQ := Lib.hid hS
  have SA := Lib.hid (fun w' => awake18_any w')
  have SM := Lib.hid (fun w' => rmayR_any n hn w')
  rw [decide_eq_true hc] at SM
  have SD := Lib.hid (fun w' => rroot_any n 2 w' hc (Or.inl rfl))
  have hqM : rtN 2 n < M := Nat.lt_trans (rt_lt hc) (by rw [M_eq]; exact P2_lt (by omega))
  have SB := Lib.hid (fun w' => bent_w (rtN 2 n) b hqM hb1 hb2 w')
  have hGM := bentN_lt hqM b
  obtain ⟨G, hG⟩ : ∃ G, G = bentN (rtN 2 n) b := ⟨_, rfl⟩
  rw [← hG] at SQ SB hGM
  rw [sqr] at SD
  obtain ⟨q, hq⟩ : ∃ q, q = rtN 2 n := ⟨_, rfl⟩
  obtain ⟨r, hr⟩ : ∃ r, r = n - rtN 2 n * rtN 2 n := ⟨_, rfl⟩
  rw [← hr, ← hq] at SD
  rw [← hq] at SB
  clear hn hS hc hqM hb1 hb2 hGM hG hq hr
  go_enter Try.func10, Try.ntmps10
  have HB := Lib.hid (Below.refl w.heap.size w)
  have Gn := Lib.hid (alloc_new (w) (.cells (wcells n) 31))
  replace HB := Lib.hid (below_al HB.out (.cells (wcells n) 31))
  replace Gn := Lib.hid (keepAl (o' := .cells (gcells a false b m) 63) Gn.out)
  have Gz := Lib.hid (alloc_new' (w := (w).alloc (.cells (wcells n) 31)) (n := w.heap.size + 1) (.cells (gcells a false b m) 63) (by simp))
  replace HB := Lib.hid (below_al HB.out (.cells (gcells a false b m) 63))
  go_upto_region 1 with fail
  obtain ⟨wL, hw⟩ : ∃ wx, wx = ((w).alloc (.cells (wcells n) 31)).alloc (.cells (gcells a false b m) 63) := ⟨_, rfl⟩
  rw [← hw] at Gn Gz HB ⊢
  clear hw
  have cz := cell_row Gz.out
  have hz0 := lt_of_heap Gz.out
  replace Gn := Lib.hid (keepAl (o' := .cells (wcells a) 31) Gn.out)
  replace Gz := Lib.hid (keepAl (o' := .cells (wcells a) 31) Gz.out)
  have Gg := Lib.hid (alloc_new (wL) (.cells (wcells a) 31))
  replace HB := Lib.hid (below_al HB.out (.cells (wcells a) 31))
  have cGn := cell_row Gn.out
  have cGz := cell_row Gz.out
  have cGg := cell_row Gg.out
  go_wp2_with fail
  refine (SM.out _).mono ?_
  rintro e w1 ⟨rfl, hb⟩
  clear cGn cGz cGg
  replace HB := Lib.hid (below_then HB.out hb)
  replace Gn := Lib.hid ((hb.block _ (lt_of_heap Gn.out)).trans Gn.out)
  replace Gz := Lib.hid ((hb.block _ (lt_of_heap Gz.out)).trans Gz.out)
  replace Gg := Lib.hid ((hb.block _ (lt_of_heap Gg.out)).trans Gg.out)
  clear hb
  clear cz
  have cGn := cell_row Gn.out
  have cGz := cell_row Gz.out
  have cGg := cell_row Gg.out
  go_wp2_with fail
  refine (SD.out _).mono ?_
  rintro e w2 ⟨rfl, hb⟩
  clear cGn cGz cGg
  replace HB := Lib.hid (below_then HB.out hb)
  replace Gn := Lib.hid ((hb.block _ (lt_of_heap Gn.out)).trans Gn.out)
  replace Gz := Lib.hid ((hb.block _ (lt_of_heap Gz.out)).trans Gz.out)
  replace Gg := Lib.hid ((hb.block _ (lt_of_heap Gg.out)).trans Gg.out)
  clear hb
  replace Gn := Lib.hid (keepAl (o' := .cells (wcells q) 31) Gn.out)
  replace Gz := Lib.hid (keepAl (o' := .cells (wcells q) 31) Gz.out)
  replace Gg := Lib.hid (keepAl (o' := .cells (wcells q) 31) Gg.out)
  have Gq := Lib.hid (alloc_new (w2) (.cells (wcells q) 31))
  replace HB := Lib.hid (below_al HB.out (.cells (wcells q) 31))
  replace Gn := Lib.hid (keepAl (o' := .cells (wcells r) 31) Gn.out)
  replace Gz := Lib.hid (keepAl (o' := .cells (wcells r) 31) Gz.out)
  replace Gg := Lib.hid (keepAl (o' := .cells (wcells r) 31) Gg.out)
  replace Gq := Lib.hid (keepAl (o' := .cells (wcells r) 31) Gq.out)
  have Gr := Lib.hid (alloc_new' (w := (w2).alloc (.cells (wcells q) 31)) (n := w2.heap.size + 1) (.cells (wcells r) 31) (by simp))
  replace HB := Lib.hid (below_al HB.out (.cells (wcells r) 31))
  have cGn := cell_row Gn.out
  have cGz := cell_row Gz.out
  have cGg := cell_row Gg.out
  have cGq := cell_row Gq.out
  have cGr := cell_row Gr.out
  go_wp2_with fail
  refine (SB.out _).mono ?_
  rintro e w3 ⟨rfl, hb⟩
  clear cGn cGz cGg cGq cGr
  replace HB := Lib.hid (below_then HB.out hb)
  replace Gn := Lib.hid ((hb.block _ (lt_of_heap Gn.out)).trans Gn.out)
  replace Gz := Lib.hid ((hb.block _ (lt_of_heap Gz.out)).trans Gz.out)
  replace Gg := Lib.hid ((hb.block _ (lt_of_heap Gg.out)).trans Gg.out)
  replace Gq := Lib.hid ((hb.block _ (lt_of_heap Gq.out)).trans Gq.out)
  replace Gr := Lib.hid ((hb.block _ (lt_of_heap Gr.out)).trans Gr.out)
  clear hb
  have stg := st_row (P := Try.prog) Gg.out rfl (G)
  replace Gn := Lib.hid ((setRow_other (w3) (wL.heap.size) _ (wcells (G)) (by (omega))).trans Gn.out)
  replace Gz := Lib.hid ((setRow_other (w3) (wL.heap.size) _ (wcells (G)) (by (omega))).trans Gz.out)
  replace Gg := Lib.hid (setRow_heap (w3) (wL.heap.size) _ (wcells (G)) _ _ Gg.out)
  replace HB := Lib.hid (below_setRow' HB.out (show _ ≤ wL.heap.size by (omega)) (wcells (G)))
  have cGn := cell_row Gn.out
  have cGz := cell_row Gz.out
  have cGg := cell_row Gg.out
  go_wp2_with fail
  refine (SQ.out _).mono ?_
  rintro e w4 ⟨rfl, hb⟩
  clear cGn cGz cGg stg
  replace HB := Lib.hid (below_then HB.out hb)
  replace Gn := Lib.hid ((hb.block _ (lt_of_heap Gn.out)).trans Gn.out)
  replace Gz := Lib.hid ((hb.block _ (lt_of_heap Gz.out)).trans Gz.out)
  replace Gg := Lib.hid ((hb.block _ (lt_of_heap Gg.out)).trans Gg.out)
  clear hb
  replace Gn := Lib.hid (keepAl (o' := .cells (wcells 0) 31) Gn.out)
  replace Gz := Lib.hid (keepAl (o' := .cells (wcells 0) 31) Gz.out)
  replace Gg := Lib.hid (keepAl (o' := .cells (wcells 0) 31) Gg.out)
  have Gx := Lib.hid (alloc_new (w4) (.cells (wcells 0) 31))
  replace HB := Lib.hid (below_al HB.out (.cells (wcells 0) 31))
  replace Gn := Lib.hid (keepAl (o' := .cells (wcells 0) 31) Gn.out)
  replace Gz := Lib.hid (keepAl (o' := .cells (wcells 0) 31) Gz.out)
  replace Gg := Lib.hid (keepAl (o' := .cells (wcells 0) 31) Gg.out)
  replace Gx := Lib.hid (keepAl (o' := .cells (wcells 0) 31) Gx.out)
  have Gy := Lib.hid (alloc_new' (w := (w4).alloc (.cells (wcells 0) 31)) (n := w4.heap.size + 1) (.cells (wcells 0) 31) (by simp))
  replace HB := Lib.hid (below_al HB.out (.cells (wcells 0) 31))
  have cGn := cell_row Gn.out
  have cGz := cell_row Gz.out
  have cGg := cell_row Gg.out
  have cGx := cell_row Gx.out
  have cGy := cell_row Gy.out
  go_wp2_with fail
  refine (SA.out _).mono ?_
  rintro e w5 ⟨rfl, hb⟩
  clear cGn cGz cGg cGx cGy
  replace HB := Lib.hid (below_then HB.out hb)
  replace Gn := Lib.hid ((hb.block _ (lt_of_heap Gn.out)).trans Gn.out)
  replace Gz := Lib.hid ((hb.block _ (lt_of_heap Gz.out)).trans Gz.out)
  replace Gg := Lib.hid ((hb.block _ (lt_of_heap Gg.out)).trans Gg.out)
  replace Gx := Lib.hid ((hb.block _ (lt_of_heap Gx.out)).trans Gx.out)
  replace Gy := Lib.hid ((hb.block _ (lt_of_heap Gy.out)).trans Gy.out)
  clear hb
  have cGn := cell_row Gn.out
  have cGz := cell_row Gz.out
  have cGg := cell_row Gg.out
  have cGx := cell_row Gx.out
  have cGy := cell_row Gy.out
  go_wp2
  go_ret
  exact ⟨rfl, HB.out⟩
set_option maxRecDepth 100000 in
set_option maxHeartbeats 2000000 in
theorem fr_B_T1b (n a : Nat) (b m : Int) (w : World) (hn : n < M) (hb1 : -128 ≤ b) (hb2 : b ≤ 127) (hc : n < P2 256) (hm : 100 < m) (hS : ∀ w' : World, Calls Try.prog 54 #[wv n, wv (bentN (rtN 2 n) b), .int .i64 m] w' fun e w'' => e = .returned (.tuple #[wv 0, wv 0, .int .i64 0, .int .i64 1]) ∧ Below w'.heap.size w' w'') :
    Calls Try.prog 10 #[wv n, .agg (gcells a false b m)] w fun e w' => e = .returned (.bool true) ∧ Below w.heap.size w w' := by
  have SQ := Lib.hid hS
  have SA := Lib.hid (fun w' => awake18_any w')
  have SM := Lib.hid (fun w' => rmayR_any n hn w')
  rw [decide_eq_true hc] at SM
  have hm0 : ¬ m < 0 := by omega
  have SD := Lib.hid (fun w' => rroot_any n 2 w' hc (Or.inl rfl))
  have hqM : rtN 2 n < M := Nat.lt_trans (rt_lt hc) (by rw [M_eq]; exact P2_lt (by omega))
  have SB := Lib.hid (fun w' => bent_w (rtN 2 n) b hqM hb1 hb2 w')
  have hGM := bentN_lt hqM b
  obtain ⟨G, hG⟩ : ∃ G, G = bentN (rtN 2 n) b := ⟨_, rfl⟩
  rw [← hG] at SQ SB hGM
  rw [sqr] at SD
  obtain ⟨q, hq⟩ : ∃ q, q = rtN 2 n := ⟨_, rfl⟩
  obtain ⟨r, hr⟩ : ∃ r, r = n - rtN 2 n * rtN 2 n := ⟨_, rfl⟩
  rw [← hr, ← hq] at SD
  rw [← hq] at SB
  clear hn hS hc hqM hb1 hb2 hGM hG hq hr
  go_enter Try.func10, Try.ntmps10
  have HB := Lib.hid (Below.refl w.heap.size w)
  have Gn := Lib.hid (alloc_new (w) (.cells (wcells n) 31))
  replace HB := Lib.hid (below_al HB.out (.cells (wcells n) 31))
  replace Gn := Lib.hid (keepAl (o' := .cells (gcells a false b m) 63) Gn.out)
  have Gz := Lib.hid (alloc_new' (w := (w).alloc (.cells (wcells n) 31)) (n := w.heap.size + 1) (.cells (gcells a false b m) 63) (by simp))
  replace HB := Lib.hid (below_al HB.out (.cells (gcells a false b m) 63))
  go_upto_region 1 with fail
  obtain ⟨wL, hw⟩ : ∃ wx, wx = ((w).alloc (.cells (wcells n) 31)).alloc (.cells (gcells a false b m) 63) := ⟨_, rfl⟩
  rw [← hw] at Gn Gz HB ⊢
  clear hw
  have cz := cell_row Gz.out
  have hz0 := lt_of_heap Gz.out
  replace Gn := Lib.hid (keepAl (o' := .cells (wcells a) 31) Gn.out)
  replace Gz := Lib.hid (keepAl (o' := .cells (wcells a) 31) Gz.out)
  have Gg := Lib.hid (alloc_new (wL) (.cells (wcells a) 31))
  replace HB := Lib.hid (below_al HB.out (.cells (wcells a) 31))
  have cGn := cell_row Gn.out
  have cGz := cell_row Gz.out
  have cGg := cell_row Gg.out
  go_wp2_with fail
  refine (SM.out _).mono ?_
  rintro e w6 ⟨rfl, hb⟩
  clear cGn cGz cGg
  replace HB := Lib.hid (below_then HB.out hb)
  replace Gn := Lib.hid ((hb.block _ (lt_of_heap Gn.out)).trans Gn.out)
  replace Gz := Lib.hid ((hb.block _ (lt_of_heap Gz.out)).trans Gz.out)
  replace Gg := Lib.hid ((hb.block _ (lt_of_heap Gg.out)).trans Gg.out)
  clear hb
  clear cz
  have cGn := cell_row Gn.out
  have cGz := cell_row Gz.out
  have cGg := cell_row Gg.out
  go_wp2_with fail
  refine (SD.out _).mono ?_
  rintro e w7 ⟨rfl, hb⟩
  clear cGn cGz cGg
  replace HB := Lib.hid (below_then HB.out hb)
  replace Gn := Lib.hid ((hb.block _ (lt_of_heap Gn.out)).trans Gn.out)
  replace Gz := Lib.hid ((hb.block _ (lt_of_heap Gz.out)).trans Gz.out)
  replace Gg := Lib.hid ((hb.block _ (lt_of_heap Gg.out)).trans Gg.out)
  clear hb
  replace Gn := Lib.hid (keepAl (o' := .cells (wcells q) 31) Gn.out)
  replace Gz := Lib.hid (keepAl (o' := .cells (wcells q) 31) Gz.out)
  replace Gg := Lib.hid (keepAl (o' := .cells (wcells q) 31) Gg.out)
  have Gq := Lib.hid (alloc_new (w7) (.cells (wcells q) 31))
  replace HB := Lib.hid (below_al HB.out (.cells (wcells q) 31))
  replace Gn := Lib.hid (keepAl (o' := .cells (wcells r) 31) Gn.out)
  replace Gz := Lib.hid (keepAl (o' := .cells (wcells r) 31) Gz.out)
  replace Gg := Lib.hid (keepAl (o' := .cells (wcells r) 31) Gg.out)
  replace Gq := Lib.hid (keepAl (o' := .cells (wcells r) 31) Gq.out)
  have Gr := Lib.hid (alloc_new' (w := (w7).alloc (.cells (wcells q) 31)) (n := w7.heap.size + 1) (.cells (wcells r) 31) (by simp))
  replace HB := Lib.hid (below_al HB.out (.cells (wcells r) 31))
  have cGn := cell_row Gn.out
  have cGz := cell_row Gz.out
  have cGg := cell_row Gg.out
  have cGq := cell_row Gq.out
  have cGr := cell_row Gr.out
  go_wp2_with fail
  refine (SB.out _).mono ?_
  rintro e w8 ⟨rfl, hb⟩
  clear cGn cGz cGg cGq cGr
  replace HB := Lib.hid (below_then HB.out hb)
  replace Gn := Lib.hid ((hb.block _ (lt_of_heap Gn.out)).trans Gn.out)
  replace Gz := Lib.hid ((hb.block _ (lt_of_heap Gz.out)).trans Gz.out)
  replace Gg := Lib.hid ((hb.block _ (lt_of_heap Gg.out)).trans Gg.out)
  replace Gq := Lib.hid ((hb.block _ (lt_of_heap Gq.out)).trans Gq.out)
  replace Gr := Lib.hid ((hb.block _ (lt_of_heap Gr.out)).trans Gr.out)
  clear hb
  have stg := st_row (P := Try.prog) Gg.out rfl (G)
  replace Gn := Lib.hid ((setRow_other (w8) (wL.heap.size) _ (wcells (G)) (by (omega))).trans Gn.out)
  replace Gz := Lib.hid ((setRow_other (w8) (wL.heap.size) _ (wcells (G)) (by (omega))).trans Gz.out)
  replace Gg := Lib.hid (setRow_heap (w8) (wL.heap.size) _ (wcells (G)) _ _ Gg.out)
  replace HB := Lib.hid (below_setRow' HB.out (show _ ≤ wL.heap.size by (omega)) (wcells (G)))
  have cGn := cell_row Gn.out
  have cGz := cell_row Gz.out
  have cGg := cell_row Gg.out
  go_wp2_with fail
  refine (SQ.out _).mono ?_
  rintro e w9 ⟨rfl, hb⟩
  clear cGn cGz cGg stg
  replace HB := Lib.hid (below_then HB.out hb)
  replace Gn := Lib.hid ((hb.block _ (lt_of_heap Gn.out)).trans Gn.out)
  replace Gz := Lib.hid ((hb.block _ (lt_of_heap Gz.out)).trans Gz.out)
  replace Gg := Lib.hid ((hb.block _ (lt_of_heap Gg.out)).trans Gg.out)
  clear hb
  replace Gn := Lib.hid (keepAl (o' := .cells (wcells 0) 31) Gn.out)
  replace Gz := Lib.hid (keepAl (o' := .cells (wcells 0) 31) Gz.out)
  replace Gg := Lib.hid (keepAl (o' := .cells (wcells 0) 31) Gg.out)
  have Gx := Lib.hid (alloc_new (w9) (.cells (wcells 0) 31))
  replace HB := Lib.hid (below_al HB.out (.cells (wcells 0) 31))
  replace Gn := Lib.hid (keepAl (o' := .cells (wcells 0) 31) Gn.out)
  replace Gz := Lib.hid (keepAl (o' := .cells (wcells 0) 31) Gz.out)
  replace Gg := Lib.hid (keepAl (o' := .cells (wcells 0) 31) Gg.out)
  replace Gx := Lib.hid (keepAl (o' := .cells (wcells 0) 31) Gx.out)
  have Gy := Lib.hid (alloc_new' (w := (w9).alloc (.cells (wcells 0) 31)) (n := w9.heap.size + 1) (.cells (wcells 0) 31) (by simp))
  replace HB := Lib.hid (below_al HB.out (.cells (wcells 0) 31))
  have cGn := cell_row Gn.out
  have cGz := cell_row Gz.out
  have cGg := cell_row Gg.out
  have cGx := cell_row Gx.out
  have cGy := cell_row Gy.out
  go_wp2_with fail
  refine (SA.out _).mono ?_
  rintro e w10 ⟨rfl, hb⟩
  clear cGn cGz cGg cGx cGy
  replace HB := Lib.hid (below_then HB.out hb)
  replace Gn := Lib.hid ((hb.block _ (lt_of_heap Gn.out)).trans Gn.out)
  replace Gz := Lib.hid ((hb.block _ (lt_of_heap Gz.out)).trans Gz.out)
  replace Gg := Lib.hid ((hb.block _ (lt_of_heap Gg.out)).trans Gg.out)
  replace Gx := Lib.hid ((hb.block _ (lt_of_heap Gx.out)).trans Gx.out)
  replace Gy := Lib.hid ((hb.block _ (lt_of_heap Gy.out)).trans Gy.out)
  clear hb
  have cGn := cell_row Gn.out
  have cGz := cell_row Gz.out
  have cGg := cell_row Gg.out
  have cGx := cell_row Gx.out
  have cGy := cell_row Gy.out
  go_wp2
  go_ret
  exact ⟨rfl, HB.out⟩
set_option maxRecDepth 100000 in
set_option maxHeartbeats 2000000 in
theorem fr_B_T3 (n a : Nat) (b m : Int) (w : World) (hn : n < M) (hb1 : -128 ≤ b) (hb2 : b ≤ 127) (hc : n < P2 256) (hm0 : 0 ≤ m) (hm1 : m ≤ 100) (hl : 200 < blen (bentN (rtN 2 n) b)) (hS : ∀ w' : World, Calls Try.prog 54 #[wv n, wv (bentN (rtN 2 n) b), .int .i64 m] w' fun e w'' => e = .returned (.tuple #[wv 0, wv 0, .int .i64 0, .int .i64 4]) ∧ Below w'.heap.size w' w'') :
    Calls Try.prog 10 #[wv n, .agg (gcells a false b m)] w fun e w' => e = .returned (.bool true) ∧ Below w.heap.size w w' := by
  have SQ := Lib.hid hS
  have SA := Lib.hid (fun w' => awake18_any w')
  have SM := Lib.hid (fun w' => rmayR_any n hn w')
  rw [decide_eq_true hc] at SM
  have hmn : ¬ m < 0 := by omega
  have hmh : ¬ 100 < m := by omega
  have SD := Lib.hid (fun w' => rroot_any n 2 w' hc (Or.inl rfl))
  have hqM : rtN 2 n < M := Nat.lt_trans (rt_lt hc) (by rw [M_eq]; exact P2_lt (by omega))
  have SB := Lib.hid (fun w' => bent_w (rtN 2 n) b hqM hb1 hb2 w')
  have hGM := bentN_lt hqM b
  obtain ⟨G, hG⟩ : ∃ G, G = bentN (rtN 2 n) b := ⟨_, rfl⟩
  rw [← hG] at SQ SB hGM hl
  have S13 := Lib.hid (fun w' => big_any G hGM w')
  have S14 := Lib.hid (fun v w' h => rlen_any v G w' (small_M hGM) h)
  obtain ⟨l, hle⟩ : ∃ l, l = blen G := ⟨_, rfl⟩
  rw [← hle] at S14 hl
  have hli : (200 : Int) < (l : Int) := by omega
  rw [sqr] at SD
  obtain ⟨q, hq⟩ : ∃ q, q = rtN 2 n := ⟨_, rfl⟩
  obtain ⟨r, hr⟩ : ∃ r, r = n - rtN 2 n * rtN 2 n := ⟨_, rfl⟩
  rw [← hr, ← hq] at SD
  rw [← hq] at SB
  clear hn hS hc hqM hb1 hb2 hGM hG hle hl hq hr hm0 hm1
  go_enter Try.func10, Try.ntmps10
  have HB := Lib.hid (Below.refl w.heap.size w)
  have Gn := Lib.hid (alloc_new (w) (.cells (wcells n) 31))
  replace HB := Lib.hid (below_al HB.out (.cells (wcells n) 31))
  replace Gn := Lib.hid (keepAl (o' := .cells (gcells a false b m) 63) Gn.out)
  have Gz := Lib.hid (alloc_new' (w := (w).alloc (.cells (wcells n) 31)) (n := w.heap.size + 1) (.cells (gcells a false b m) 63) (by simp))
  replace HB := Lib.hid (below_al HB.out (.cells (gcells a false b m) 63))
  go_upto_region 1 with fail
  obtain ⟨wL, hw⟩ : ∃ wx, wx = ((w).alloc (.cells (wcells n) 31)).alloc (.cells (gcells a false b m) 63) := ⟨_, rfl⟩
  rw [← hw] at Gn Gz HB ⊢
  clear hw
  have cz := cell_row Gz.out
  have hz0 := lt_of_heap Gz.out
  replace Gn := Lib.hid (keepAl (o' := .cells (wcells a) 31) Gn.out)
  replace Gz := Lib.hid (keepAl (o' := .cells (wcells a) 31) Gz.out)
  have Gg := Lib.hid (alloc_new (wL) (.cells (wcells a) 31))
  replace HB := Lib.hid (below_al HB.out (.cells (wcells a) 31))
  have cGn := cell_row Gn.out
  have cGz := cell_row Gz.out
  have cGg := cell_row Gg.out
  go_wp2_with fail
  refine (SM.out _).mono ?_
  rintro e w11 ⟨rfl, hb⟩
  clear cGn cGz cGg
  replace HB := Lib.hid (below_then HB.out hb)
  replace Gn := Lib.hid ((hb.block _ (lt_of_heap Gn.out)).trans Gn.out)
  replace Gz := Lib.hid ((hb.block _ (lt_of_heap Gz.out)).trans Gz.out)
  replace Gg := Lib.hid ((hb.block _ (lt_of_heap Gg.out)).trans Gg.out)
  clear hb
  clear cz
  have cGn := cell_row Gn.out
  have cGz := cell_row Gz.out
  have cGg := cell_row Gg.out
  go_wp2_with fail
  refine (SD.out _).mono ?_
  rintro e w12 ⟨rfl, hb⟩
  clear cGn cGz cGg
  replace HB := Lib.hid (below_then HB.out hb)
  replace Gn := Lib.hid ((hb.block _ (lt_of_heap Gn.out)).trans Gn.out)
  replace Gz := Lib.hid ((hb.block _ (lt_of_heap Gz.out)).trans Gz.out)
  replace Gg := Lib.hid ((hb.block _ (lt_of_heap Gg.out)).trans Gg.out)
  clear hb
  replace Gn := Lib.hid (keepAl (o' := .cells (wcells q) 31) Gn.out)
  replace Gz := Lib.hid (keepAl (o' := .cells (wcells q) 31) Gz.out)
  replace Gg := Lib.hid (keepAl (o' := .cells (wcells q) 31) Gg.out)
  have Gq := Lib.hid (alloc_new (w12) (.cells (wcells q) 31))
  replace HB := Lib.hid (below_al HB.out (.cells (wcells q) 31))
  replace Gn := Lib.hid (keepAl (o' := .cells (wcells r) 31) Gn.out)
  replace Gz := Lib.hid (keepAl (o' := .cells (wcells r) 31) Gz.out)
  replace Gg := Lib.hid (keepAl (o' := .cells (wcells r) 31) Gg.out)
  replace Gq := Lib.hid (keepAl (o' := .cells (wcells r) 31) Gq.out)
  have Gr := Lib.hid (alloc_new' (w := (w12).alloc (.cells (wcells q) 31)) (n := w12.heap.size + 1) (.cells (wcells r) 31) (by simp))
  replace HB := Lib.hid (below_al HB.out (.cells (wcells r) 31))
  have cGn := cell_row Gn.out
  have cGz := cell_row Gz.out
  have cGg := cell_row Gg.out
  have cGq := cell_row Gq.out
  have cGr := cell_row Gr.out
  go_wp2_with fail
  refine (SB.out _).mono ?_
  rintro e w13 ⟨rfl, hb⟩
  clear cGn cGz cGg cGq cGr
  replace HB := Lib.hid (below_then HB.out hb)
  replace Gn := Lib.hid ((hb.block _ (lt_of_heap Gn.out)).trans Gn.out)
  replace Gz := Lib.hid ((hb.block _ (lt_of_heap Gz.out)).trans Gz.out)
  replace Gg := Lib.hid ((hb.block _ (lt_of_heap Gg.out)).trans Gg.out)
  replace Gq := Lib.hid ((hb.block _ (lt_of_heap Gq.out)).trans Gq.out)
  replace Gr := Lib.hid ((hb.block _ (lt_of_heap Gr.out)).trans Gr.out)
  clear hb
  have stg := st_row (P := Try.prog) Gg.out rfl (G)
  replace Gn := Lib.hid ((setRow_other (w13) (wL.heap.size) _ (wcells (G)) (by (omega))).trans Gn.out)
  replace Gz := Lib.hid ((setRow_other (w13) (wL.heap.size) _ (wcells (G)) (by (omega))).trans Gz.out)
  replace Gg := Lib.hid (setRow_heap (w13) (wL.heap.size) _ (wcells (G)) _ _ Gg.out)
  replace HB := Lib.hid (below_setRow' HB.out (show _ ≤ wL.heap.size by (omega)) (wcells (G)))
  have cGn := cell_row Gn.out
  have cGz := cell_row Gz.out
  have cGg := cell_row Gg.out
  go_wp2_with fail
  refine (SQ.out _).mono ?_
  rintro e w14 ⟨rfl, hb⟩
  clear cGn cGz cGg stg
  replace HB := Lib.hid (below_then HB.out hb)
  replace Gn := Lib.hid ((hb.block _ (lt_of_heap Gn.out)).trans Gn.out)
  replace Gz := Lib.hid ((hb.block _ (lt_of_heap Gz.out)).trans Gz.out)
  replace Gg := Lib.hid ((hb.block _ (lt_of_heap Gg.out)).trans Gg.out)
  clear hb
  replace Gn := Lib.hid (keepAl (o' := .cells (wcells 0) 31) Gn.out)
  replace Gz := Lib.hid (keepAl (o' := .cells (wcells 0) 31) Gz.out)
  replace Gg := Lib.hid (keepAl (o' := .cells (wcells 0) 31) Gg.out)
  have Gx := Lib.hid (alloc_new (w14) (.cells (wcells 0) 31))
  replace HB := Lib.hid (below_al HB.out (.cells (wcells 0) 31))
  replace Gn := Lib.hid (keepAl (o' := .cells (wcells 0) 31) Gn.out)
  replace Gz := Lib.hid (keepAl (o' := .cells (wcells 0) 31) Gz.out)
  replace Gg := Lib.hid (keepAl (o' := .cells (wcells 0) 31) Gg.out)
  replace Gx := Lib.hid (keepAl (o' := .cells (wcells 0) 31) Gx.out)
  have Gy := Lib.hid (alloc_new' (w := (w14).alloc (.cells (wcells 0) 31)) (n := w14.heap.size + 1) (.cells (wcells 0) 31) (by simp))
  replace HB := Lib.hid (below_al HB.out (.cells (wcells 0) 31))
  have cGn := cell_row Gn.out
  have cGz := cell_row Gz.out
  have cGg := cell_row Gg.out
  have cGx := cell_row Gx.out
  have cGy := cell_row Gy.out
  go_wp2_with fail
  refine (SM.out _).mono ?_
  rintro e w15 ⟨rfl, hb⟩
  clear cGn cGz cGg cGx cGy
  replace HB := Lib.hid (below_then HB.out hb)
  replace Gn := Lib.hid ((hb.block _ (lt_of_heap Gn.out)).trans Gn.out)
  replace Gz := Lib.hid ((hb.block _ (lt_of_heap Gz.out)).trans Gz.out)
  replace Gg := Lib.hid ((hb.block _ (lt_of_heap Gg.out)).trans Gg.out)
  replace Gx := Lib.hid ((hb.block _ (lt_of_heap Gx.out)).trans Gx.out)
  replace Gy := Lib.hid ((hb.block _ (lt_of_heap Gy.out)).trans Gy.out)
  clear hb
  have cGn := cell_row Gn.out
  have cGz := cell_row Gz.out
  have cGg := cell_row Gg.out
  have cGx := cell_row Gx.out
  have cGy := cell_row Gy.out
  go_wp2_with fail
  refine (S13.out _).mono ?_
  rintro e w16 ⟨rG, rfl, hr, hb⟩
  clear cGn cGz cGg cGx cGy
  replace HB := Lib.hid (below_then HB.out hb)
  replace Gn := Lib.hid ((hb.block _ (lt_of_heap Gn.out)).trans Gn.out)
  replace Gz := Lib.hid ((hb.block _ (lt_of_heap Gz.out)).trans Gz.out)
  replace Gg := Lib.hid ((hb.block _ (lt_of_heap Gg.out)).trans Gg.out)
  replace Gx := Lib.hid ((hb.block _ (lt_of_heap Gx.out)).trans Gx.out)
  replace Gy := Lib.hid ((hb.block _ (lt_of_heap Gy.out)).trans Gy.out)
  have RG := Lib.hid hr
  clear hr hb
  have cGn := cell_row Gn.out
  have cGz := cell_row Gz.out
  have cGg := cell_row Gg.out
  have cGx := cell_row Gx.out
  have cGy := cell_row Gy.out
  go_wp2_with fail
  refine (S14.out _ _ RG.out).mono ?_
  rintro e w17 ⟨rfl, hb⟩
  clear cGn cGz cGg cGx cGy
  replace HB := Lib.hid (below_then HB.out hb)
  replace Gn := Lib.hid ((hb.block _ (lt_of_heap Gn.out)).trans Gn.out)
  replace Gz := Lib.hid ((hb.block _ (lt_of_heap Gz.out)).trans Gz.out)
  replace Gg := Lib.hid ((hb.block _ (lt_of_heap Gg.out)).trans Gg.out)
  replace Gx := Lib.hid ((hb.block _ (lt_of_heap Gx.out)).trans Gx.out)
  replace Gy := Lib.hid ((hb.block _ (lt_of_heap Gy.out)).trans Gy.out)
  replace RG := Lib.hid (RG.out.below hb)
  clear hb
  have cGn := cell_row Gn.out
  have cGz := cell_row Gz.out
  have cGg := cell_row Gg.out
  have cGx := cell_row Gx.out
  have cGy := cell_row Gy.out
  go_wp2_with fail
  refine (SA.out _).mono ?_
  rintro e w18 ⟨rfl, hb⟩
  clear cGn cGz cGg cGx cGy
  replace HB := Lib.hid (below_then HB.out hb)
  replace Gn := Lib.hid ((hb.block _ (lt_of_heap Gn.out)).trans Gn.out)
  replace Gz := Lib.hid ((hb.block _ (lt_of_heap Gz.out)).trans Gz.out)
  replace Gg := Lib.hid ((hb.block _ (lt_of_heap Gg.out)).trans Gg.out)
  replace Gx := Lib.hid ((hb.block _ (lt_of_heap Gx.out)).trans Gx.out)
  replace Gy := Lib.hid ((hb.block _ (lt_of_heap Gy.out)).trans Gy.out)
  clear hb
  have cGn := cell_row Gn.out
  have cGz := cell_row Gz.out
  have cGg := cell_row Gg.out
  have cGx := cell_row Gx.out
  have cGy := cell_row Gy.out
  go_wp2
  go_ret
  exact ⟨rfl, HB.out⟩
set_option maxRecDepth 100000 in
set_option maxHeartbeats 2000000 in
theorem fr_B_T4 (n a : Nat) (b m : Int) (w : World) (hn : n < M) (hb1 : -128 ≤ b) (hb2 : b ≤ 127) (hc : n < P2 256) (hm0 : 0 ≤ m) (hm1 : m ≤ 100) (hl : ¬ 200 < blen (bentN (rtN 2 n) b)) (hf : withinB (((rtN 2 n) - (bentN (rtN 2 n) b)) + ((bentN (rtN 2 n) b) - (rtN 2 n))) m = false) (hS : ∀ w' : World, Calls Try.prog 54 #[wv n, wv (bentN (rtN 2 n) b), .int .i64 m] w' fun e w'' => e = .returned (.tuple #[wv 0, wv 0, .int .i64 0, .int .i64 6]) ∧ Below w'.heap.size w' w'') :
    Calls Try.prog 10 #[wv n, .agg (gcells a false b m)] w fun e w' => e = .returned (.bool true) ∧ Below w.heap.size w w' := by
  have SQ := Lib.hid hS
  have SA := Lib.hid (fun w' => awake18_any w')
  have SM := Lib.hid (fun w' => rmayR_any n hn w')
  rw [decide_eq_true hc] at SM
  have hmn : ¬ m < 0 := by omega
  have hmh : ¬ 100 < m := by omega
  have SD := Lib.hid (fun w' => rroot_any n 2 w' hc (Or.inl rfl))
  have hqM : rtN 2 n < M := Nat.lt_trans (rt_lt hc) (by rw [M_eq]; exact P2_lt (by omega))
  have SB := Lib.hid (fun w' => bent_w (rtN 2 n) b hqM hb1 hb2 w')
  have hGM := bentN_lt hqM b
  obtain ⟨G, hG⟩ : ∃ G, G = bentN (rtN 2 n) b := ⟨_, rfl⟩
  rw [← hG] at SQ SB hGM hl hf
  have S13 := Lib.hid (fun w' => big_any G hGM w')
  have S14 := Lib.hid (fun v w' h => rlen_any v G w' (small_M hGM) h)
  obtain ⟨l, hle⟩ : ∃ l, l = blen G := ⟨_, rfl⟩
  rw [← hle] at S14 hl
  have hli : ¬ (200 : Int) < (l : Int) := by omega
  have S15 := Lib.hid (fun w' => big_any (rtN 2 n) hqM w')
  have S16 := Lib.hid (fun v v2 w' h h' => raway_any v v2 (rtN 2 n) G w' (small_M hqM) (small_M hGM) h h')
  have hAB : (rtN 2 n - G) + (G - rtN 2 n) < BIG := away_lt (small_M hqM) (small_M hGM)
  have S17 := Lib.hid (fun v w' h => rwithin_any v ((rtN 2 n - G) + (G - rtN 2 n)) m w' hAB (by omega) h)
  rw [hf] at S17
  rw [sqr] at SD
  obtain ⟨q, hq⟩ : ∃ q, q = rtN 2 n := ⟨_, rfl⟩
  obtain ⟨r, hr⟩ : ∃ r, r = n - rtN 2 n * rtN 2 n := ⟨_, rfl⟩
  rw [← hr, ← hq] at SD
  rw [← hq] at SB
  rw [← hq] at S15 S16 S17
  obtain ⟨A, hA⟩ : ∃ A, A = (q - G) + (G - q) := ⟨_, rfl⟩
  rw [← hA] at S16 S17
  clear hn hS hc hqM hb1 hb2 hGM hG hle hl hAB hf hA hq hr hm0 hm1
  go_enter Try.func10, Try.ntmps10
  have HB := Lib.hid (Below.refl w.heap.size w)
  have Gn := Lib.hid (alloc_new (w) (.cells (wcells n) 31))
  replace HB := Lib.hid (below_al HB.out (.cells (wcells n) 31))
  replace Gn := Lib.hid (keepAl (o' := .cells (gcells a false b m) 63) Gn.out)
  have Gz := Lib.hid (alloc_new' (w := (w).alloc (.cells (wcells n) 31)) (n := w.heap.size + 1) (.cells (gcells a false b m) 63) (by simp))
  replace HB := Lib.hid (below_al HB.out (.cells (gcells a false b m) 63))
  go_upto_region 1 with fail
  obtain ⟨wL, hw⟩ : ∃ wx, wx = ((w).alloc (.cells (wcells n) 31)).alloc (.cells (gcells a false b m) 63) := ⟨_, rfl⟩
  rw [← hw] at Gn Gz HB ⊢
  clear hw
  have cz := cell_row Gz.out
  have hz0 := lt_of_heap Gz.out
  replace Gn := Lib.hid (keepAl (o' := .cells (wcells a) 31) Gn.out)
  replace Gz := Lib.hid (keepAl (o' := .cells (wcells a) 31) Gz.out)
  have Gg := Lib.hid (alloc_new (wL) (.cells (wcells a) 31))
  replace HB := Lib.hid (below_al HB.out (.cells (wcells a) 31))
  have cGn := cell_row Gn.out
  have cGz := cell_row Gz.out
  have cGg := cell_row Gg.out
  go_wp2_with fail
  refine (SM.out _).mono ?_
  rintro e w19 ⟨rfl, hb⟩
  clear cGn cGz cGg
  replace HB := Lib.hid (below_then HB.out hb)
  replace Gn := Lib.hid ((hb.block _ (lt_of_heap Gn.out)).trans Gn.out)
  replace Gz := Lib.hid ((hb.block _ (lt_of_heap Gz.out)).trans Gz.out)
  replace Gg := Lib.hid ((hb.block _ (lt_of_heap Gg.out)).trans Gg.out)
  clear hb
  clear cz
  have cGn := cell_row Gn.out
  have cGz := cell_row Gz.out
  have cGg := cell_row Gg.out
  go_wp2_with fail
  refine (SD.out _).mono ?_
  rintro e w20 ⟨rfl, hb⟩
  clear cGn cGz cGg
  replace HB := Lib.hid (below_then HB.out hb)
  replace Gn := Lib.hid ((hb.block _ (lt_of_heap Gn.out)).trans Gn.out)
  replace Gz := Lib.hid ((hb.block _ (lt_of_heap Gz.out)).trans Gz.out)
  replace Gg := Lib.hid ((hb.block _ (lt_of_heap Gg.out)).trans Gg.out)
  clear hb
  replace Gn := Lib.hid (keepAl (o' := .cells (wcells q) 31) Gn.out)
  replace Gz := Lib.hid (keepAl (o' := .cells (wcells q) 31) Gz.out)
  replace Gg := Lib.hid (keepAl (o' := .cells (wcells q) 31) Gg.out)
  have Gq := Lib.hid (alloc_new (w20) (.cells (wcells q) 31))
  replace HB := Lib.hid (below_al HB.out (.cells (wcells q) 31))
  replace Gn := Lib.hid (keepAl (o' := .cells (wcells r) 31) Gn.out)
  replace Gz := Lib.hid (keepAl (o' := .cells (wcells r) 31) Gz.out)
  replace Gg := Lib.hid (keepAl (o' := .cells (wcells r) 31) Gg.out)
  replace Gq := Lib.hid (keepAl (o' := .cells (wcells r) 31) Gq.out)
  have Gr := Lib.hid (alloc_new' (w := (w20).alloc (.cells (wcells q) 31)) (n := w20.heap.size + 1) (.cells (wcells r) 31) (by simp))
  replace HB := Lib.hid (below_al HB.out (.cells (wcells r) 31))
  have cGn := cell_row Gn.out
  have cGz := cell_row Gz.out
  have cGg := cell_row Gg.out
  have cGq := cell_row Gq.out
  have cGr := cell_row Gr.out
  go_wp2_with fail
  refine (SB.out _).mono ?_
  rintro e w21 ⟨rfl, hb⟩
  clear cGn cGz cGg cGq cGr
  replace HB := Lib.hid (below_then HB.out hb)
  replace Gn := Lib.hid ((hb.block _ (lt_of_heap Gn.out)).trans Gn.out)
  replace Gz := Lib.hid ((hb.block _ (lt_of_heap Gz.out)).trans Gz.out)
  replace Gg := Lib.hid ((hb.block _ (lt_of_heap Gg.out)).trans Gg.out)
  replace Gq := Lib.hid ((hb.block _ (lt_of_heap Gq.out)).trans Gq.out)
  replace Gr := Lib.hid ((hb.block _ (lt_of_heap Gr.out)).trans Gr.out)
  clear hb
  have stg := st_row (P := Try.prog) Gg.out rfl (G)
  replace Gn := Lib.hid ((setRow_other (w21) (wL.heap.size) _ (wcells (G)) (by (omega))).trans Gn.out)
  replace Gz := Lib.hid ((setRow_other (w21) (wL.heap.size) _ (wcells (G)) (by (omega))).trans Gz.out)
  replace Gg := Lib.hid (setRow_heap (w21) (wL.heap.size) _ (wcells (G)) _ _ Gg.out)
  replace HB := Lib.hid (below_setRow' HB.out (show _ ≤ wL.heap.size by (omega)) (wcells (G)))
  have cGn := cell_row Gn.out
  have cGz := cell_row Gz.out
  have cGg := cell_row Gg.out
  go_wp2_with fail
  refine (SQ.out _).mono ?_
  rintro e w22 ⟨rfl, hb⟩
  clear cGn cGz cGg stg
  replace HB := Lib.hid (below_then HB.out hb)
  replace Gn := Lib.hid ((hb.block _ (lt_of_heap Gn.out)).trans Gn.out)
  replace Gz := Lib.hid ((hb.block _ (lt_of_heap Gz.out)).trans Gz.out)
  replace Gg := Lib.hid ((hb.block _ (lt_of_heap Gg.out)).trans Gg.out)
  clear hb
  replace Gn := Lib.hid (keepAl (o' := .cells (wcells 0) 31) Gn.out)
  replace Gz := Lib.hid (keepAl (o' := .cells (wcells 0) 31) Gz.out)
  replace Gg := Lib.hid (keepAl (o' := .cells (wcells 0) 31) Gg.out)
  have Gx := Lib.hid (alloc_new (w22) (.cells (wcells 0) 31))
  replace HB := Lib.hid (below_al HB.out (.cells (wcells 0) 31))
  replace Gn := Lib.hid (keepAl (o' := .cells (wcells 0) 31) Gn.out)
  replace Gz := Lib.hid (keepAl (o' := .cells (wcells 0) 31) Gz.out)
  replace Gg := Lib.hid (keepAl (o' := .cells (wcells 0) 31) Gg.out)
  replace Gx := Lib.hid (keepAl (o' := .cells (wcells 0) 31) Gx.out)
  have Gy := Lib.hid (alloc_new' (w := (w22).alloc (.cells (wcells 0) 31)) (n := w22.heap.size + 1) (.cells (wcells 0) 31) (by simp))
  replace HB := Lib.hid (below_al HB.out (.cells (wcells 0) 31))
  have cGn := cell_row Gn.out
  have cGz := cell_row Gz.out
  have cGg := cell_row Gg.out
  have cGx := cell_row Gx.out
  have cGy := cell_row Gy.out
  go_wp2_with fail
  refine (SM.out _).mono ?_
  rintro e w23 ⟨rfl, hb⟩
  clear cGn cGz cGg cGx cGy
  replace HB := Lib.hid (below_then HB.out hb)
  replace Gn := Lib.hid ((hb.block _ (lt_of_heap Gn.out)).trans Gn.out)
  replace Gz := Lib.hid ((hb.block _ (lt_of_heap Gz.out)).trans Gz.out)
  replace Gg := Lib.hid ((hb.block _ (lt_of_heap Gg.out)).trans Gg.out)
  replace Gx := Lib.hid ((hb.block _ (lt_of_heap Gx.out)).trans Gx.out)
  replace Gy := Lib.hid ((hb.block _ (lt_of_heap Gy.out)).trans Gy.out)
  clear hb
  have cGn := cell_row Gn.out
  have cGz := cell_row Gz.out
  have cGg := cell_row Gg.out
  have cGx := cell_row Gx.out
  have cGy := cell_row Gy.out
  go_wp2_with fail
  refine (S13.out _).mono ?_
  rintro e w24 ⟨rG, rfl, hr, hb⟩
  clear cGn cGz cGg cGx cGy
  replace HB := Lib.hid (below_then HB.out hb)
  replace Gn := Lib.hid ((hb.block _ (lt_of_heap Gn.out)).trans Gn.out)
  replace Gz := Lib.hid ((hb.block _ (lt_of_heap Gz.out)).trans Gz.out)
  replace Gg := Lib.hid ((hb.block _ (lt_of_heap Gg.out)).trans Gg.out)
  replace Gx := Lib.hid ((hb.block _ (lt_of_heap Gx.out)).trans Gx.out)
  replace Gy := Lib.hid ((hb.block _ (lt_of_heap Gy.out)).trans Gy.out)
  have RG := Lib.hid hr
  clear hr hb
  have cGn := cell_row Gn.out
  have cGz := cell_row Gz.out
  have cGg := cell_row Gg.out
  have cGx := cell_row Gx.out
  have cGy := cell_row Gy.out
  go_wp2_with fail
  refine (S14.out _ _ RG.out).mono ?_
  rintro e w25 ⟨rfl, hb⟩
  clear cGn cGz cGg cGx cGy
  replace HB := Lib.hid (below_then HB.out hb)
  replace Gn := Lib.hid ((hb.block _ (lt_of_heap Gn.out)).trans Gn.out)
  replace Gz := Lib.hid ((hb.block _ (lt_of_heap Gz.out)).trans Gz.out)
  replace Gg := Lib.hid ((hb.block _ (lt_of_heap Gg.out)).trans Gg.out)
  replace Gx := Lib.hid ((hb.block _ (lt_of_heap Gx.out)).trans Gx.out)
  replace Gy := Lib.hid ((hb.block _ (lt_of_heap Gy.out)).trans Gy.out)
  replace RG := Lib.hid (RG.out.below hb)
  clear hb
  have cGn := cell_row Gn.out
  have cGz := cell_row Gz.out
  have cGg := cell_row Gg.out
  have cGx := cell_row Gx.out
  have cGy := cell_row Gy.out
  go_wp2_with fail
  refine (SD.out _).mono ?_
  rintro e w26 ⟨rfl, hb⟩
  clear cGn cGz cGg cGx cGy
  replace HB := Lib.hid (below_then HB.out hb)
  replace Gn := Lib.hid ((hb.block _ (lt_of_heap Gn.out)).trans Gn.out)
  replace Gz := Lib.hid ((hb.block _ (lt_of_heap Gz.out)).trans Gz.out)
  replace Gg := Lib.hid ((hb.block _ (lt_of_heap Gg.out)).trans Gg.out)
  replace Gx := Lib.hid ((hb.block _ (lt_of_heap Gx.out)).trans Gx.out)
  replace Gy := Lib.hid ((hb.block _ (lt_of_heap Gy.out)).trans Gy.out)
  clear hb
  replace Gn := Lib.hid (keepAl (o' := .cells (wcells q) 31) Gn.out)
  replace Gz := Lib.hid (keepAl (o' := .cells (wcells q) 31) Gz.out)
  replace Gg := Lib.hid (keepAl (o' := .cells (wcells q) 31) Gg.out)
  replace Gx := Lib.hid (keepAl (o' := .cells (wcells q) 31) Gx.out)
  replace Gy := Lib.hid (keepAl (o' := .cells (wcells q) 31) Gy.out)
  have Gaa := Lib.hid (alloc_new (w26) (.cells (wcells q) 31))
  replace HB := Lib.hid (below_al HB.out (.cells (wcells q) 31))
  replace Gn := Lib.hid (keepAl (o' := .cells (wcells r) 31) Gn.out)
  replace Gz := Lib.hid (keepAl (o' := .cells (wcells r) 31) Gz.out)
  replace Gg := Lib.hid (keepAl (o' := .cells (wcells r) 31) Gg.out)
  replace Gx := Lib.hid (keepAl (o' := .cells (wcells r) 31) Gx.out)
  replace Gy := Lib.hid (keepAl (o' := .cells (wcells r) 31) Gy.out)
  replace Gaa := Lib.hid (keepAl (o' := .cells (wcells r) 31) Gaa.out)
  have Gbb := Lib.hid (alloc_new' (w := (w26).alloc (.cells (wcells q) 31)) (n := w26.heap.size + 1) (.cells (wcells r) 31) (by simp))
  replace HB := Lib.hid (below_al HB.out (.cells (wcells r) 31))
  go_upto_region 12 with fail
  obtain ⟨wM, hw⟩ : ∃ wx, wx = ((w26).alloc (.cells (wcells q) 31)).alloc (.cells (wcells r) 31) := ⟨_, rfl⟩
  rw [← hw] at Gn Gz Gg Gx Gy Gaa Gbb HB ⊢
  clear hw
  have xGn := ext_row (B := wM.heap.size) Gn.out (lt_of_heap Gn.out)
  have xGz := ext_row (B := wM.heap.size) Gz.out (lt_of_heap Gz.out)
  have xGg := ext_row (B := wM.heap.size) Gg.out (lt_of_heap Gg.out)
  have xGx := ext_row (B := wM.heap.size) Gx.out (lt_of_heap Gx.out)
  have xGy := ext_row (B := wM.heap.size) Gy.out (lt_of_heap Gy.out)
  have xGaa := ext_row (B := wM.heap.size) Gaa.out (lt_of_heap Gaa.out)
  have xGbb := ext_row (B := wM.heap.size) Gbb.out (lt_of_heap Gbb.out)
  apply wp_region_loose (looseR [_, _, _, _, _, _]) (pureL [])
  · kernel_rfl
  · kernel_rfl
  · kernel_rfl
  · exact allocs_ok [] rfl (by intro T hT; cases hT)
  · exact looseR_st _
  · change wpL _ _ _ _ _ _ _ 6 0 _ _
    refine wpL_calm wM rfl rfl rfl rfl (fun K hK K0 hK0 => ?_)
    go_simp
    first | refine hK _ _ rfl rfl ?_ | refine hK0 _ rfl ?_
    clear hK hK0 K K0
    refine wpL_call (Lft.big q) (big_some w _) rfl rfl rfl rfl (by first | rfl | go_simp) rfl (fun w' hC hF => ?_) (fun v1 hv1 => ?_)
    · obtain ⟨x, rfl⟩ := hC
      go_simp
      go_at_call 33
      exact gives_loose (S15.out _)
    refine wpL_calm wM rfl rfl rfl rfl (fun K hK K0 hK0 => ?_)
    go_simp
    first | refine hK _ _ rfl rfl ?_ | refine hK0 _ rfl ?_
    clear hK hK0 K K0
    refine wpL_call (Lft.big G) (big_some w _) rfl rfl rfl rfl (by first | rfl | go_simp) rfl (fun w' hC hF => ?_) (fun v3 hv3 => ?_)
    · obtain ⟨x, rfl⟩ := hC
      go_simp
      go_at_call 33
      exact gives_loose (S13.out _)
    refine wpL_call (Lft.big A) (big_some w _) rfl rfl rfl rfl (by first | rfl | go_simp) rfl (fun w' hC hF => ?_) (fun v4 hv4 => ?_)
    · obtain ⟨x, rfl⟩ := hC
      go_simp
      go_at_call 50
      exact gives_loose (S16.out _ _ _ (hF 1 _ 95 rfl rfl rfl rfl (by decide)) (hF 3 _ 97 rfl rfl rfl rfl (by decide)))
    refine wpL_call (Lft.big A) (big_some wM _) rfl rfl rfl rfl rfl rfl (fun w' hC hF => ?_) (fun v5 hv5 => ?_)
    · obtain ⟨x, rfl⟩ := hC
      have hf := hF 4 _ 98 rfl rfl rfl rfl (by decide)
      go_simp
      exact ⟨Below.refl _ _, hf⟩
    refine wpL_nil (endL [] rfl (by intro q hq; cases hq) (fun w27 hb hst hap hfin => ?_))
    have Raway : Hid (IsBig w27 v5 A) := Lib.hid (hfin rfl 5 _ 15 rfl rfl rfl rfl)
    replace HB := Lib.hid (below_then HB.out hb)
    replace Gn := Lib.hid ((hb.block _ (lt_of_heap Gn.out)).trans Gn.out)
    replace Gz := Lib.hid ((hb.block _ (lt_of_heap Gz.out)).trans Gz.out)
    replace Gg := Lib.hid ((hb.block _ (lt_of_heap Gg.out)).trans Gg.out)
    replace Gx := Lib.hid ((hb.block _ (lt_of_heap Gx.out)).trans Gx.out)
    replace Gy := Lib.hid ((hb.block _ (lt_of_heap Gy.out)).trans Gy.out)
    replace Gaa := Lib.hid ((hb.block _ (lt_of_heap Gaa.out)).trans Gaa.out)
    replace Gbb := Lib.hid ((hb.block _ (lt_of_heap Gbb.out)).trans Gbb.out)
    clear hb hst hap hfin xGn xGz xGg xGx xGy xGaa xGbb
    have cGn := cell_row Gn.out
    have cGz := cell_row Gz.out
    have cGg := cell_row Gg.out
    have cGx := cell_row Gx.out
    have cGy := cell_row Gy.out
    have cGaa := cell_row Gaa.out
    have cGbb := cell_row Gbb.out
    go_wp2_with fail
    refine (S17.out _ _ Raway.out).mono ?_
    rintro e w28 ⟨rfl, hb⟩
    clear cGn cGz cGg cGx cGy cGaa cGbb
    replace HB := Lib.hid (below_then HB.out hb)
    replace Gn := Lib.hid ((hb.block _ (lt_of_heap Gn.out)).trans Gn.out)
    replace Gz := Lib.hid ((hb.block _ (lt_of_heap Gz.out)).trans Gz.out)
    replace Gg := Lib.hid ((hb.block _ (lt_of_heap Gg.out)).trans Gg.out)
    replace Gx := Lib.hid ((hb.block _ (lt_of_heap Gx.out)).trans Gx.out)
    replace Gy := Lib.hid ((hb.block _ (lt_of_heap Gy.out)).trans Gy.out)
    replace Gaa := Lib.hid ((hb.block _ (lt_of_heap Gaa.out)).trans Gaa.out)
    replace Gbb := Lib.hid ((hb.block _ (lt_of_heap Gbb.out)).trans Gbb.out)
    replace Raway := Lib.hid (Raway.out.below hb)
    clear hb
    have cGn := cell_row Gn.out
    have cGz := cell_row Gz.out
    have cGg := cell_row Gg.out
    have cGx := cell_row Gx.out
    have cGy := cell_row Gy.out
    have cGaa := cell_row Gaa.out
    have cGbb := cell_row Gbb.out
    go_wp2_with fail
    refine (SA.out _).mono ?_
    rintro e w29 ⟨rfl, hb⟩
    clear cGn cGz cGg cGx cGy cGaa cGbb
    replace HB := Lib.hid (below_then HB.out hb)
    replace Gn := Lib.hid ((hb.block _ (lt_of_heap Gn.out)).trans Gn.out)
    replace Gz := Lib.hid ((hb.block _ (lt_of_heap Gz.out)).trans Gz.out)
    replace Gg := Lib.hid ((hb.block _ (lt_of_heap Gg.out)).trans Gg.out)
    replace Gx := Lib.hid ((hb.block _ (lt_of_heap Gx.out)).trans Gx.out)
    replace Gy := Lib.hid ((hb.block _ (lt_of_heap Gy.out)).trans Gy.out)
    replace Gaa := Lib.hid ((hb.block _ (lt_of_heap Gaa.out)).trans Gaa.out)
    replace Gbb := Lib.hid ((hb.block _ (lt_of_heap Gbb.out)).trans Gbb.out)
    replace Raway := Lib.hid (Raway.out.below hb)
    clear hb
    have cGn := cell_row Gn.out
    have cGz := cell_row Gz.out
    have cGg := cell_row Gg.out
    have cGx := cell_row Gx.out
    have cGy := cell_row Gy.out
    have cGaa := cell_row Gaa.out
    have cGbb := cell_row Gbb.out
    go_wp2
    go_ret
    exact ⟨rfl, HB.out⟩
set_option maxRecDepth 100000 in
set_option maxHeartbeats 2000000 in
theorem fr_B_T5 (n a : Nat) (b m : Int) (w : World) (hn : n < M) (hb1 : -128 ≤ b) (hb2 : b ≤ 127) (hc : n < P2 256) (hm0 : 0 ≤ m) (hm1 : m ≤ 100) (hl : ¬ 200 < blen (bentN (rtN 2 n) b)) (hf : withinB (((rtN 2 n) - (bentN (rtN 2 n) b)) + ((bentN (rtN 2 n) b) - (rtN 2 n))) m = true) (hS : ∀ w' : World, Calls Try.prog 54 #[wv n, wv (bentN (rtN 2 n) b), .int .i64 m] w' fun e w'' => e = .returned (.tuple #[wv (rtN 2 n), wv (n - (rtN 2 n) * (rtN 2 n)), .int .i64 ((((rtN 2 n) - (bentN (rtN 2 n) b)) + ((bentN (rtN 2 n) b) - (rtN 2 n)) : Nat) : Int), .int .i64 0]) ∧ Below w'.heap.size w' w'') :
    Calls Try.prog 10 #[wv n, .agg (gcells a false b m)] w fun e w' => e = .returned (.bool true) ∧ Below w.heap.size w w' := by
  have SQ := Lib.hid hS
  have SA := Lib.hid (fun w' => awake18_any w')
  have SM := Lib.hid (fun w' => rmayR_any n hn w')
  rw [decide_eq_true hc] at SM
  have hmn : ¬ m < 0 := by omega
  have hmh : ¬ 100 < m := by omega
  have SD := Lib.hid (fun w' => rroot_any n 2 w' hc (Or.inl rfl))
  have hqM : rtN 2 n < M := Nat.lt_trans (rt_lt hc) (by rw [M_eq]; exact P2_lt (by omega))
  have SB := Lib.hid (fun w' => bent_w (rtN 2 n) b hqM hb1 hb2 w')
  have hGM := bentN_lt hqM b
  obtain ⟨G, hG⟩ : ∃ G, G = bentN (rtN 2 n) b := ⟨_, rfl⟩
  rw [← hG] at SQ SB hGM hl hf
  have S13 := Lib.hid (fun w' => big_any G hGM w')
  have S14 := Lib.hid (fun v w' h => rlen_any v G w' (small_M hGM) h)
  obtain ⟨l, hle⟩ : ∃ l, l = blen G := ⟨_, rfl⟩
  rw [← hle] at S14 hl
  have hli : ¬ (200 : Int) < (l : Int) := by omega
  have S15 := Lib.hid (fun w' => big_any (rtN 2 n) hqM w')
  have S16 := Lib.hid (fun v v2 w' h h' => raway_any v v2 (rtN 2 n) G w' (small_M hqM) (small_M hGM) h h')
  have hAB : (rtN 2 n - G) + (G - rtN 2 n) < BIG := away_lt (small_M hqM) (small_M hGM)
  have S17 := Lib.hid (fun v w' h => rwithin_any v ((rtN 2 n - G) + (G - rtN 2 n)) m w' hAB (by omega) h)
  rw [hf] at S17
  have hA100 : (((rtN 2 n - G) + (G - rtN 2 n) : Nat) : Int) ≤ 100 := by unfold withinB at hf; simp at hf; omega
  have S18 := Lib.hid (fun w' => small_any ((rtN 2 n - G) + (G - rtN 2 n)) w' (by omega))
  have S19 := Lib.hid (fun v v2 w' h h' => cmp_any v v2 ((rtN 2 n - G) + (G - rtN 2 n)) ((rtN 2 n - G) + (G - rtN 2 n)) w' hAB hAB h h')
  rw [show ∀ x, cmpN x x = 0 from fun x => by unfold cmpN; simp] at S19
  rw [sqr] at SD
  obtain ⟨q, hq⟩ : ∃ q, q = rtN 2 n := ⟨_, rfl⟩
  obtain ⟨r, hr⟩ : ∃ r, r = n - rtN 2 n * rtN 2 n := ⟨_, rfl⟩
  rw [← hr, ← hq] at SD
  rw [← hq] at SB
  rw [← hr, ← hq] at SQ
  rw [← hq] at S15 S16 S17 S18 S19 hA100
  obtain ⟨A, hA⟩ : ∃ A, A = (q - G) + (G - q) := ⟨_, rfl⟩
  rw [← hA] at S16 S17 S18 S19 SQ hA100
  have hA0 : (0 : Int) ≤ (A : Int) := Int.natCast_nonneg _
  have hw : IntKind.u64.wrap (A : Int) = (A : Int) := by rw [u64wrap]; omega
  clear hn hS hc hqM hb1 hb2 hGM hG hle hl hAB hf hA hq hr hm0 hm1
  cases hzq : isZ q
  · skip
    go_enter Try.func10, Try.ntmps10
    have HB := Lib.hid (Below.refl w.heap.size w)
    have Gn := Lib.hid (alloc_new (w) (.cells (wcells n) 31))
    replace HB := Lib.hid (below_al HB.out (.cells (wcells n) 31))
    replace Gn := Lib.hid (keepAl (o' := .cells (gcells a false b m) 63) Gn.out)
    have Gz := Lib.hid (alloc_new' (w := (w).alloc (.cells (wcells n) 31)) (n := w.heap.size + 1) (.cells (gcells a false b m) 63) (by simp))
    replace HB := Lib.hid (below_al HB.out (.cells (gcells a false b m) 63))
    go_upto_region 1 with fail
    obtain ⟨wL, hw⟩ : ∃ wx, wx = ((w).alloc (.cells (wcells n) 31)).alloc (.cells (gcells a false b m) 63) := ⟨_, rfl⟩
    rw [← hw] at Gn Gz HB ⊢
    clear hw
    have cz := cell_row Gz.out
    have hz0 := lt_of_heap Gz.out
    replace Gn := Lib.hid (keepAl (o' := .cells (wcells a) 31) Gn.out)
    replace Gz := Lib.hid (keepAl (o' := .cells (wcells a) 31) Gz.out)
    have Gg := Lib.hid (alloc_new (wL) (.cells (wcells a) 31))
    replace HB := Lib.hid (below_al HB.out (.cells (wcells a) 31))
    have cGn := cell_row Gn.out
    have cGz := cell_row Gz.out
    have cGg := cell_row Gg.out
    go_wp2_with fail
    refine (SM.out _).mono ?_
    rintro e w30 ⟨rfl, hb⟩
    clear cGn cGz cGg
    replace HB := Lib.hid (below_then HB.out hb)
    replace Gn := Lib.hid ((hb.block _ (lt_of_heap Gn.out)).trans Gn.out)
    replace Gz := Lib.hid ((hb.block _ (lt_of_heap Gz.out)).trans Gz.out)
    replace Gg := Lib.hid ((hb.block _ (lt_of_heap Gg.out)).trans Gg.out)
    clear hb
    clear cz
    have cGn := cell_row Gn.out
    have cGz := cell_row Gz.out
    have cGg := cell_row Gg.out
    go_wp2_with fail
    refine (SD.out _).mono ?_
    rintro e w31 ⟨rfl, hb⟩
    clear cGn cGz cGg
    replace HB := Lib.hid (below_then HB.out hb)
    replace Gn := Lib.hid ((hb.block _ (lt_of_heap Gn.out)).trans Gn.out)
    replace Gz := Lib.hid ((hb.block _ (lt_of_heap Gz.out)).trans Gz.out)
    replace Gg := Lib.hid ((hb.block _ (lt_of_heap Gg.out)).trans Gg.out)
    clear hb
    replace Gn := Lib.hid (keepAl (o' := .cells (wcells q) 31) Gn.out)
    replace Gz := Lib.hid (keepAl (o' := .cells (wcells q) 31) Gz.out)
    replace Gg := Lib.hid (keepAl (o' := .cells (wcells q) 31) Gg.out)
    have Gq := Lib.hid (alloc_new (w31) (.cells (wcells q) 31))
    replace HB := Lib.hid (below_al HB.out (.cells (wcells q) 31))
    replace Gn := Lib.hid (keepAl (o' := .cells (wcells r) 31) Gn.out)
    replace Gz := Lib.hid (keepAl (o' := .cells (wcells r) 31) Gz.out)
    replace Gg := Lib.hid (keepAl (o' := .cells (wcells r) 31) Gg.out)
    replace Gq := Lib.hid (keepAl (o' := .cells (wcells r) 31) Gq.out)
    have Gr := Lib.hid (alloc_new' (w := (w31).alloc (.cells (wcells q) 31)) (n := w31.heap.size + 1) (.cells (wcells r) 31) (by simp))
    replace HB := Lib.hid (below_al HB.out (.cells (wcells r) 31))
    have cGn := cell_row Gn.out
    have cGz := cell_row Gz.out
    have cGg := cell_row Gg.out
    have cGq := cell_row Gq.out
    have cGr := cell_row Gr.out
    go_wp2_with fail
    refine (SB.out _).mono ?_
    rintro e w32 ⟨rfl, hb⟩
    clear cGn cGz cGg cGq cGr
    replace HB := Lib.hid (below_then HB.out hb)
    replace Gn := Lib.hid ((hb.block _ (lt_of_heap Gn.out)).trans Gn.out)
    replace Gz := Lib.hid ((hb.block _ (lt_of_heap Gz.out)).trans Gz.out)
    replace Gg := Lib.hid ((hb.block _ (lt_of_heap Gg.out)).trans Gg.out)
    replace Gq := Lib.hid ((hb.block _ (lt_of_heap Gq.out)).trans Gq.out)
    replace Gr := Lib.hid ((hb.block _ (lt_of_heap Gr.out)).trans Gr.out)
    clear hb
    have stg := st_row (P := Try.prog) Gg.out rfl (G)
    replace Gn := Lib.hid ((setRow_other (w32) (wL.heap.size) _ (wcells (G)) (by (omega))).trans Gn.out)
    replace Gz := Lib.hid ((setRow_other (w32) (wL.heap.size) _ (wcells (G)) (by (omega))).trans Gz.out)
    replace Gg := Lib.hid (setRow_heap (w32) (wL.heap.size) _ (wcells (G)) _ _ Gg.out)
    replace HB := Lib.hid (below_setRow' HB.out (show _ ≤ wL.heap.size by (omega)) (wcells (G)))
    have cGn := cell_row Gn.out
    have cGz := cell_row Gz.out
    have cGg := cell_row Gg.out
    go_wp2_with fail
    refine (SQ.out _).mono ?_
    rintro e w33 ⟨rfl, hb⟩
    clear cGn cGz cGg stg
    replace HB := Lib.hid (below_then HB.out hb)
    replace Gn := Lib.hid ((hb.block _ (lt_of_heap Gn.out)).trans Gn.out)
    replace Gz := Lib.hid ((hb.block _ (lt_of_heap Gz.out)).trans Gz.out)
    replace Gg := Lib.hid ((hb.block _ (lt_of_heap Gg.out)).trans Gg.out)
    clear hb
    replace Gn := Lib.hid (keepAl (o' := .cells (wcells q) 31) Gn.out)
    replace Gz := Lib.hid (keepAl (o' := .cells (wcells q) 31) Gz.out)
    replace Gg := Lib.hid (keepAl (o' := .cells (wcells q) 31) Gg.out)
    have Gx := Lib.hid (alloc_new (w33) (.cells (wcells q) 31))
    replace HB := Lib.hid (below_al HB.out (.cells (wcells q) 31))
    replace Gn := Lib.hid (keepAl (o' := .cells (wcells r) 31) Gn.out)
    replace Gz := Lib.hid (keepAl (o' := .cells (wcells r) 31) Gz.out)
    replace Gg := Lib.hid (keepAl (o' := .cells (wcells r) 31) Gg.out)
    replace Gx := Lib.hid (keepAl (o' := .cells (wcells r) 31) Gx.out)
    have Gy := Lib.hid (alloc_new' (w := (w33).alloc (.cells (wcells q) 31)) (n := w33.heap.size + 1) (.cells (wcells r) 31) (by simp))
    replace HB := Lib.hid (below_al HB.out (.cells (wcells r) 31))
    have cGn := cell_row Gn.out
    have cGz := cell_row Gz.out
    have cGg := cell_row Gg.out
    have cGx := cell_row Gx.out
    have cGy := cell_row Gy.out
    go_wp2_with fail
    refine (SM.out _).mono ?_
    rintro e w34 ⟨rfl, hb⟩
    clear cGn cGz cGg cGx cGy
    replace HB := Lib.hid (below_then HB.out hb)
    replace Gn := Lib.hid ((hb.block _ (lt_of_heap Gn.out)).trans Gn.out)
    replace Gz := Lib.hid ((hb.block _ (lt_of_heap Gz.out)).trans Gz.out)
    replace Gg := Lib.hid ((hb.block _ (lt_of_heap Gg.out)).trans Gg.out)
    replace Gx := Lib.hid ((hb.block _ (lt_of_heap Gx.out)).trans Gx.out)
    replace Gy := Lib.hid ((hb.block _ (lt_of_heap Gy.out)).trans Gy.out)
    clear hb
    have cGn := cell_row Gn.out
    have cGz := cell_row Gz.out
    have cGg := cell_row Gg.out
    have cGx := cell_row Gx.out
    have cGy := cell_row Gy.out
    go_wp2_with fail
    refine (S13.out _).mono ?_
    rintro e w35 ⟨rG, rfl, hr, hb⟩
    clear cGn cGz cGg cGx cGy
    replace HB := Lib.hid (below_then HB.out hb)
    replace Gn := Lib.hid ((hb.block _ (lt_of_heap Gn.out)).trans Gn.out)
    replace Gz := Lib.hid ((hb.block _ (lt_of_heap Gz.out)).trans Gz.out)
    replace Gg := Lib.hid ((hb.block _ (lt_of_heap Gg.out)).trans Gg.out)
    replace Gx := Lib.hid ((hb.block _ (lt_of_heap Gx.out)).trans Gx.out)
    replace Gy := Lib.hid ((hb.block _ (lt_of_heap Gy.out)).trans Gy.out)
    have RG := Lib.hid hr
    clear hr hb
    have cGn := cell_row Gn.out
    have cGz := cell_row Gz.out
    have cGg := cell_row Gg.out
    have cGx := cell_row Gx.out
    have cGy := cell_row Gy.out
    go_wp2_with fail
    refine (S14.out _ _ RG.out).mono ?_
    rintro e w36 ⟨rfl, hb⟩
    clear cGn cGz cGg cGx cGy
    replace HB := Lib.hid (below_then HB.out hb)
    replace Gn := Lib.hid ((hb.block _ (lt_of_heap Gn.out)).trans Gn.out)
    replace Gz := Lib.hid ((hb.block _ (lt_of_heap Gz.out)).trans Gz.out)
    replace Gg := Lib.hid ((hb.block _ (lt_of_heap Gg.out)).trans Gg.out)
    replace Gx := Lib.hid ((hb.block _ (lt_of_heap Gx.out)).trans Gx.out)
    replace Gy := Lib.hid ((hb.block _ (lt_of_heap Gy.out)).trans Gy.out)
    replace RG := Lib.hid (RG.out.below hb)
    clear hb
    have cGn := cell_row Gn.out
    have cGz := cell_row Gz.out
    have cGg := cell_row Gg.out
    have cGx := cell_row Gx.out
    have cGy := cell_row Gy.out
    go_wp2_with fail
    refine (SD.out _).mono ?_
    rintro e w37 ⟨rfl, hb⟩
    clear cGn cGz cGg cGx cGy
    replace HB := Lib.hid (below_then HB.out hb)
    replace Gn := Lib.hid ((hb.block _ (lt_of_heap Gn.out)).trans Gn.out)
    replace Gz := Lib.hid ((hb.block _ (lt_of_heap Gz.out)).trans Gz.out)
    replace Gg := Lib.hid ((hb.block _ (lt_of_heap Gg.out)).trans Gg.out)
    replace Gx := Lib.hid ((hb.block _ (lt_of_heap Gx.out)).trans Gx.out)
    replace Gy := Lib.hid ((hb.block _ (lt_of_heap Gy.out)).trans Gy.out)
    clear hb
    replace Gn := Lib.hid (keepAl (o' := .cells (wcells q) 31) Gn.out)
    replace Gz := Lib.hid (keepAl (o' := .cells (wcells q) 31) Gz.out)
    replace Gg := Lib.hid (keepAl (o' := .cells (wcells q) 31) Gg.out)
    replace Gx := Lib.hid (keepAl (o' := .cells (wcells q) 31) Gx.out)
    replace Gy := Lib.hid (keepAl (o' := .cells (wcells q) 31) Gy.out)
    have Gaa := Lib.hid (alloc_new (w37) (.cells (wcells q) 31))
    replace HB := Lib.hid (below_al HB.out (.cells (wcells q) 31))
    replace Gn := Lib.hid (keepAl (o' := .cells (wcells r) 31) Gn.out)
    replace Gz := Lib.hid (keepAl (o' := .cells (wcells r) 31) Gz.out)
    replace Gg := Lib.hid (keepAl (o' := .cells (wcells r) 31) Gg.out)
    replace Gx := Lib.hid (keepAl (o' := .cells (wcells r) 31) Gx.out)
    replace Gy := Lib.hid (keepAl (o' := .cells (wcells r) 31) Gy.out)
    replace Gaa := Lib.hid (keepAl (o' := .cells (wcells r) 31) Gaa.out)
    have Gbb := Lib.hid (alloc_new' (w := (w37).alloc (.cells (wcells q) 31)) (n := w37.heap.size + 1) (.cells (wcells r) 31) (by simp))
    replace HB := Lib.hid (below_al HB.out (.cells (wcells r) 31))
    go_upto_region 12 with fail
    obtain ⟨wM, hw⟩ : ∃ wx, wx = ((w37).alloc (.cells (wcells q) 31)).alloc (.cells (wcells r) 31) := ⟨_, rfl⟩
    rw [← hw] at Gn Gz Gg Gx Gy Gaa Gbb HB ⊢
    clear hw
    have xGn := ext_row (B := wM.heap.size) Gn.out (lt_of_heap Gn.out)
    have xGz := ext_row (B := wM.heap.size) Gz.out (lt_of_heap Gz.out)
    have xGg := ext_row (B := wM.heap.size) Gg.out (lt_of_heap Gg.out)
    have xGx := ext_row (B := wM.heap.size) Gx.out (lt_of_heap Gx.out)
    have xGy := ext_row (B := wM.heap.size) Gy.out (lt_of_heap Gy.out)
    have xGaa := ext_row (B := wM.heap.size) Gaa.out (lt_of_heap Gaa.out)
    have xGbb := ext_row (B := wM.heap.size) Gbb.out (lt_of_heap Gbb.out)
    apply wp_region_loose (looseR [_, _, _, _, _, _]) (pureL [])
    · kernel_rfl
    · kernel_rfl
    · kernel_rfl
    · exact allocs_ok [] rfl (by intro T hT; cases hT)
    · exact looseR_st _
    · change wpL _ _ _ _ _ _ _ 6 0 _ _
      refine wpL_calm wM rfl rfl rfl rfl (fun K hK K0 hK0 => ?_)
      go_simp
      first | refine hK _ _ rfl rfl ?_ | refine hK0 _ rfl ?_
      clear hK hK0 K K0
      refine wpL_call (Lft.big q) (big_some w _) rfl rfl rfl rfl (by first | rfl | go_simp) rfl (fun w' hC hF => ?_) (fun v1 hv1 => ?_)
      · obtain ⟨x, rfl⟩ := hC
        go_simp
        go_at_call 33
        exact gives_loose (S15.out _)
      refine wpL_calm wM rfl rfl rfl rfl (fun K hK K0 hK0 => ?_)
      go_simp
      first | refine hK _ _ rfl rfl ?_ | refine hK0 _ rfl ?_
      clear hK hK0 K K0
      refine wpL_call (Lft.big G) (big_some w _) rfl rfl rfl rfl (by first | rfl | go_simp) rfl (fun w' hC hF => ?_) (fun v3 hv3 => ?_)
      · obtain ⟨x, rfl⟩ := hC
        go_simp
        go_at_call 33
        exact gives_loose (S13.out _)
      refine wpL_call (Lft.big A) (big_some w _) rfl rfl rfl rfl (by first | rfl | go_simp) rfl (fun w' hC hF => ?_) (fun v4 hv4 => ?_)
      · obtain ⟨x, rfl⟩ := hC
        go_simp
        go_at_call 50
        exact gives_loose (S16.out _ _ _ (hF 1 _ 95 rfl rfl rfl rfl (by decide)) (hF 3 _ 97 rfl rfl rfl rfl (by decide)))
      refine wpL_call (Lft.big A) (big_some wM _) rfl rfl rfl rfl rfl rfl (fun w' hC hF => ?_) (fun v5 hv5 => ?_)
      · obtain ⟨x, rfl⟩ := hC
        have hf := hF 4 _ 98 rfl rfl rfl rfl (by decide)
        go_simp
        exact ⟨Below.refl _ _, hf⟩
      refine wpL_nil (endL [] rfl (by intro q hq; cases hq) (fun w38 hb hst hap hfin => ?_))
      have Raway : Hid (IsBig w38 v5 A) := Lib.hid (hfin rfl 5 _ 15 rfl rfl rfl rfl)
      replace HB := Lib.hid (below_then HB.out hb)
      replace Gn := Lib.hid ((hb.block _ (lt_of_heap Gn.out)).trans Gn.out)
      replace Gz := Lib.hid ((hb.block _ (lt_of_heap Gz.out)).trans Gz.out)
      replace Gg := Lib.hid ((hb.block _ (lt_of_heap Gg.out)).trans Gg.out)
      replace Gx := Lib.hid ((hb.block _ (lt_of_heap Gx.out)).trans Gx.out)
      replace Gy := Lib.hid ((hb.block _ (lt_of_heap Gy.out)).trans Gy.out)
      replace Gaa := Lib.hid ((hb.block _ (lt_of_heap Gaa.out)).trans Gaa.out)
      replace Gbb := Lib.hid ((hb.block _ (lt_of_heap Gbb.out)).trans Gbb.out)
      clear hb hst hap hfin xGn xGz xGg xGx xGy xGaa xGbb
      have cGn := cell_row Gn.out
      have cGz := cell_row Gz.out
      have cGg := cell_row Gg.out
      have cGx := cell_row Gx.out
      have cGy := cell_row Gy.out
      have cGaa := cell_row Gaa.out
      have cGbb := cell_row Gbb.out
      go_wp2_with fail
      refine (S17.out _ _ Raway.out).mono ?_
      rintro e w39 ⟨rfl, hb⟩
      clear cGn cGz cGg cGx cGy cGaa cGbb
      replace HB := Lib.hid (below_then HB.out hb)
      replace Gn := Lib.hid ((hb.block _ (lt_of_heap Gn.out)).trans Gn.out)
      replace Gz := Lib.hid ((hb.block _ (lt_of_heap Gz.out)).trans Gz.out)
      replace Gg := Lib.hid ((hb.block _ (lt_of_heap Gg.out)).trans Gg.out)
      replace Gx := Lib.hid ((hb.block _ (lt_of_heap Gx.out)).trans Gx.out)
      replace Gy := Lib.hid ((hb.block _ (lt_of_heap Gy.out)).trans Gy.out)
      replace Gaa := Lib.hid ((hb.block _ (lt_of_heap Gaa.out)).trans Gaa.out)
      replace Gbb := Lib.hid ((hb.block _ (lt_of_heap Gbb.out)).trans Gbb.out)
      replace Raway := Lib.hid (Raway.out.below hb)
      clear hb
      have cGn := cell_row Gn.out
      have cGz := cell_row Gz.out
      have cGg := cell_row Gg.out
      have cGx := cell_row Gx.out
      have cGy := cell_row Gy.out
      have cGaa := cell_row Gaa.out
      have cGbb := cell_row Gbb.out
      go_wp2_with fail
      refine (S18.out _).mono ?_
      rintro e w40 ⟨rk, rfl, hr, hb⟩
      clear cGn cGz cGg cGx cGy cGaa cGbb
      replace HB := Lib.hid (below_then HB.out hb)
      replace Gn := Lib.hid ((hb.block _ (lt_of_heap Gn.out)).trans Gn.out)
      replace Gz := Lib.hid ((hb.block _ (lt_of_heap Gz.out)).trans Gz.out)
      replace Gg := Lib.hid ((hb.block _ (lt_of_heap Gg.out)).trans Gg.out)
      replace Gx := Lib.hid ((hb.block _ (lt_of_heap Gx.out)).trans Gx.out)
      replace Gy := Lib.hid ((hb.block _ (lt_of_heap Gy.out)).trans Gy.out)
      replace Gaa := Lib.hid ((hb.block _ (lt_of_heap Gaa.out)).trans Gaa.out)
      replace Gbb := Lib.hid ((hb.block _ (lt_of_heap Gbb.out)).trans Gbb.out)
      replace Raway := Lib.hid (Raway.out.below hb)
      have Rk := Lib.hid hr
      clear hr hb
      have cGn := cell_row Gn.out
      have cGz := cell_row Gz.out
      have cGg := cell_row Gg.out
      have cGx := cell_row Gx.out
      have cGy := cell_row Gy.out
      have cGaa := cell_row Gaa.out
      have cGbb := cell_row Gbb.out
      go_wp2_with fail
      refine (S19.out _ _ _ Rk.out Raway.out).mono ?_
      rintro e w41 ⟨rfl, hb⟩
      clear cGn cGz cGg cGx cGy cGaa cGbb
      replace HB := Lib.hid (below_then HB.out hb)
      replace Gn := Lib.hid ((hb.block _ (lt_of_heap Gn.out)).trans Gn.out)
      replace Gz := Lib.hid ((hb.block _ (lt_of_heap Gz.out)).trans Gz.out)
      replace Gg := Lib.hid ((hb.block _ (lt_of_heap Gg.out)).trans Gg.out)
      replace Gx := Lib.hid ((hb.block _ (lt_of_heap Gx.out)).trans Gx.out)
      replace Gy := Lib.hid ((hb.block _ (lt_of_heap Gy.out)).trans Gy.out)
      replace Gaa := Lib.hid ((hb.block _ (lt_of_heap Gaa.out)).trans Gaa.out)
      replace Gbb := Lib.hid ((hb.block _ (lt_of_heap Gbb.out)).trans Gbb.out)
      replace Raway := Lib.hid (Raway.out.below hb)
      replace Rk := Lib.hid (Rk.out.below hb)
      clear hb
      have cGn := cell_row Gn.out
      have cGz := cell_row Gz.out
      have cGg := cell_row Gg.out
      have cGx := cell_row Gx.out
      have cGy := cell_row Gy.out
      have cGaa := cell_row Gaa.out
      have cGbb := cell_row Gbb.out
      go_wp2_with fail
      refine (SA.out _).mono ?_
      rintro e w42 ⟨rfl, hb⟩
      clear cGn cGz cGg cGx cGy cGaa cGbb
      replace HB := Lib.hid (below_then HB.out hb)
      replace Gn := Lib.hid ((hb.block _ (lt_of_heap Gn.out)).trans Gn.out)
      replace Gz := Lib.hid ((hb.block _ (lt_of_heap Gz.out)).trans Gz.out)
      replace Gg := Lib.hid ((hb.block _ (lt_of_heap Gg.out)).trans Gg.out)
      replace Gx := Lib.hid ((hb.block _ (lt_of_heap Gx.out)).trans Gx.out)
      replace Gy := Lib.hid ((hb.block _ (lt_of_heap Gy.out)).trans Gy.out)
      replace Gaa := Lib.hid ((hb.block _ (lt_of_heap Gaa.out)).trans Gaa.out)
      replace Gbb := Lib.hid ((hb.block _ (lt_of_heap Gbb.out)).trans Gbb.out)
      replace Raway := Lib.hid (Raway.out.below hb)
      replace Rk := Lib.hid (Rk.out.below hb)
      clear hb
      have cGn := cell_row Gn.out
      have cGz := cell_row Gz.out
      have cGg := cell_row Gg.out
      have cGx := cell_row Gx.out
      have cGy := cell_row Gy.out
      have cGaa := cell_row Gaa.out
      have cGbb := cell_row Gbb.out
      go_wp2
      go_ret
      exact ⟨rfl, HB.out⟩
  · cases hzr : isZ r
    · skip
      go_enter Try.func10, Try.ntmps10
      have HB := Lib.hid (Below.refl w.heap.size w)
      have Gn := Lib.hid (alloc_new (w) (.cells (wcells n) 31))
      replace HB := Lib.hid (below_al HB.out (.cells (wcells n) 31))
      replace Gn := Lib.hid (keepAl (o' := .cells (gcells a false b m) 63) Gn.out)
      have Gz := Lib.hid (alloc_new' (w := (w).alloc (.cells (wcells n) 31)) (n := w.heap.size + 1) (.cells (gcells a false b m) 63) (by simp))
      replace HB := Lib.hid (below_al HB.out (.cells (gcells a false b m) 63))
      go_upto_region 1 with fail
      obtain ⟨wL, hw⟩ : ∃ wx, wx = ((w).alloc (.cells (wcells n) 31)).alloc (.cells (gcells a false b m) 63) := ⟨_, rfl⟩
      rw [← hw] at Gn Gz HB ⊢
      clear hw
      have cz := cell_row Gz.out
      have hz0 := lt_of_heap Gz.out
      replace Gn := Lib.hid (keepAl (o' := .cells (wcells a) 31) Gn.out)
      replace Gz := Lib.hid (keepAl (o' := .cells (wcells a) 31) Gz.out)
      have Gg := Lib.hid (alloc_new (wL) (.cells (wcells a) 31))
      replace HB := Lib.hid (below_al HB.out (.cells (wcells a) 31))
      have cGn := cell_row Gn.out
      have cGz := cell_row Gz.out
      have cGg := cell_row Gg.out
      go_wp2_with fail
      refine (SM.out _).mono ?_
      rintro e w43 ⟨rfl, hb⟩
      clear cGn cGz cGg
      replace HB := Lib.hid (below_then HB.out hb)
      replace Gn := Lib.hid ((hb.block _ (lt_of_heap Gn.out)).trans Gn.out)
      replace Gz := Lib.hid ((hb.block _ (lt_of_heap Gz.out)).trans Gz.out)
      replace Gg := Lib.hid ((hb.block _ (lt_of_heap Gg.out)).trans Gg.out)
      clear hb
      clear cz
      have cGn := cell_row Gn.out
      have cGz := cell_row Gz.out
      have cGg := cell_row Gg.out
      go_wp2_with fail
      refine (SD.out _).mono ?_
      rintro e w44 ⟨rfl, hb⟩
      clear cGn cGz cGg
      replace HB := Lib.hid (below_then HB.out hb)
      replace Gn := Lib.hid ((hb.block _ (lt_of_heap Gn.out)).trans Gn.out)
      replace Gz := Lib.hid ((hb.block _ (lt_of_heap Gz.out)).trans Gz.out)
      replace Gg := Lib.hid ((hb.block _ (lt_of_heap Gg.out)).trans Gg.out)
      clear hb
      replace Gn := Lib.hid (keepAl (o' := .cells (wcells q) 31) Gn.out)
      replace Gz := Lib.hid (keepAl (o' := .cells (wcells q) 31) Gz.out)
      replace Gg := Lib.hid (keepAl (o' := .cells (wcells q) 31) Gg.out)
      have Gq := Lib.hid (alloc_new (w44) (.cells (wcells q) 31))
      replace HB := Lib.hid (below_al HB.out (.cells (wcells q) 31))
      replace Gn := Lib.hid (keepAl (o' := .cells (wcells r) 31) Gn.out)
      replace Gz := Lib.hid (keepAl (o' := .cells (wcells r) 31) Gz.out)
      replace Gg := Lib.hid (keepAl (o' := .cells (wcells r) 31) Gg.out)
      replace Gq := Lib.hid (keepAl (o' := .cells (wcells r) 31) Gq.out)
      have Gr := Lib.hid (alloc_new' (w := (w44).alloc (.cells (wcells q) 31)) (n := w44.heap.size + 1) (.cells (wcells r) 31) (by simp))
      replace HB := Lib.hid (below_al HB.out (.cells (wcells r) 31))
      have cGn := cell_row Gn.out
      have cGz := cell_row Gz.out
      have cGg := cell_row Gg.out
      have cGq := cell_row Gq.out
      have cGr := cell_row Gr.out
      go_wp2_with fail
      refine (SB.out _).mono ?_
      rintro e w45 ⟨rfl, hb⟩
      clear cGn cGz cGg cGq cGr
      replace HB := Lib.hid (below_then HB.out hb)
      replace Gn := Lib.hid ((hb.block _ (lt_of_heap Gn.out)).trans Gn.out)
      replace Gz := Lib.hid ((hb.block _ (lt_of_heap Gz.out)).trans Gz.out)
      replace Gg := Lib.hid ((hb.block _ (lt_of_heap Gg.out)).trans Gg.out)
      replace Gq := Lib.hid ((hb.block _ (lt_of_heap Gq.out)).trans Gq.out)
      replace Gr := Lib.hid ((hb.block _ (lt_of_heap Gr.out)).trans Gr.out)
      clear hb
      have stg := st_row (P := Try.prog) Gg.out rfl (G)
      replace Gn := Lib.hid ((setRow_other (w45) (wL.heap.size) _ (wcells (G)) (by (omega))).trans Gn.out)
      replace Gz := Lib.hid ((setRow_other (w45) (wL.heap.size) _ (wcells (G)) (by (omega))).trans Gz.out)
      replace Gg := Lib.hid (setRow_heap (w45) (wL.heap.size) _ (wcells (G)) _ _ Gg.out)
      replace HB := Lib.hid (below_setRow' HB.out (show _ ≤ wL.heap.size by (omega)) (wcells (G)))
      have cGn := cell_row Gn.out
      have cGz := cell_row Gz.out
      have cGg := cell_row Gg.out
      go_wp2_with fail
      refine (SQ.out _).mono ?_
      rintro e w46 ⟨rfl, hb⟩
      clear cGn cGz cGg stg
      replace HB := Lib.hid (below_then HB.out hb)
      replace Gn := Lib.hid ((hb.block _ (lt_of_heap Gn.out)).trans Gn.out)
      replace Gz := Lib.hid ((hb.block _ (lt_of_heap Gz.out)).trans Gz.out)
      replace Gg := Lib.hid ((hb.block _ (lt_of_heap Gg.out)).trans Gg.out)
      clear hb
      replace Gn := Lib.hid (keepAl (o' := .cells (wcells q) 31) Gn.out)
      replace Gz := Lib.hid (keepAl (o' := .cells (wcells q) 31) Gz.out)
      replace Gg := Lib.hid (keepAl (o' := .cells (wcells q) 31) Gg.out)
      have Gx := Lib.hid (alloc_new (w46) (.cells (wcells q) 31))
      replace HB := Lib.hid (below_al HB.out (.cells (wcells q) 31))
      replace Gn := Lib.hid (keepAl (o' := .cells (wcells r) 31) Gn.out)
      replace Gz := Lib.hid (keepAl (o' := .cells (wcells r) 31) Gz.out)
      replace Gg := Lib.hid (keepAl (o' := .cells (wcells r) 31) Gg.out)
      replace Gx := Lib.hid (keepAl (o' := .cells (wcells r) 31) Gx.out)
      have Gy := Lib.hid (alloc_new' (w := (w46).alloc (.cells (wcells q) 31)) (n := w46.heap.size + 1) (.cells (wcells r) 31) (by simp))
      replace HB := Lib.hid (below_al HB.out (.cells (wcells r) 31))
      have cGn := cell_row Gn.out
      have cGz := cell_row Gz.out
      have cGg := cell_row Gg.out
      have cGx := cell_row Gx.out
      have cGy := cell_row Gy.out
      go_wp2_with fail
      refine (SM.out _).mono ?_
      rintro e w47 ⟨rfl, hb⟩
      clear cGn cGz cGg cGx cGy
      replace HB := Lib.hid (below_then HB.out hb)
      replace Gn := Lib.hid ((hb.block _ (lt_of_heap Gn.out)).trans Gn.out)
      replace Gz := Lib.hid ((hb.block _ (lt_of_heap Gz.out)).trans Gz.out)
      replace Gg := Lib.hid ((hb.block _ (lt_of_heap Gg.out)).trans Gg.out)
      replace Gx := Lib.hid ((hb.block _ (lt_of_heap Gx.out)).trans Gx.out)
      replace Gy := Lib.hid ((hb.block _ (lt_of_heap Gy.out)).trans Gy.out)
      clear hb
      have cGn := cell_row Gn.out
      have cGz := cell_row Gz.out
      have cGg := cell_row Gg.out
      have cGx := cell_row Gx.out
      have cGy := cell_row Gy.out
      go_wp2_with fail
      refine (S13.out _).mono ?_
      rintro e w48 ⟨rG, rfl, hr, hb⟩
      clear cGn cGz cGg cGx cGy
      replace HB := Lib.hid (below_then HB.out hb)
      replace Gn := Lib.hid ((hb.block _ (lt_of_heap Gn.out)).trans Gn.out)
      replace Gz := Lib.hid ((hb.block _ (lt_of_heap Gz.out)).trans Gz.out)
      replace Gg := Lib.hid ((hb.block _ (lt_of_heap Gg.out)).trans Gg.out)
      replace Gx := Lib.hid ((hb.block _ (lt_of_heap Gx.out)).trans Gx.out)
      replace Gy := Lib.hid ((hb.block _ (lt_of_heap Gy.out)).trans Gy.out)
      have RG := Lib.hid hr
      clear hr hb
      have cGn := cell_row Gn.out
      have cGz := cell_row Gz.out
      have cGg := cell_row Gg.out
      have cGx := cell_row Gx.out
      have cGy := cell_row Gy.out
      go_wp2_with fail
      refine (S14.out _ _ RG.out).mono ?_
      rintro e w49 ⟨rfl, hb⟩
      clear cGn cGz cGg cGx cGy
      replace HB := Lib.hid (below_then HB.out hb)
      replace Gn := Lib.hid ((hb.block _ (lt_of_heap Gn.out)).trans Gn.out)
      replace Gz := Lib.hid ((hb.block _ (lt_of_heap Gz.out)).trans Gz.out)
      replace Gg := Lib.hid ((hb.block _ (lt_of_heap Gg.out)).trans Gg.out)
      replace Gx := Lib.hid ((hb.block _ (lt_of_heap Gx.out)).trans Gx.out)
      replace Gy := Lib.hid ((hb.block _ (lt_of_heap Gy.out)).trans Gy.out)
      replace RG := Lib.hid (RG.out.below hb)
      clear hb
      have cGn := cell_row Gn.out
      have cGz := cell_row Gz.out
      have cGg := cell_row Gg.out
      have cGx := cell_row Gx.out
      have cGy := cell_row Gy.out
      go_wp2_with fail
      refine (SD.out _).mono ?_
      rintro e w50 ⟨rfl, hb⟩
      clear cGn cGz cGg cGx cGy
      replace HB := Lib.hid (below_then HB.out hb)
      replace Gn := Lib.hid ((hb.block _ (lt_of_heap Gn.out)).trans Gn.out)
      replace Gz := Lib.hid ((hb.block _ (lt_of_heap Gz.out)).trans Gz.out)
      replace Gg := Lib.hid ((hb.block _ (lt_of_heap Gg.out)).trans Gg.out)
      replace Gx := Lib.hid ((hb.block _ (lt_of_heap Gx.out)).trans Gx.out)
      replace Gy := Lib.hid ((hb.block _ (lt_of_heap Gy.out)).trans Gy.out)
      clear hb
      replace Gn := Lib.hid (keepAl (o' := .cells (wcells q) 31) Gn.out)
      replace Gz := Lib.hid (keepAl (o' := .cells (wcells q) 31) Gz.out)
      replace Gg := Lib.hid (keepAl (o' := .cells (wcells q) 31) Gg.out)
      replace Gx := Lib.hid (keepAl (o' := .cells (wcells q) 31) Gx.out)
      replace Gy := Lib.hid (keepAl (o' := .cells (wcells q) 31) Gy.out)
      have Gaa := Lib.hid (alloc_new (w50) (.cells (wcells q) 31))
      replace HB := Lib.hid (below_al HB.out (.cells (wcells q) 31))
      replace Gn := Lib.hid (keepAl (o' := .cells (wcells r) 31) Gn.out)
      replace Gz := Lib.hid (keepAl (o' := .cells (wcells r) 31) Gz.out)
      replace Gg := Lib.hid (keepAl (o' := .cells (wcells r) 31) Gg.out)
      replace Gx := Lib.hid (keepAl (o' := .cells (wcells r) 31) Gx.out)
      replace Gy := Lib.hid (keepAl (o' := .cells (wcells r) 31) Gy.out)
      replace Gaa := Lib.hid (keepAl (o' := .cells (wcells r) 31) Gaa.out)
      have Gbb := Lib.hid (alloc_new' (w := (w50).alloc (.cells (wcells q) 31)) (n := w50.heap.size + 1) (.cells (wcells r) 31) (by simp))
      replace HB := Lib.hid (below_al HB.out (.cells (wcells r) 31))
      go_upto_region 12 with fail
      obtain ⟨wM, hw⟩ : ∃ wx, wx = ((w50).alloc (.cells (wcells q) 31)).alloc (.cells (wcells r) 31) := ⟨_, rfl⟩
      rw [← hw] at Gn Gz Gg Gx Gy Gaa Gbb HB ⊢
      clear hw
      have xGn := ext_row (B := wM.heap.size) Gn.out (lt_of_heap Gn.out)
      have xGz := ext_row (B := wM.heap.size) Gz.out (lt_of_heap Gz.out)
      have xGg := ext_row (B := wM.heap.size) Gg.out (lt_of_heap Gg.out)
      have xGx := ext_row (B := wM.heap.size) Gx.out (lt_of_heap Gx.out)
      have xGy := ext_row (B := wM.heap.size) Gy.out (lt_of_heap Gy.out)
      have xGaa := ext_row (B := wM.heap.size) Gaa.out (lt_of_heap Gaa.out)
      have xGbb := ext_row (B := wM.heap.size) Gbb.out (lt_of_heap Gbb.out)
      apply wp_region_loose (looseR [_, _, _, _, _, _]) (pureL [])
      · kernel_rfl
      · kernel_rfl
      · kernel_rfl
      · exact allocs_ok [] rfl (by intro T hT; cases hT)
      · exact looseR_st _
      · change wpL _ _ _ _ _ _ _ 6 0 _ _
        refine wpL_calm wM rfl rfl rfl rfl (fun K hK K0 hK0 => ?_)
        go_simp
        first | refine hK _ _ rfl rfl ?_ | refine hK0 _ rfl ?_
        clear hK hK0 K K0
        refine wpL_call (Lft.big q) (big_some w _) rfl rfl rfl rfl (by first | rfl | go_simp) rfl (fun w' hC hF => ?_) (fun v1 hv1 => ?_)
        · obtain ⟨x, rfl⟩ := hC
          go_simp
          go_at_call 33
          exact gives_loose (S15.out _)
        refine wpL_calm wM rfl rfl rfl rfl (fun K hK K0 hK0 => ?_)
        go_simp
        first | refine hK _ _ rfl rfl ?_ | refine hK0 _ rfl ?_
        clear hK hK0 K K0
        refine wpL_call (Lft.big G) (big_some w _) rfl rfl rfl rfl (by first | rfl | go_simp) rfl (fun w' hC hF => ?_) (fun v3 hv3 => ?_)
        · obtain ⟨x, rfl⟩ := hC
          go_simp
          go_at_call 33
          exact gives_loose (S13.out _)
        refine wpL_call (Lft.big A) (big_some w _) rfl rfl rfl rfl (by first | rfl | go_simp) rfl (fun w' hC hF => ?_) (fun v4 hv4 => ?_)
        · obtain ⟨x, rfl⟩ := hC
          go_simp
          go_at_call 50
          exact gives_loose (S16.out _ _ _ (hF 1 _ 95 rfl rfl rfl rfl (by decide)) (hF 3 _ 97 rfl rfl rfl rfl (by decide)))
        refine wpL_call (Lft.big A) (big_some wM _) rfl rfl rfl rfl rfl rfl (fun w' hC hF => ?_) (fun v5 hv5 => ?_)
        · obtain ⟨x, rfl⟩ := hC
          have hf := hF 4 _ 98 rfl rfl rfl rfl (by decide)
          go_simp
          exact ⟨Below.refl _ _, hf⟩
        refine wpL_nil (endL [] rfl (by intro q hq; cases hq) (fun w51 hb hst hap hfin => ?_))
        have Raway : Hid (IsBig w51 v5 A) := Lib.hid (hfin rfl 5 _ 15 rfl rfl rfl rfl)
        replace HB := Lib.hid (below_then HB.out hb)
        replace Gn := Lib.hid ((hb.block _ (lt_of_heap Gn.out)).trans Gn.out)
        replace Gz := Lib.hid ((hb.block _ (lt_of_heap Gz.out)).trans Gz.out)
        replace Gg := Lib.hid ((hb.block _ (lt_of_heap Gg.out)).trans Gg.out)
        replace Gx := Lib.hid ((hb.block _ (lt_of_heap Gx.out)).trans Gx.out)
        replace Gy := Lib.hid ((hb.block _ (lt_of_heap Gy.out)).trans Gy.out)
        replace Gaa := Lib.hid ((hb.block _ (lt_of_heap Gaa.out)).trans Gaa.out)
        replace Gbb := Lib.hid ((hb.block _ (lt_of_heap Gbb.out)).trans Gbb.out)
        clear hb hst hap hfin xGn xGz xGg xGx xGy xGaa xGbb
        have cGn := cell_row Gn.out
        have cGz := cell_row Gz.out
        have cGg := cell_row Gg.out
        have cGx := cell_row Gx.out
        have cGy := cell_row Gy.out
        have cGaa := cell_row Gaa.out
        have cGbb := cell_row Gbb.out
        go_wp2_with fail
        refine (S17.out _ _ Raway.out).mono ?_
        rintro e w52 ⟨rfl, hb⟩
        clear cGn cGz cGg cGx cGy cGaa cGbb
        replace HB := Lib.hid (below_then HB.out hb)
        replace Gn := Lib.hid ((hb.block _ (lt_of_heap Gn.out)).trans Gn.out)
        replace Gz := Lib.hid ((hb.block _ (lt_of_heap Gz.out)).trans Gz.out)
        replace Gg := Lib.hid ((hb.block _ (lt_of_heap Gg.out)).trans Gg.out)
        replace Gx := Lib.hid ((hb.block _ (lt_of_heap Gx.out)).trans Gx.out)
        replace Gy := Lib.hid ((hb.block _ (lt_of_heap Gy.out)).trans Gy.out)
        replace Gaa := Lib.hid ((hb.block _ (lt_of_heap Gaa.out)).trans Gaa.out)
        replace Gbb := Lib.hid ((hb.block _ (lt_of_heap Gbb.out)).trans Gbb.out)
        replace Raway := Lib.hid (Raway.out.below hb)
        clear hb
        have cGn := cell_row Gn.out
        have cGz := cell_row Gz.out
        have cGg := cell_row Gg.out
        have cGx := cell_row Gx.out
        have cGy := cell_row Gy.out
        have cGaa := cell_row Gaa.out
        have cGbb := cell_row Gbb.out
        go_wp2_with fail
        refine (S18.out _).mono ?_
        rintro e w53 ⟨rk, rfl, hr, hb⟩
        clear cGn cGz cGg cGx cGy cGaa cGbb
        replace HB := Lib.hid (below_then HB.out hb)
        replace Gn := Lib.hid ((hb.block _ (lt_of_heap Gn.out)).trans Gn.out)
        replace Gz := Lib.hid ((hb.block _ (lt_of_heap Gz.out)).trans Gz.out)
        replace Gg := Lib.hid ((hb.block _ (lt_of_heap Gg.out)).trans Gg.out)
        replace Gx := Lib.hid ((hb.block _ (lt_of_heap Gx.out)).trans Gx.out)
        replace Gy := Lib.hid ((hb.block _ (lt_of_heap Gy.out)).trans Gy.out)
        replace Gaa := Lib.hid ((hb.block _ (lt_of_heap Gaa.out)).trans Gaa.out)
        replace Gbb := Lib.hid ((hb.block _ (lt_of_heap Gbb.out)).trans Gbb.out)
        replace Raway := Lib.hid (Raway.out.below hb)
        have Rk := Lib.hid hr
        clear hr hb
        have cGn := cell_row Gn.out
        have cGz := cell_row Gz.out
        have cGg := cell_row Gg.out
        have cGx := cell_row Gx.out
        have cGy := cell_row Gy.out
        have cGaa := cell_row Gaa.out
        have cGbb := cell_row Gbb.out
        go_wp2_with fail
        refine (S19.out _ _ _ Rk.out Raway.out).mono ?_
        rintro e w54 ⟨rfl, hb⟩
        clear cGn cGz cGg cGx cGy cGaa cGbb
        replace HB := Lib.hid (below_then HB.out hb)
        replace Gn := Lib.hid ((hb.block _ (lt_of_heap Gn.out)).trans Gn.out)
        replace Gz := Lib.hid ((hb.block _ (lt_of_heap Gz.out)).trans Gz.out)
        replace Gg := Lib.hid ((hb.block _ (lt_of_heap Gg.out)).trans Gg.out)
        replace Gx := Lib.hid ((hb.block _ (lt_of_heap Gx.out)).trans Gx.out)
        replace Gy := Lib.hid ((hb.block _ (lt_of_heap Gy.out)).trans Gy.out)
        replace Gaa := Lib.hid ((hb.block _ (lt_of_heap Gaa.out)).trans Gaa.out)
        replace Gbb := Lib.hid ((hb.block _ (lt_of_heap Gbb.out)).trans Gbb.out)
        replace Raway := Lib.hid (Raway.out.below hb)
        replace Rk := Lib.hid (Rk.out.below hb)
        clear hb
        have cGn := cell_row Gn.out
        have cGz := cell_row Gz.out
        have cGg := cell_row Gg.out
        have cGx := cell_row Gx.out
        have cGy := cell_row Gy.out
        have cGaa := cell_row Gaa.out
        have cGbb := cell_row Gbb.out
        go_wp2_with fail
        refine (SA.out _).mono ?_
        rintro e w55 ⟨rfl, hb⟩
        clear cGn cGz cGg cGx cGy cGaa cGbb
        replace HB := Lib.hid (below_then HB.out hb)
        replace Gn := Lib.hid ((hb.block _ (lt_of_heap Gn.out)).trans Gn.out)
        replace Gz := Lib.hid ((hb.block _ (lt_of_heap Gz.out)).trans Gz.out)
        replace Gg := Lib.hid ((hb.block _ (lt_of_heap Gg.out)).trans Gg.out)
        replace Gx := Lib.hid ((hb.block _ (lt_of_heap Gx.out)).trans Gx.out)
        replace Gy := Lib.hid ((hb.block _ (lt_of_heap Gy.out)).trans Gy.out)
        replace Gaa := Lib.hid ((hb.block _ (lt_of_heap Gaa.out)).trans Gaa.out)
        replace Gbb := Lib.hid ((hb.block _ (lt_of_heap Gbb.out)).trans Gbb.out)
        replace Raway := Lib.hid (Raway.out.below hb)
        replace Rk := Lib.hid (Rk.out.below hb)
        clear hb
        have cGn := cell_row Gn.out
        have cGz := cell_row Gz.out
        have cGg := cell_row Gg.out
        have cGx := cell_row Gx.out
        have cGy := cell_row Gy.out
        have cGaa := cell_row Gaa.out
        have cGbb := cell_row Gbb.out
        go_wp2
        go_ret
        exact ⟨rfl, HB.out⟩
    · skip
      go_enter Try.func10, Try.ntmps10
      have HB := Lib.hid (Below.refl w.heap.size w)
      have Gn := Lib.hid (alloc_new (w) (.cells (wcells n) 31))
      replace HB := Lib.hid (below_al HB.out (.cells (wcells n) 31))
      replace Gn := Lib.hid (keepAl (o' := .cells (gcells a false b m) 63) Gn.out)
      have Gz := Lib.hid (alloc_new' (w := (w).alloc (.cells (wcells n) 31)) (n := w.heap.size + 1) (.cells (gcells a false b m) 63) (by simp))
      replace HB := Lib.hid (below_al HB.out (.cells (gcells a false b m) 63))
      go_upto_region 1 with fail
      obtain ⟨wL, hw⟩ : ∃ wx, wx = ((w).alloc (.cells (wcells n) 31)).alloc (.cells (gcells a false b m) 63) := ⟨_, rfl⟩
      rw [← hw] at Gn Gz HB ⊢
      clear hw
      have cz := cell_row Gz.out
      have hz0 := lt_of_heap Gz.out
      replace Gn := Lib.hid (keepAl (o' := .cells (wcells a) 31) Gn.out)
      replace Gz := Lib.hid (keepAl (o' := .cells (wcells a) 31) Gz.out)
      have Gg := Lib.hid (alloc_new (wL) (.cells (wcells a) 31))
      replace HB := Lib.hid (below_al HB.out (.cells (wcells a) 31))
      have cGn := cell_row Gn.out
      have cGz := cell_row Gz.out
      have cGg := cell_row Gg.out
      go_wp2_with fail
      refine (SM.out _).mono ?_
      rintro e w56 ⟨rfl, hb⟩
      clear cGn cGz cGg
      replace HB := Lib.hid (below_then HB.out hb)
      replace Gn := Lib.hid ((hb.block _ (lt_of_heap Gn.out)).trans Gn.out)
      replace Gz := Lib.hid ((hb.block _ (lt_of_heap Gz.out)).trans Gz.out)
      replace Gg := Lib.hid ((hb.block _ (lt_of_heap Gg.out)).trans Gg.out)
      clear hb
      clear cz
      have cGn := cell_row Gn.out
      have cGz := cell_row Gz.out
      have cGg := cell_row Gg.out
      go_wp2_with fail
      refine (SD.out _).mono ?_
      rintro e w57 ⟨rfl, hb⟩
      clear cGn cGz cGg
      replace HB := Lib.hid (below_then HB.out hb)
      replace Gn := Lib.hid ((hb.block _ (lt_of_heap Gn.out)).trans Gn.out)
      replace Gz := Lib.hid ((hb.block _ (lt_of_heap Gz.out)).trans Gz.out)
      replace Gg := Lib.hid ((hb.block _ (lt_of_heap Gg.out)).trans Gg.out)
      clear hb
      replace Gn := Lib.hid (keepAl (o' := .cells (wcells q) 31) Gn.out)
      replace Gz := Lib.hid (keepAl (o' := .cells (wcells q) 31) Gz.out)
      replace Gg := Lib.hid (keepAl (o' := .cells (wcells q) 31) Gg.out)
      have Gq := Lib.hid (alloc_new (w57) (.cells (wcells q) 31))
      replace HB := Lib.hid (below_al HB.out (.cells (wcells q) 31))
      replace Gn := Lib.hid (keepAl (o' := .cells (wcells r) 31) Gn.out)
      replace Gz := Lib.hid (keepAl (o' := .cells (wcells r) 31) Gz.out)
      replace Gg := Lib.hid (keepAl (o' := .cells (wcells r) 31) Gg.out)
      replace Gq := Lib.hid (keepAl (o' := .cells (wcells r) 31) Gq.out)
      have Gr := Lib.hid (alloc_new' (w := (w57).alloc (.cells (wcells q) 31)) (n := w57.heap.size + 1) (.cells (wcells r) 31) (by simp))
      replace HB := Lib.hid (below_al HB.out (.cells (wcells r) 31))
      have cGn := cell_row Gn.out
      have cGz := cell_row Gz.out
      have cGg := cell_row Gg.out
      have cGq := cell_row Gq.out
      have cGr := cell_row Gr.out
      go_wp2_with fail
      refine (SB.out _).mono ?_
      rintro e w58 ⟨rfl, hb⟩
      clear cGn cGz cGg cGq cGr
      replace HB := Lib.hid (below_then HB.out hb)
      replace Gn := Lib.hid ((hb.block _ (lt_of_heap Gn.out)).trans Gn.out)
      replace Gz := Lib.hid ((hb.block _ (lt_of_heap Gz.out)).trans Gz.out)
      replace Gg := Lib.hid ((hb.block _ (lt_of_heap Gg.out)).trans Gg.out)
      replace Gq := Lib.hid ((hb.block _ (lt_of_heap Gq.out)).trans Gq.out)
      replace Gr := Lib.hid ((hb.block _ (lt_of_heap Gr.out)).trans Gr.out)
      clear hb
      have stg := st_row (P := Try.prog) Gg.out rfl (G)
      replace Gn := Lib.hid ((setRow_other (w58) (wL.heap.size) _ (wcells (G)) (by (omega))).trans Gn.out)
      replace Gz := Lib.hid ((setRow_other (w58) (wL.heap.size) _ (wcells (G)) (by (omega))).trans Gz.out)
      replace Gg := Lib.hid (setRow_heap (w58) (wL.heap.size) _ (wcells (G)) _ _ Gg.out)
      replace HB := Lib.hid (below_setRow' HB.out (show _ ≤ wL.heap.size by (omega)) (wcells (G)))
      have cGn := cell_row Gn.out
      have cGz := cell_row Gz.out
      have cGg := cell_row Gg.out
      go_wp2_with fail
      refine (SQ.out _).mono ?_
      rintro e w59 ⟨rfl, hb⟩
      clear cGn cGz cGg stg
      replace HB := Lib.hid (below_then HB.out hb)
      replace Gn := Lib.hid ((hb.block _ (lt_of_heap Gn.out)).trans Gn.out)
      replace Gz := Lib.hid ((hb.block _ (lt_of_heap Gz.out)).trans Gz.out)
      replace Gg := Lib.hid ((hb.block _ (lt_of_heap Gg.out)).trans Gg.out)
      clear hb
      replace Gn := Lib.hid (keepAl (o' := .cells (wcells q) 31) Gn.out)
      replace Gz := Lib.hid (keepAl (o' := .cells (wcells q) 31) Gz.out)
      replace Gg := Lib.hid (keepAl (o' := .cells (wcells q) 31) Gg.out)
      have Gx := Lib.hid (alloc_new (w59) (.cells (wcells q) 31))
      replace HB := Lib.hid (below_al HB.out (.cells (wcells q) 31))
      replace Gn := Lib.hid (keepAl (o' := .cells (wcells r) 31) Gn.out)
      replace Gz := Lib.hid (keepAl (o' := .cells (wcells r) 31) Gz.out)
      replace Gg := Lib.hid (keepAl (o' := .cells (wcells r) 31) Gg.out)
      replace Gx := Lib.hid (keepAl (o' := .cells (wcells r) 31) Gx.out)
      have Gy := Lib.hid (alloc_new' (w := (w59).alloc (.cells (wcells q) 31)) (n := w59.heap.size + 1) (.cells (wcells r) 31) (by simp))
      replace HB := Lib.hid (below_al HB.out (.cells (wcells r) 31))
      have cGn := cell_row Gn.out
      have cGz := cell_row Gz.out
      have cGg := cell_row Gg.out
      have cGx := cell_row Gx.out
      have cGy := cell_row Gy.out
      go_wp2_with fail
      refine (SM.out _).mono ?_
      rintro e w60 ⟨rfl, hb⟩
      clear cGn cGz cGg cGx cGy
      replace HB := Lib.hid (below_then HB.out hb)
      replace Gn := Lib.hid ((hb.block _ (lt_of_heap Gn.out)).trans Gn.out)
      replace Gz := Lib.hid ((hb.block _ (lt_of_heap Gz.out)).trans Gz.out)
      replace Gg := Lib.hid ((hb.block _ (lt_of_heap Gg.out)).trans Gg.out)
      replace Gx := Lib.hid ((hb.block _ (lt_of_heap Gx.out)).trans Gx.out)
      replace Gy := Lib.hid ((hb.block _ (lt_of_heap Gy.out)).trans Gy.out)
      clear hb
      have cGn := cell_row Gn.out
      have cGz := cell_row Gz.out
      have cGg := cell_row Gg.out
      have cGx := cell_row Gx.out
      have cGy := cell_row Gy.out
      go_wp2_with fail
      refine (S13.out _).mono ?_
      rintro e w61 ⟨rG, rfl, hr, hb⟩
      clear cGn cGz cGg cGx cGy
      replace HB := Lib.hid (below_then HB.out hb)
      replace Gn := Lib.hid ((hb.block _ (lt_of_heap Gn.out)).trans Gn.out)
      replace Gz := Lib.hid ((hb.block _ (lt_of_heap Gz.out)).trans Gz.out)
      replace Gg := Lib.hid ((hb.block _ (lt_of_heap Gg.out)).trans Gg.out)
      replace Gx := Lib.hid ((hb.block _ (lt_of_heap Gx.out)).trans Gx.out)
      replace Gy := Lib.hid ((hb.block _ (lt_of_heap Gy.out)).trans Gy.out)
      have RG := Lib.hid hr
      clear hr hb
      have cGn := cell_row Gn.out
      have cGz := cell_row Gz.out
      have cGg := cell_row Gg.out
      have cGx := cell_row Gx.out
      have cGy := cell_row Gy.out
      go_wp2_with fail
      refine (S14.out _ _ RG.out).mono ?_
      rintro e w62 ⟨rfl, hb⟩
      clear cGn cGz cGg cGx cGy
      replace HB := Lib.hid (below_then HB.out hb)
      replace Gn := Lib.hid ((hb.block _ (lt_of_heap Gn.out)).trans Gn.out)
      replace Gz := Lib.hid ((hb.block _ (lt_of_heap Gz.out)).trans Gz.out)
      replace Gg := Lib.hid ((hb.block _ (lt_of_heap Gg.out)).trans Gg.out)
      replace Gx := Lib.hid ((hb.block _ (lt_of_heap Gx.out)).trans Gx.out)
      replace Gy := Lib.hid ((hb.block _ (lt_of_heap Gy.out)).trans Gy.out)
      replace RG := Lib.hid (RG.out.below hb)
      clear hb
      have cGn := cell_row Gn.out
      have cGz := cell_row Gz.out
      have cGg := cell_row Gg.out
      have cGx := cell_row Gx.out
      have cGy := cell_row Gy.out
      go_wp2_with fail
      refine (SD.out _).mono ?_
      rintro e w63 ⟨rfl, hb⟩
      clear cGn cGz cGg cGx cGy
      replace HB := Lib.hid (below_then HB.out hb)
      replace Gn := Lib.hid ((hb.block _ (lt_of_heap Gn.out)).trans Gn.out)
      replace Gz := Lib.hid ((hb.block _ (lt_of_heap Gz.out)).trans Gz.out)
      replace Gg := Lib.hid ((hb.block _ (lt_of_heap Gg.out)).trans Gg.out)
      replace Gx := Lib.hid ((hb.block _ (lt_of_heap Gx.out)).trans Gx.out)
      replace Gy := Lib.hid ((hb.block _ (lt_of_heap Gy.out)).trans Gy.out)
      clear hb
      replace Gn := Lib.hid (keepAl (o' := .cells (wcells q) 31) Gn.out)
      replace Gz := Lib.hid (keepAl (o' := .cells (wcells q) 31) Gz.out)
      replace Gg := Lib.hid (keepAl (o' := .cells (wcells q) 31) Gg.out)
      replace Gx := Lib.hid (keepAl (o' := .cells (wcells q) 31) Gx.out)
      replace Gy := Lib.hid (keepAl (o' := .cells (wcells q) 31) Gy.out)
      have Gaa := Lib.hid (alloc_new (w63) (.cells (wcells q) 31))
      replace HB := Lib.hid (below_al HB.out (.cells (wcells q) 31))
      replace Gn := Lib.hid (keepAl (o' := .cells (wcells r) 31) Gn.out)
      replace Gz := Lib.hid (keepAl (o' := .cells (wcells r) 31) Gz.out)
      replace Gg := Lib.hid (keepAl (o' := .cells (wcells r) 31) Gg.out)
      replace Gx := Lib.hid (keepAl (o' := .cells (wcells r) 31) Gx.out)
      replace Gy := Lib.hid (keepAl (o' := .cells (wcells r) 31) Gy.out)
      replace Gaa := Lib.hid (keepAl (o' := .cells (wcells r) 31) Gaa.out)
      have Gbb := Lib.hid (alloc_new' (w := (w63).alloc (.cells (wcells q) 31)) (n := w63.heap.size + 1) (.cells (wcells r) 31) (by simp))
      replace HB := Lib.hid (below_al HB.out (.cells (wcells r) 31))
      go_upto_region 12 with fail
      obtain ⟨wM, hw⟩ : ∃ wx, wx = ((w63).alloc (.cells (wcells q) 31)).alloc (.cells (wcells r) 31) := ⟨_, rfl⟩
      rw [← hw] at Gn Gz Gg Gx Gy Gaa Gbb HB ⊢
      clear hw
      have xGn := ext_row (B := wM.heap.size) Gn.out (lt_of_heap Gn.out)
      have xGz := ext_row (B := wM.heap.size) Gz.out (lt_of_heap Gz.out)
      have xGg := ext_row (B := wM.heap.size) Gg.out (lt_of_heap Gg.out)
      have xGx := ext_row (B := wM.heap.size) Gx.out (lt_of_heap Gx.out)
      have xGy := ext_row (B := wM.heap.size) Gy.out (lt_of_heap Gy.out)
      have xGaa := ext_row (B := wM.heap.size) Gaa.out (lt_of_heap Gaa.out)
      have xGbb := ext_row (B := wM.heap.size) Gbb.out (lt_of_heap Gbb.out)
      apply wp_region_loose (looseR [_, _, _, _, _, _]) (pureL [])
      · kernel_rfl
      · kernel_rfl
      · kernel_rfl
      · exact allocs_ok [] rfl (by intro T hT; cases hT)
      · exact looseR_st _
      · change wpL _ _ _ _ _ _ _ 6 0 _ _
        refine wpL_calm wM rfl rfl rfl rfl (fun K hK K0 hK0 => ?_)
        go_simp
        first | refine hK _ _ rfl rfl ?_ | refine hK0 _ rfl ?_
        clear hK hK0 K K0
        refine wpL_call (Lft.big q) (big_some w _) rfl rfl rfl rfl (by first | rfl | go_simp) rfl (fun w' hC hF => ?_) (fun v1 hv1 => ?_)
        · obtain ⟨x, rfl⟩ := hC
          go_simp
          go_at_call 33
          exact gives_loose (S15.out _)
        refine wpL_calm wM rfl rfl rfl rfl (fun K hK K0 hK0 => ?_)
        go_simp
        first | refine hK _ _ rfl rfl ?_ | refine hK0 _ rfl ?_
        clear hK hK0 K K0
        refine wpL_call (Lft.big G) (big_some w _) rfl rfl rfl rfl (by first | rfl | go_simp) rfl (fun w' hC hF => ?_) (fun v3 hv3 => ?_)
        · obtain ⟨x, rfl⟩ := hC
          go_simp
          go_at_call 33
          exact gives_loose (S13.out _)
        refine wpL_call (Lft.big A) (big_some w _) rfl rfl rfl rfl (by first | rfl | go_simp) rfl (fun w' hC hF => ?_) (fun v4 hv4 => ?_)
        · obtain ⟨x, rfl⟩ := hC
          go_simp
          go_at_call 50
          exact gives_loose (S16.out _ _ _ (hF 1 _ 95 rfl rfl rfl rfl (by decide)) (hF 3 _ 97 rfl rfl rfl rfl (by decide)))
        refine wpL_call (Lft.big A) (big_some wM _) rfl rfl rfl rfl rfl rfl (fun w' hC hF => ?_) (fun v5 hv5 => ?_)
        · obtain ⟨x, rfl⟩ := hC
          have hf := hF 4 _ 98 rfl rfl rfl rfl (by decide)
          go_simp
          exact ⟨Below.refl _ _, hf⟩
        refine wpL_nil (endL [] rfl (by intro q hq; cases hq) (fun w64 hb hst hap hfin => ?_))
        have Raway : Hid (IsBig w64 v5 A) := Lib.hid (hfin rfl 5 _ 15 rfl rfl rfl rfl)
        replace HB := Lib.hid (below_then HB.out hb)
        replace Gn := Lib.hid ((hb.block _ (lt_of_heap Gn.out)).trans Gn.out)
        replace Gz := Lib.hid ((hb.block _ (lt_of_heap Gz.out)).trans Gz.out)
        replace Gg := Lib.hid ((hb.block _ (lt_of_heap Gg.out)).trans Gg.out)
        replace Gx := Lib.hid ((hb.block _ (lt_of_heap Gx.out)).trans Gx.out)
        replace Gy := Lib.hid ((hb.block _ (lt_of_heap Gy.out)).trans Gy.out)
        replace Gaa := Lib.hid ((hb.block _ (lt_of_heap Gaa.out)).trans Gaa.out)
        replace Gbb := Lib.hid ((hb.block _ (lt_of_heap Gbb.out)).trans Gbb.out)
        clear hb hst hap hfin xGn xGz xGg xGx xGy xGaa xGbb
        have cGn := cell_row Gn.out
        have cGz := cell_row Gz.out
        have cGg := cell_row Gg.out
        have cGx := cell_row Gx.out
        have cGy := cell_row Gy.out
        have cGaa := cell_row Gaa.out
        have cGbb := cell_row Gbb.out
        go_wp2_with fail
        refine (S17.out _ _ Raway.out).mono ?_
        rintro e w65 ⟨rfl, hb⟩
        clear cGn cGz cGg cGx cGy cGaa cGbb
        replace HB := Lib.hid (below_then HB.out hb)
        replace Gn := Lib.hid ((hb.block _ (lt_of_heap Gn.out)).trans Gn.out)
        replace Gz := Lib.hid ((hb.block _ (lt_of_heap Gz.out)).trans Gz.out)
        replace Gg := Lib.hid ((hb.block _ (lt_of_heap Gg.out)).trans Gg.out)
        replace Gx := Lib.hid ((hb.block _ (lt_of_heap Gx.out)).trans Gx.out)
        replace Gy := Lib.hid ((hb.block _ (lt_of_heap Gy.out)).trans Gy.out)
        replace Gaa := Lib.hid ((hb.block _ (lt_of_heap Gaa.out)).trans Gaa.out)
        replace Gbb := Lib.hid ((hb.block _ (lt_of_heap Gbb.out)).trans Gbb.out)
        replace Raway := Lib.hid (Raway.out.below hb)
        clear hb
        have cGn := cell_row Gn.out
        have cGz := cell_row Gz.out
        have cGg := cell_row Gg.out
        have cGx := cell_row Gx.out
        have cGy := cell_row Gy.out
        have cGaa := cell_row Gaa.out
        have cGbb := cell_row Gbb.out
        go_wp2_with fail
        refine (S18.out _).mono ?_
        rintro e w66 ⟨rk, rfl, hr, hb⟩
        clear cGn cGz cGg cGx cGy cGaa cGbb
        replace HB := Lib.hid (below_then HB.out hb)
        replace Gn := Lib.hid ((hb.block _ (lt_of_heap Gn.out)).trans Gn.out)
        replace Gz := Lib.hid ((hb.block _ (lt_of_heap Gz.out)).trans Gz.out)
        replace Gg := Lib.hid ((hb.block _ (lt_of_heap Gg.out)).trans Gg.out)
        replace Gx := Lib.hid ((hb.block _ (lt_of_heap Gx.out)).trans Gx.out)
        replace Gy := Lib.hid ((hb.block _ (lt_of_heap Gy.out)).trans Gy.out)
        replace Gaa := Lib.hid ((hb.block _ (lt_of_heap Gaa.out)).trans Gaa.out)
        replace Gbb := Lib.hid ((hb.block _ (lt_of_heap Gbb.out)).trans Gbb.out)
        replace Raway := Lib.hid (Raway.out.below hb)
        have Rk := Lib.hid hr
        clear hr hb
        have cGn := cell_row Gn.out
        have cGz := cell_row Gz.out
        have cGg := cell_row Gg.out
        have cGx := cell_row Gx.out
        have cGy := cell_row Gy.out
        have cGaa := cell_row Gaa.out
        have cGbb := cell_row Gbb.out
        go_wp2_with fail
        refine (S19.out _ _ _ Rk.out Raway.out).mono ?_
        rintro e w67 ⟨rfl, hb⟩
        clear cGn cGz cGg cGx cGy cGaa cGbb
        replace HB := Lib.hid (below_then HB.out hb)
        replace Gn := Lib.hid ((hb.block _ (lt_of_heap Gn.out)).trans Gn.out)
        replace Gz := Lib.hid ((hb.block _ (lt_of_heap Gz.out)).trans Gz.out)
        replace Gg := Lib.hid ((hb.block _ (lt_of_heap Gg.out)).trans Gg.out)
        replace Gx := Lib.hid ((hb.block _ (lt_of_heap Gx.out)).trans Gx.out)
        replace Gy := Lib.hid ((hb.block _ (lt_of_heap Gy.out)).trans Gy.out)
        replace Gaa := Lib.hid ((hb.block _ (lt_of_heap Gaa.out)).trans Gaa.out)
        replace Gbb := Lib.hid ((hb.block _ (lt_of_heap Gbb.out)).trans Gbb.out)
        replace Raway := Lib.hid (Raway.out.below hb)
        replace Rk := Lib.hid (Rk.out.below hb)
        clear hb
        have cGn := cell_row Gn.out
        have cGz := cell_row Gz.out
        have cGg := cell_row Gg.out
        have cGx := cell_row Gx.out
        have cGy := cell_row Gy.out
        have cGaa := cell_row Gaa.out
        have cGbb := cell_row Gbb.out
        go_wp2_with fail
        refine (SA.out _).mono ?_
        rintro e w68 ⟨rfl, hb⟩
        clear cGn cGz cGg cGx cGy cGaa cGbb
        replace HB := Lib.hid (below_then HB.out hb)
        replace Gn := Lib.hid ((hb.block _ (lt_of_heap Gn.out)).trans Gn.out)
        replace Gz := Lib.hid ((hb.block _ (lt_of_heap Gz.out)).trans Gz.out)
        replace Gg := Lib.hid ((hb.block _ (lt_of_heap Gg.out)).trans Gg.out)
        replace Gx := Lib.hid ((hb.block _ (lt_of_heap Gx.out)).trans Gx.out)
        replace Gy := Lib.hid ((hb.block _ (lt_of_heap Gy.out)).trans Gy.out)
        replace Gaa := Lib.hid ((hb.block _ (lt_of_heap Gaa.out)).trans Gaa.out)
        replace Gbb := Lib.hid ((hb.block _ (lt_of_heap Gbb.out)).trans Gbb.out)
        replace Raway := Lib.hid (Raway.out.below hb)
        replace Rk := Lib.hid (Rk.out.below hb)
        clear hb
        have cGn := cell_row Gn.out
        have cGz := cell_row Gz.out
        have cGg := cell_row Gg.out
        have cGx := cell_row Gx.out
        have cGy := cell_row Gy.out
        have cGaa := cell_row Gaa.out
        have cGbb := cell_row Gbb.out
        go_wp2
        go_ret
        exact ⟨rfl, HB.out⟩
end Go.Proofs.Ytkkjbkadaofjpaa
