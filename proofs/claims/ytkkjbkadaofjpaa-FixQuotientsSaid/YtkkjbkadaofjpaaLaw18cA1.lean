/- THE WALKS of the law on quotients by a guess, way by way. -/
import Derived.Test.YtkkjbkadaofjpaaLaw18b
namespace Go.Proofs.Ytkkjbkadaofjpaa
open Go Go.RowKit

attribute [local go_sem ↓] Go.wp_at_zero Go.wp_at_succ
set_option maxRecDepth 100000 in
set_option maxHeartbeats 2000000 in
theorem fq_A1_T1a (n d a : Nat) (raw : Bool) (b m : Int) (w : World) (hn : n < M) (hd : d < M) (hc : mayN n d ≠ 0) (hm : m < 0) (hS : ∀ w' : World, Calls Try.prog 48 #[wv n, wv d, wv a, .int .i64 m] w' fun e w'' => e = .returned (.tuple #[wv 0, wv 0, .int .i64 0, .int .i64 1]) ∧ Below w'.heap.size w' w'') :
    Calls Try.prog 9 #[wv n, wv d, .agg (gcells a raw b m)] w fun e w' => e = .returned (.bool true) ∧ Below w.heap.size w w' := by
  have SQ := Lib.hid hS
  have SA := Lib.hid (fun w' => awake18_any w')
  have SM := Lib.hid (fun w' => rmay_any n d hn hd w')
  obtain ⟨C, hC⟩ : ∃ C, C = mayN n d := ⟨_, rfl⟩
  rw [← hC] at SM hc
  have hcb : (C == 0) = false := by simp [hc]
  have hcb2 : (C != 0) = true := by simp [hc]
  clear hn hd hS hC
  go_enter Try.func9, Try.ntmps9
  have HB := Lib.hid (Below.refl w.heap.size w)
  have Gn := Lib.hid (alloc_new (w) (.cells (wcells n) 31))
  replace HB := Lib.hid (below_al HB.out (.cells (wcells n) 31))
  replace Gn := Lib.hid (keepAl (o' := .cells (wcells d) 31) Gn.out)
  have Gd := Lib.hid (alloc_new' (w := (w).alloc (.cells (wcells n) 31)) (n := w.heap.size + 1) (.cells (wcells d) 31) (by simp))
  replace HB := Lib.hid (below_al HB.out (.cells (wcells d) 31))
  replace Gn := Lib.hid (keepAl (o' := .cells (gcells a raw b m) 63) Gn.out)
  replace Gd := Lib.hid (keepAl (o' := .cells (gcells a raw b m) 63) Gd.out)
  have Gz := Lib.hid (alloc_new' (w := ((w).alloc (.cells (wcells n) 31)).alloc (.cells (wcells d) 31)) (n := w.heap.size + 1 + 1) (.cells (gcells a raw b m) 63) (by simp))
  replace HB := Lib.hid (below_al HB.out (.cells (gcells a raw b m) 63))
  go_upto_region 1 with fail
  obtain ⟨wL, hw⟩ : ∃ wx, wx = (((w).alloc (.cells (wcells n) 31)).alloc (.cells (wcells d) 31)).alloc (.cells (gcells a raw b m) 63) := ⟨_, rfl⟩
  rw [← hw] at Gn Gd Gz HB ⊢
  clear hw
  have cz := cell_row Gz.out
  have hz0 := lt_of_heap Gz.out
  replace Gn := Lib.hid (keepAl (o' := .cells (wcells a) 31) Gn.out)
  replace Gd := Lib.hid (keepAl (o' := .cells (wcells a) 31) Gd.out)
  replace Gz := Lib.hid (keepAl (o' := .cells (wcells a) 31) Gz.out)
  have Gg := Lib.hid (alloc_new (wL) (.cells (wcells a) 31))
  replace HB := Lib.hid (below_al HB.out (.cells (wcells a) 31))
  have cGn := cell_row Gn.out
  have cGd := cell_row Gd.out
  have cGz := cell_row Gz.out
  have cGg := cell_row Gg.out
  go_wp2_with fail
  refine (SM.out _).mono ?_
  rintro e w1 ⟨rfl, hb⟩
  clear cGn cGd cGz cGg
  replace HB := Lib.hid (below_then HB.out hb)
  replace Gn := Lib.hid ((hb.block _ (lt_of_heap Gn.out)).trans Gn.out)
  replace Gd := Lib.hid ((hb.block _ (lt_of_heap Gd.out)).trans Gd.out)
  replace Gz := Lib.hid ((hb.block _ (lt_of_heap Gz.out)).trans Gz.out)
  replace Gg := Lib.hid ((hb.block _ (lt_of_heap Gg.out)).trans Gg.out)
  clear hb
  clear cz
  have cGn := cell_row Gn.out
  have cGd := cell_row Gd.out
  have cGz := cell_row Gz.out
  have cGg := cell_row Gg.out
  go_wp2_with fail
  refine (SQ.out _).mono ?_
  rintro e w2 ⟨rfl, hb⟩
  clear cGn cGd cGz cGg
  replace HB := Lib.hid (below_then HB.out hb)
  replace Gn := Lib.hid ((hb.block _ (lt_of_heap Gn.out)).trans Gn.out)
  replace Gd := Lib.hid ((hb.block _ (lt_of_heap Gd.out)).trans Gd.out)
  replace Gz := Lib.hid ((hb.block _ (lt_of_heap Gz.out)).trans Gz.out)
  replace Gg := Lib.hid ((hb.block _ (lt_of_heap Gg.out)).trans Gg.out)
  clear hb
  replace Gn := Lib.hid (keepAl (o' := .cells (wcells 0) 31) Gn.out)
  replace Gd := Lib.hid (keepAl (o' := .cells (wcells 0) 31) Gd.out)
  replace Gz := Lib.hid (keepAl (o' := .cells (wcells 0) 31) Gz.out)
  replace Gg := Lib.hid (keepAl (o' := .cells (wcells 0) 31) Gg.out)
  have Gx := Lib.hid (alloc_new (w2) (.cells (wcells 0) 31))
  replace HB := Lib.hid (below_al HB.out (.cells (wcells 0) 31))
  replace Gn := Lib.hid (keepAl (o' := .cells (wcells 0) 31) Gn.out)
  replace Gd := Lib.hid (keepAl (o' := .cells (wcells 0) 31) Gd.out)
  replace Gz := Lib.hid (keepAl (o' := .cells (wcells 0) 31) Gz.out)
  replace Gg := Lib.hid (keepAl (o' := .cells (wcells 0) 31) Gg.out)
  replace Gx := Lib.hid (keepAl (o' := .cells (wcells 0) 31) Gx.out)
  have Gy := Lib.hid (alloc_new' (w := (w2).alloc (.cells (wcells 0) 31)) (n := w2.heap.size + 1) (.cells (wcells 0) 31) (by simp))
  replace HB := Lib.hid (below_al HB.out (.cells (wcells 0) 31))
  have cGn := cell_row Gn.out
  have cGd := cell_row Gd.out
  have cGz := cell_row Gz.out
  have cGg := cell_row Gg.out
  have cGx := cell_row Gx.out
  have cGy := cell_row Gy.out
  go_wp2_with fail
  refine (SA.out _).mono ?_
  rintro e w3 ⟨rfl, hb⟩
  clear cGn cGd cGz cGg cGx cGy
  replace HB := Lib.hid (below_then HB.out hb)
  replace Gn := Lib.hid ((hb.block _ (lt_of_heap Gn.out)).trans Gn.out)
  replace Gd := Lib.hid ((hb.block _ (lt_of_heap Gd.out)).trans Gd.out)
  replace Gz := Lib.hid ((hb.block _ (lt_of_heap Gz.out)).trans Gz.out)
  replace Gg := Lib.hid ((hb.block _ (lt_of_heap Gg.out)).trans Gg.out)
  replace Gx := Lib.hid ((hb.block _ (lt_of_heap Gx.out)).trans Gx.out)
  replace Gy := Lib.hid ((hb.block _ (lt_of_heap Gy.out)).trans Gy.out)
  clear hb
  have cGn := cell_row Gn.out
  have cGd := cell_row Gd.out
  have cGz := cell_row Gz.out
  have cGg := cell_row Gg.out
  have cGx := cell_row Gx.out
  have cGy := cell_row Gy.out
  go_wp2
  go_ret
  exact ⟨rfl, HB.out⟩
set_option maxRecDepth 100000 in
set_option maxHeartbeats 2000000 in
theorem fq_A1_T1b (n d a : Nat) (raw : Bool) (b m : Int) (w : World) (hn : n < M) (hd : d < M) (hc : mayN n d ≠ 0) (hm : 100 < m) (hS : ∀ w' : World, Calls Try.prog 48 #[wv n, wv d, wv a, .int .i64 m] w' fun e w'' => e = .returned (.tuple #[wv 0, wv 0, .int .i64 0, .int .i64 1]) ∧ Below w'.heap.size w' w'') :
    Calls Try.prog 9 #[wv n, wv d, .agg (gcells a raw b m)] w fun e w' => e = .returned (.bool true) ∧ Below w.heap.size w w' := by
  have SQ := Lib.hid hS
  have SA := Lib.hid (fun w' => awake18_any w')
  have SM := Lib.hid (fun w' => rmay_any n d hn hd w')
  have hm0 : ¬ m < 0 := by omega
  obtain ⟨C, hC⟩ : ∃ C, C = mayN n d := ⟨_, rfl⟩
  rw [← hC] at SM hc
  have hcb : (C == 0) = false := by simp [hc]
  have hcb2 : (C != 0) = true := by simp [hc]
  clear hn hd hS hC
  go_enter Try.func9, Try.ntmps9
  have HB := Lib.hid (Below.refl w.heap.size w)
  have Gn := Lib.hid (alloc_new (w) (.cells (wcells n) 31))
  replace HB := Lib.hid (below_al HB.out (.cells (wcells n) 31))
  replace Gn := Lib.hid (keepAl (o' := .cells (wcells d) 31) Gn.out)
  have Gd := Lib.hid (alloc_new' (w := (w).alloc (.cells (wcells n) 31)) (n := w.heap.size + 1) (.cells (wcells d) 31) (by simp))
  replace HB := Lib.hid (below_al HB.out (.cells (wcells d) 31))
  replace Gn := Lib.hid (keepAl (o' := .cells (gcells a raw b m) 63) Gn.out)
  replace Gd := Lib.hid (keepAl (o' := .cells (gcells a raw b m) 63) Gd.out)
  have Gz := Lib.hid (alloc_new' (w := ((w).alloc (.cells (wcells n) 31)).alloc (.cells (wcells d) 31)) (n := w.heap.size + 1 + 1) (.cells (gcells a raw b m) 63) (by simp))
  replace HB := Lib.hid (below_al HB.out (.cells (gcells a raw b m) 63))
  go_upto_region 1 with fail
  obtain ⟨wL, hw⟩ : ∃ wx, wx = (((w).alloc (.cells (wcells n) 31)).alloc (.cells (wcells d) 31)).alloc (.cells (gcells a raw b m) 63) := ⟨_, rfl⟩
  rw [← hw] at Gn Gd Gz HB ⊢
  clear hw
  have cz := cell_row Gz.out
  have hz0 := lt_of_heap Gz.out
  replace Gn := Lib.hid (keepAl (o' := .cells (wcells a) 31) Gn.out)
  replace Gd := Lib.hid (keepAl (o' := .cells (wcells a) 31) Gd.out)
  replace Gz := Lib.hid (keepAl (o' := .cells (wcells a) 31) Gz.out)
  have Gg := Lib.hid (alloc_new (wL) (.cells (wcells a) 31))
  replace HB := Lib.hid (below_al HB.out (.cells (wcells a) 31))
  have cGn := cell_row Gn.out
  have cGd := cell_row Gd.out
  have cGz := cell_row Gz.out
  have cGg := cell_row Gg.out
  go_wp2_with fail
  refine (SM.out _).mono ?_
  rintro e w4 ⟨rfl, hb⟩
  clear cGn cGd cGz cGg
  replace HB := Lib.hid (below_then HB.out hb)
  replace Gn := Lib.hid ((hb.block _ (lt_of_heap Gn.out)).trans Gn.out)
  replace Gd := Lib.hid ((hb.block _ (lt_of_heap Gd.out)).trans Gd.out)
  replace Gz := Lib.hid ((hb.block _ (lt_of_heap Gz.out)).trans Gz.out)
  replace Gg := Lib.hid ((hb.block _ (lt_of_heap Gg.out)).trans Gg.out)
  clear hb
  clear cz
  have cGn := cell_row Gn.out
  have cGd := cell_row Gd.out
  have cGz := cell_row Gz.out
  have cGg := cell_row Gg.out
  go_wp2_with fail
  refine (SQ.out _).mono ?_
  rintro e w5 ⟨rfl, hb⟩
  clear cGn cGd cGz cGg
  replace HB := Lib.hid (below_then HB.out hb)
  replace Gn := Lib.hid ((hb.block _ (lt_of_heap Gn.out)).trans Gn.out)
  replace Gd := Lib.hid ((hb.block _ (lt_of_heap Gd.out)).trans Gd.out)
  replace Gz := Lib.hid ((hb.block _ (lt_of_heap Gz.out)).trans Gz.out)
  replace Gg := Lib.hid ((hb.block _ (lt_of_heap Gg.out)).trans Gg.out)
  clear hb
  replace Gn := Lib.hid (keepAl (o' := .cells (wcells 0) 31) Gn.out)
  replace Gd := Lib.hid (keepAl (o' := .cells (wcells 0) 31) Gd.out)
  replace Gz := Lib.hid (keepAl (o' := .cells (wcells 0) 31) Gz.out)
  replace Gg := Lib.hid (keepAl (o' := .cells (wcells 0) 31) Gg.out)
  have Gx := Lib.hid (alloc_new (w5) (.cells (wcells 0) 31))
  replace HB := Lib.hid (below_al HB.out (.cells (wcells 0) 31))
  replace Gn := Lib.hid (keepAl (o' := .cells (wcells 0) 31) Gn.out)
  replace Gd := Lib.hid (keepAl (o' := .cells (wcells 0) 31) Gd.out)
  replace Gz := Lib.hid (keepAl (o' := .cells (wcells 0) 31) Gz.out)
  replace Gg := Lib.hid (keepAl (o' := .cells (wcells 0) 31) Gg.out)
  replace Gx := Lib.hid (keepAl (o' := .cells (wcells 0) 31) Gx.out)
  have Gy := Lib.hid (alloc_new' (w := (w5).alloc (.cells (wcells 0) 31)) (n := w5.heap.size + 1) (.cells (wcells 0) 31) (by simp))
  replace HB := Lib.hid (below_al HB.out (.cells (wcells 0) 31))
  have cGn := cell_row Gn.out
  have cGd := cell_row Gd.out
  have cGz := cell_row Gz.out
  have cGg := cell_row Gg.out
  have cGx := cell_row Gx.out
  have cGy := cell_row Gy.out
  go_wp2_with fail
  refine (SA.out _).mono ?_
  rintro e w6 ⟨rfl, hb⟩
  clear cGn cGd cGz cGg cGx cGy
  replace HB := Lib.hid (below_then HB.out hb)
  replace Gn := Lib.hid ((hb.block _ (lt_of_heap Gn.out)).trans Gn.out)
  replace Gd := Lib.hid ((hb.block _ (lt_of_heap Gd.out)).trans Gd.out)
  replace Gz := Lib.hid ((hb.block _ (lt_of_heap Gz.out)).trans Gz.out)
  replace Gg := Lib.hid ((hb.block _ (lt_of_heap Gg.out)).trans Gg.out)
  replace Gx := Lib.hid ((hb.block _ (lt_of_heap Gx.out)).trans Gx.out)
  replace Gy := Lib.hid ((hb.block _ (lt_of_heap Gy.out)).trans Gy.out)
  clear hb
  have cGn := cell_row Gn.out
  have cGd := cell_row Gd.out
  have cGz := cell_row Gz.out
  have cGg := cell_row Gg.out
  have cGx := cell_row Gx.out
  have cGy := cell_row Gy.out
  go_wp2
  go_ret
  exact ⟨rfl, HB.out⟩
set_option maxRecDepth 100000 in
set_option maxHeartbeats 2000000 in
theorem fq_A1_T2 (n d a : Nat) (raw : Bool) (b m : Int) (w : World) (hn : n < M) (hd : d < M) (hc : mayN n d ≠ 0) (hm0 : 0 ≤ m) (hm1 : m ≤ 100) (hS : ∀ w' : World, Calls Try.prog 48 #[wv n, wv d, wv a, .int .i64 m] w' fun e w'' => e = .returned (.tuple #[wv 0, wv 0, .int .i64 0, .int .i64 (mayN n d)]) ∧ Below w'.heap.size w' w'') :
    Calls Try.prog 9 #[wv n, wv d, .agg (gcells a raw b m)] w fun e w' => e = .returned (.bool true) ∧ Below w.heap.size w w' := by
  have SQ := Lib.hid hS
  have SA := Lib.hid (fun w' => awake18_any w')
  have SM := Lib.hid (fun w' => rmay_any n d hn hd w')
  have hmn : ¬ m < 0 := by omega
  have hmh : ¬ 100 < m := by omega
  obtain ⟨C, hC⟩ : ∃ C, C = mayN n d := ⟨_, rfl⟩
  rw [← hC] at SM hc SQ
  have hcb : (C == 0) = false := by simp [hc]
  have hcb2 : (C != 0) = true := by simp [hc]
  clear hn hd hS hC hm0 hm1
  go_enter Try.func9, Try.ntmps9
  have HB := Lib.hid (Below.refl w.heap.size w)
  have Gn := Lib.hid (alloc_new (w) (.cells (wcells n) 31))
  replace HB := Lib.hid (below_al HB.out (.cells (wcells n) 31))
  replace Gn := Lib.hid (keepAl (o' := .cells (wcells d) 31) Gn.out)
  have Gd := Lib.hid (alloc_new' (w := (w).alloc (.cells (wcells n) 31)) (n := w.heap.size + 1) (.cells (wcells d) 31) (by simp))
  replace HB := Lib.hid (below_al HB.out (.cells (wcells d) 31))
  replace Gn := Lib.hid (keepAl (o' := .cells (gcells a raw b m) 63) Gn.out)
  replace Gd := Lib.hid (keepAl (o' := .cells (gcells a raw b m) 63) Gd.out)
  have Gz := Lib.hid (alloc_new' (w := ((w).alloc (.cells (wcells n) 31)).alloc (.cells (wcells d) 31)) (n := w.heap.size + 1 + 1) (.cells (gcells a raw b m) 63) (by simp))
  replace HB := Lib.hid (below_al HB.out (.cells (gcells a raw b m) 63))
  go_upto_region 1 with fail
  obtain ⟨wL, hw⟩ : ∃ wx, wx = (((w).alloc (.cells (wcells n) 31)).alloc (.cells (wcells d) 31)).alloc (.cells (gcells a raw b m) 63) := ⟨_, rfl⟩
  rw [← hw] at Gn Gd Gz HB ⊢
  clear hw
  have cz := cell_row Gz.out
  have hz0 := lt_of_heap Gz.out
  replace Gn := Lib.hid (keepAl (o' := .cells (wcells a) 31) Gn.out)
  replace Gd := Lib.hid (keepAl (o' := .cells (wcells a) 31) Gd.out)
  replace Gz := Lib.hid (keepAl (o' := .cells (wcells a) 31) Gz.out)
  have Gg := Lib.hid (alloc_new (wL) (.cells (wcells a) 31))
  replace HB := Lib.hid (below_al HB.out (.cells (wcells a) 31))
  have cGn := cell_row Gn.out
  have cGd := cell_row Gd.out
  have cGz := cell_row Gz.out
  have cGg := cell_row Gg.out
  go_wp2_with fail
  refine (SM.out _).mono ?_
  rintro e w7 ⟨rfl, hb⟩
  clear cGn cGd cGz cGg
  replace HB := Lib.hid (below_then HB.out hb)
  replace Gn := Lib.hid ((hb.block _ (lt_of_heap Gn.out)).trans Gn.out)
  replace Gd := Lib.hid ((hb.block _ (lt_of_heap Gd.out)).trans Gd.out)
  replace Gz := Lib.hid ((hb.block _ (lt_of_heap Gz.out)).trans Gz.out)
  replace Gg := Lib.hid ((hb.block _ (lt_of_heap Gg.out)).trans Gg.out)
  clear hb
  clear cz
  have cGn := cell_row Gn.out
  have cGd := cell_row Gd.out
  have cGz := cell_row Gz.out
  have cGg := cell_row Gg.out
  go_wp2_with fail
  refine (SQ.out _).mono ?_
  rintro e w8 ⟨rfl, hb⟩
  clear cGn cGd cGz cGg
  replace HB := Lib.hid (below_then HB.out hb)
  replace Gn := Lib.hid ((hb.block _ (lt_of_heap Gn.out)).trans Gn.out)
  replace Gd := Lib.hid ((hb.block _ (lt_of_heap Gd.out)).trans Gd.out)
  replace Gz := Lib.hid ((hb.block _ (lt_of_heap Gz.out)).trans Gz.out)
  replace Gg := Lib.hid ((hb.block _ (lt_of_heap Gg.out)).trans Gg.out)
  clear hb
  replace Gn := Lib.hid (keepAl (o' := .cells (wcells 0) 31) Gn.out)
  replace Gd := Lib.hid (keepAl (o' := .cells (wcells 0) 31) Gd.out)
  replace Gz := Lib.hid (keepAl (o' := .cells (wcells 0) 31) Gz.out)
  replace Gg := Lib.hid (keepAl (o' := .cells (wcells 0) 31) Gg.out)
  have Gx := Lib.hid (alloc_new (w8) (.cells (wcells 0) 31))
  replace HB := Lib.hid (below_al HB.out (.cells (wcells 0) 31))
  replace Gn := Lib.hid (keepAl (o' := .cells (wcells 0) 31) Gn.out)
  replace Gd := Lib.hid (keepAl (o' := .cells (wcells 0) 31) Gd.out)
  replace Gz := Lib.hid (keepAl (o' := .cells (wcells 0) 31) Gz.out)
  replace Gg := Lib.hid (keepAl (o' := .cells (wcells 0) 31) Gg.out)
  replace Gx := Lib.hid (keepAl (o' := .cells (wcells 0) 31) Gx.out)
  have Gy := Lib.hid (alloc_new' (w := (w8).alloc (.cells (wcells 0) 31)) (n := w8.heap.size + 1) (.cells (wcells 0) 31) (by simp))
  replace HB := Lib.hid (below_al HB.out (.cells (wcells 0) 31))
  have cGn := cell_row Gn.out
  have cGd := cell_row Gd.out
  have cGz := cell_row Gz.out
  have cGg := cell_row Gg.out
  have cGx := cell_row Gx.out
  have cGy := cell_row Gy.out
  go_wp2_with fail
  refine (SM.out _).mono ?_
  rintro e w9 ⟨rfl, hb⟩
  clear cGn cGd cGz cGg cGx cGy
  replace HB := Lib.hid (below_then HB.out hb)
  replace Gn := Lib.hid ((hb.block _ (lt_of_heap Gn.out)).trans Gn.out)
  replace Gd := Lib.hid ((hb.block _ (lt_of_heap Gd.out)).trans Gd.out)
  replace Gz := Lib.hid ((hb.block _ (lt_of_heap Gz.out)).trans Gz.out)
  replace Gg := Lib.hid ((hb.block _ (lt_of_heap Gg.out)).trans Gg.out)
  replace Gx := Lib.hid ((hb.block _ (lt_of_heap Gx.out)).trans Gx.out)
  replace Gy := Lib.hid ((hb.block _ (lt_of_heap Gy.out)).trans Gy.out)
  clear hb
  have cGn := cell_row Gn.out
  have cGd := cell_row Gd.out
  have cGz := cell_row Gz.out
  have cGg := cell_row Gg.out
  have cGx := cell_row Gx.out
  have cGy := cell_row Gy.out
  go_wp2_with fail
  refine (SA.out _).mono ?_
  rintro e w10 ⟨rfl, hb⟩
  clear cGn cGd cGz cGg cGx cGy
  replace HB := Lib.hid (below_then HB.out hb)
  replace Gn := Lib.hid ((hb.block _ (lt_of_heap Gn.out)).trans Gn.out)
  replace Gd := Lib.hid ((hb.block _ (lt_of_heap Gd.out)).trans Gd.out)
  replace Gz := Lib.hid ((hb.block _ (lt_of_heap Gz.out)).trans Gz.out)
  replace Gg := Lib.hid ((hb.block _ (lt_of_heap Gg.out)).trans Gg.out)
  replace Gx := Lib.hid ((hb.block _ (lt_of_heap Gx.out)).trans Gx.out)
  replace Gy := Lib.hid ((hb.block _ (lt_of_heap Gy.out)).trans Gy.out)
  clear hb
  have cGn := cell_row Gn.out
  have cGd := cell_row Gd.out
  have cGz := cell_row Gz.out
  have cGg := cell_row Gg.out
  have cGx := cell_row Gx.out
  have cGy := cell_row Gy.out
  go_wp2
  go_ret
  exact ⟨rfl, HB.out⟩
end Go.Proofs.Ytkkjbkadaofjpaa
