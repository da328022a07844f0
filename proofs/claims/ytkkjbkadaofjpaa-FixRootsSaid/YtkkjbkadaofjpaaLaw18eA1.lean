/- THE WALKS of the law on roots by a guess, way by way. -/
import Derived.Test.YtkkjbkadaofjpaaLaw18b
import Derived.Test.YtkkjbkadaofjpaaFixc
import Derived.Test.YtkkjbkadaofjpaaRt2c
namespace Go.Proofs.Ytkkjbkadaofjpaa
open Go Go.RowKit

attribute [local go_sem ↓] Go.wp_at_zero Go.wp_at_succ
set_option maxRecDepth 100000 in
set_option maxHeartbeats 2000000 in
theorem fr_A1_T1a (n a : Nat) (raw : Bool) (b m : Int) (w : World) (hn : n < M) (hc : ¬ n < P2 256) (hm : m < 0) (hS : ∀ w' : World, Calls Try.prog 54 #[wv n, wv a, .int .i64 m] w' fun e w'' => e = .returned (.tuple #[wv 0, wv 0, .int .i64 0, .int .i64 1]) ∧ Below w'.heap.size w' w'') :
    Calls Try.prog 10 #[wv n, .agg (gcells a raw b m)] w fun e w' => e = .returned (.bool true) ∧ Below w.heap.size w w' := by
  have SQ := Lib.hid hS
  have SA := Lib.hid (fun w' => awake18_any w')
  have SM := Lib.hid (fun w' => rmayR_any n hn w')
  rw [decide_eq_false hc] at SM
  clear hn hS hc
  go_enter Try.func10, Try.ntmps10
  have HB := Lib.hid (Below.refl w.heap.size w)
  have Gn := Lib.hid (alloc_new (w) (.cells (wcells n) 31))
  replace HB := Lib.hid (below_al HB.out (.cells (wcells n) 31))
  replace Gn := Lib.hid (keepAl (o' := .cells (gcells a raw b m) 63) Gn.out)
  have Gz := Lib.hid (alloc_new' (w := (w).alloc (.cells (wcells n) 31)) (n := w.heap.size + 1) (.cells (gcells a raw b m) 63) (by simp))
  replace HB := Lib.hid (below_al HB.out (.cells (gcells a raw b m) 63))
  go_upto_region 1 with fail
  obtain ⟨wL, hw⟩ : ∃ wx, wx = ((w).alloc (.cells (wcells n) 31)).alloc (.cells (gcells a raw b m) 63) := ⟨_, rfl⟩
  rw [← hw] at Gn Gz HB ⊢
  clear hw
  have cz := cell_row Gz.out
  have hz0 := lt_of_heap Gz.out
  replace Gn := Lib.hid (keepAl (o' := .cells (wcells a) 31) Gn.out)
  replace Gz := Lib.hid (keepAl (o' := .cells (wcells a) 31) Gz.out)
  have Gg := Lib.hid (alloc_new (wL) (.cells (wcells a) 31))
  replace HB := Lib.hid (below_al HB.out (.cells (wcells a) 31))
  have cGn := cell_row Gn.out
  have cGz := cell_row Gz.out
  have cGg := cell_row Gg.out
  go_wp2_with fail
  refine (SM.out _).mono ?_
  rintro e w1 ⟨rfl, hb⟩
  clear cGn cGz cGg
  replace HB := Lib.hid (below_then HB.out hb)
  replace Gn := Lib.hid ((hb.block _ (lt_of_heap Gn.out)).trans Gn.out)
  replace Gz := Lib.hid ((hb.block _ (lt_of_heap Gz.out)).trans Gz.out)
  replace Gg := Lib.hid ((hb.block _ (lt_of_heap Gg.out)).trans Gg.out)
  clear hb
  clear cz
  have cGn := cell_row Gn.out
  have cGz := cell_row Gz.out
  have cGg := cell_row Gg.out
  go_wp2_with fail
  refine (SQ.out _).mono ?_
  rintro e w2 ⟨rfl, hb⟩
  clear cGn cGz cGg
  replace HB := Lib.hid (below_then HB.out hb)
  replace Gn := Lib.hid ((hb.block _ (lt_of_heap Gn.out)).trans Gn.out)
  replace Gz := Lib.hid ((hb.block _ (lt_of_heap Gz.out)).trans Gz.out)
  replace Gg := Lib.hid ((hb.block _ (lt_of_heap Gg.out)).trans Gg.out)
  clear hb
  replace Gn := Lib.hid (keepAl (o' := .cells (wcells 0) 31) Gn.out)
  replace Gz := Lib.hid (keepAl (o' := .cells (wcells 0) 31) Gz.out)
  replace Gg := Lib.hid (keepAl (o' := .cells (wcells 0) 31) Gg.out)
  have Gx := Lib.hid (alloc_new (w2) (.cells (wcells 0) 31))
  replace HB := Lib.hid (below_al HB.out (.cells (wcells 0) 31))
  replace Gn := Lib.hid (keepAl (o' := .cells (wcells 0) 31) Gn.out)
  replace Gz := Lib.hid (keepAl (o' := .cells (wcells 0) 31) Gz.out)
  replace Gg := Lib.hid (keepAl (o' := .cells (wcells 0) 31) Gg.out)
  replace Gx := Lib.hid (keepAl (o' := .cells (wcells 0) 31) Gx.out)
  have Gy := Lib.hid (alloc_new' (w := (w2).alloc (.cells (wcells 0) 31)) (n := w2.heap.size + 1) (.cells (wcells 0) 31) (by simp))
  replace HB := Lib.hid (below_al HB.out (.cells (wcells 0) 31))
  have cGn := cell_row Gn.out
  have cGz := cell_row Gz.out
  have cGg := cell_row Gg.out
  have cGx := cell_row Gx.out
  have cGy := cell_row Gy.out
  go_wp2_with fail
  refine (SA.out _).mono ?_
  rintro e w3 ⟨rfl, hb⟩
  clear cGn cGz cGg cGx cGy
  replace HB := Lib.hid (below_then HB.out hb)
  replace Gn := Lib.hid ((hb.block _ (lt_of_heap Gn.out)).trans Gn.out)
  replace Gz := Lib.hid ((hb.block _ (lt_of_heap Gz.out)).trans Gz.out)
  replace Gg := Lib.hid ((hb.block _ (lt_of_heap Gg.out)).trans Gg.out)
  replace Gx := Lib.hid ((hb.block _ (lt_of_heap Gx.out)).trans Gx.out)
  replace Gy := Lib.hid ((hb.block _ (lt_of_heap Gy.out)).trans Gy.out)
  clear hb
  have cGn := cell_row Gn.out
  have cGz := cell_row Gz.out
  have cGg := cell_row Gg.out
  have cGx := cell_row Gx.out
  have cGy := cell_row Gy.out
  go_wp2
  go_ret
  exact ⟨rfl, HB.out⟩
set_option maxRecDepth 100000 in
set_option maxHeartbeats 2000000 in
theorem fr_A1_T1b (n a : Nat) (raw : Bool) (b m : Int) (w : World) (hn : n < M) (hc : ¬ n < P2 256) (hm : 100 < m) (hS : ∀ w' : World, Calls Try.prog 54 #[wv n, wv a, .int .i64 m] w' fun e w'' => e = .returned (.tuple #[wv 0, wv 0, .int .i64 0, .int .i64 1]) ∧ Below w'.heap.size w' w'') :
    Calls Try.prog 10 #[wv n, .agg (gcells a raw b m)] w fun e w' => e = .returned (.bool true) ∧ Below w.heap.size w w' := by
  have SQ := Lib.hid hS
  have SA := Lib.hid (fun w' => awake18_any w')
  have SM := Lib.hid (fun w' => rmayR_any n hn w')
  rw [decide_eq_false hc] at SM
  have hm0 : ¬ m < 0 := by omega
  clear hn hS hc
  go_enter Try.func10, Try.ntmps10
  have HB := Lib.hid (Below.refl w.heap.size w)
  have Gn := Lib.hid (alloc_new (w) (.cells (wcells n) 31))
  replace HB := Lib.hid (below_al HB.out (.cells (wcells n) 31))
  replace Gn := Lib.hid (keepAl (o' := .cells (gcells a raw b m) 63) Gn.out)
  have Gz := Lib.hid (alloc_new' (w := (w).alloc (.cells (wcells n) 31)) (n := w.heap.size + 1) (.cells (gcells a raw b m) 63) (by simp))
  replace HB := Lib.hid (below_al HB.out (.cells (gcells a raw b m) 63))
  go_upto_region 1 with fail
  obtain ⟨wL, hw⟩ : ∃ wx, wx = ((w).alloc (.cells (wcells n) 31)).alloc (.cells (gcells a raw b m) 63) := ⟨_, rfl⟩
  rw [← hw] at Gn Gz HB ⊢
  clear hw
  have cz := cell_row Gz.out
  have hz0 := lt_of_heap Gz.out
  replace Gn := Lib.hid (keepAl (o' := .cells (wcells a) 31) Gn.out)
  replace Gz := Lib.hid (keepAl (o' := .cells (wcells a) 31) Gz.out)
  have Gg := Lib.hid (alloc_new (wL) (.cells (wcells a) 31))
  replace HB := Lib.hid (below_al HB.out (.cells (wcells a) 31))
  have cGn := cell_row Gn.out
  have cGz := cell_row Gz.out
  have cGg := cell_row Gg.out
  go_wp2_with fail
  refine (SM.out _).mono ?_
  rintro e w4 ⟨rfl, hb⟩
  clear cGn cGz cGg
  replace HB := Lib.hid (below_then HB.out hb)
  replace Gn := Lib.hid ((hb.block _ (lt_of_heap Gn.out)).trans Gn.out)
  replace Gz := Lib.hid ((hb.block _ (lt_of_heap Gz.out)).trans Gz.out)
  replace Gg := Lib.hid ((hb.block _ (lt_of_heap Gg.out)).trans Gg.out)
  clear hb
  clear cz
  have cGn := cell_row Gn.out
  have cGz := cell_row Gz.out
  have cGg := cell_row Gg.out
  go_wp2_with fail
  refine (SQ.out _).mono ?_
  rintro e w5 ⟨rfl, hb⟩
  clear cGn cGz cGg
  replace HB := Lib.hid (below_then HB.out hb)
  replace Gn := Lib.hid ((hb.block _ (lt_of_heap Gn.out)).trans Gn.out)
  replace Gz := Lib.hid ((hb.block _ (lt_of_heap Gz.out)).trans Gz.out)
  replace Gg := Lib.hid ((hb.block _ (lt_of_heap Gg.out)).trans Gg.out)
  clear hb
  replace Gn := Lib.hid (keepAl (o' := .cells (wcells 0) 31) Gn.out)
  replace Gz := Lib.hid (keepAl (o' := .cells (wcells 0) 31) Gz.out)
  replace Gg := Lib.hid (keepAl (o' := .cells (wcells 0) 31) Gg.out)
  have Gx := Lib.hid (alloc_new (w5) (.cells (wcells 0) 31))
  replace HB := Lib.hid (below_al HB.out (.cells (wcells 0) 31))
  replace Gn := Lib.hid (keepAl (o' := .cells (wcells 0) 31) Gn.out)
  replace Gz := Lib.hid (keepAl (o' := .cells (wcells 0) 31) Gz.out)
  replace Gg := Lib.hid (keepAl (o' := .cells (wcells 0) 31) Gg.out)
  replace Gx := Lib.hid (keepAl (o' := .cells (wcells 0) 31) Gx.out)
  have Gy := Lib.hid (alloc_new' (w := (w5).alloc (.cells (wcells 0) 31)) (n := w5.heap.size + 1) (.cells (wcells 0) 31) (by simp))
  replace HB := Lib.hid (below_al HB.out (.cells (wcells 0) 31))
  have cGn := cell_row Gn.out
  have cGz := cell_row Gz.out
  have cGg := cell_row Gg.out
  have cGx := cell_row Gx.out
  have cGy := cell_row Gy.out
  go_wp2_with fail
  refine (SA.out _).mono ?_
  rintro e w6 ⟨rfl, hb⟩
  clear cGn cGz cGg cGx cGy
  replace HB := Lib.hid (below_then HB.out hb)
  replace Gn := Lib.hid ((hb.block _ (lt_of_heap Gn.out)).trans Gn.out)
  replace Gz := Lib.hid ((hb.block _ (lt_of_heap Gz.out)).trans Gz.out)
  replace Gg := Lib.hid ((hb.block _ (lt_of_heap Gg.out)).trans Gg.out)
  replace Gx := Lib.hid ((hb.block _ (lt_of_heap Gx.out)).trans Gx.out)
  replace Gy := Lib.hid ((hb.block _ (lt_of_heap Gy.out)).trans Gy.out)
  clear hb
  have cGn := cell_row Gn.out
  have cGz := cell_row Gz.out
  have cGg := cell_row Gg.out
  have cGx := cell_row Gx.out
  have cGy := cell_row Gy.out
  go_wp2
  go_ret
  exact ⟨rfl, HB.out⟩
set_option maxRecDepth 100000 in
set_option maxHeartbeats 2000000 in
theorem fr_A1_T2 (n a : Nat) (raw : Bool) (b m : Int) (w : World) (hn : n < M) (hc : ¬ n < P2 256) (hm0 : 0 ≤ m) (hm1 : m ≤ 100) (hS : ∀ w' : World, Calls Try.prog 54 #[wv n, wv a, .int .i64 m] w' fun e w'' => e = .returned (.tuple #[wv 0, wv 0, .int .i64 0, .int .i64 4]) ∧ Below w'.heap.size w' w'') :
    Calls Try.prog 10 #[wv n, .agg (gcells a raw b m)] w fun e w' => e = .returned (.bool true) ∧ Below w.heap.size w w' := by
  have SQ := Lib.hid hS
  have SA := Lib.hid (fun w' => awake18_any w')
  have SM := Lib.hid (fun w' => rmayR_any n hn w')
  rw [decide_eq_false hc] at SM
  have hmn : ¬ m < 0 := by omega
  have hmh : ¬ 100 < m := by omega
  clear hn hS hc hm0 hm1
  go_enter Try.func10, Try.ntmps10
  have HB := Lib.hid (Below.refl w.heap.size w)
  have Gn := Lib.hid (alloc_new (w) (.cells (wcells n) 31))
  replace HB := Lib.hid (below_al HB.out (.cells (wcells n) 31))
  replace Gn := Lib.hid (keepAl (o' := .cells (gcells a raw b m) 63) Gn.out)
  have Gz := Lib.hid (alloc_new' (w := (w).alloc (.cells (wcells n) 31)) (n := w.heap.size + 1) (.cells (gcells a raw b m) 63) (by simp))
  replace HB := Lib.hid (below_al HB.out (.cells (gcells a raw b m) 63))
  go_upto_region 1 with fail
  obtain ⟨wL, hw⟩ : ∃ wx, wx = ((w).alloc (.cells (wcells n) 31)).alloc (.cells (gcells a raw b m) 63) := ⟨_, rfl⟩
  rw [← hw] at Gn Gz HB ⊢
  clear hw
  have cz := cell_row Gz.out
  have hz0 := lt_of_heap Gz.out
  replace Gn := Lib.hid (keepAl (o' := .cells (wcells a) 31) Gn.out)
  replace Gz := Lib.hid (keepAl (o' := .cells (wcells a) 31) Gz.out)
  have Gg := Lib.hid (alloc_new (wL) (.cells (wcells a) 31))
  replace HB := Lib.hid (below_al HB.out (.cells (wcells a) 31))
  have cGn := cell_row Gn.out
  have cGz := cell_row Gz.out
  have cGg := cell_row Gg.out
  go_wp2_with fail
  refine (SM.out _).mono ?_
  rintro e w7 ⟨rfl, hb⟩
  clear cGn cGz cGg
  replace HB := Lib.hid (below_then HB.out hb)
  replace Gn := Lib.hid ((hb.block _ (lt_of_heap Gn.out)).trans Gn.out)
  replace Gz := Lib.hid ((hb.block _ (lt_of_heap Gz.out)).trans Gz.out)
  replace Gg := Lib.hid ((hb.block _ (lt_of_heap Gg.out)).trans Gg.out)
  clear hb
  clear cz
  have cGn := cell_row Gn.out
  have cGz := cell_row Gz.out
  have cGg := cell_row Gg.out
  go_wp2_with fail
  refine (SQ.out _).mono ?_
  rintro e w8 ⟨rfl, hb⟩
  clear cGn cGz cGg
  replace HB := Lib.hid (below_then HB.out hb)
  replace Gn := Lib.hid ((hb.block _ (lt_of_heap Gn.out)).trans Gn.out)
  replace Gz := Lib.hid ((hb.block _ (lt_of_heap Gz.out)).trans Gz.out)
  replace Gg := Lib.hid ((hb.block _ (lt_of_heap Gg.out)).trans Gg.out)
  clear hb
  replace Gn := Lib.hid (keepAl (o' := .cells (wcells 0) 31) Gn.out)
  replace Gz := Lib.hid (keepAl (o' := .cells (wcells 0) 31) Gz.out)
  replace Gg := Lib.hid (keepAl (o' := .cells (wcells 0) 31) Gg.out)
  have Gx := Lib.hid (alloc_new (w8) (.cells (wcells 0) 31))
  replace HB := Lib.hid (below_al HB.out (.cells (wcells 0) 31))
  replace Gn := Lib.hid (keepAl (o' := .cells (wcells 0) 31) Gn.out)
  replace Gz := Lib.hid (keepAl (o' := .cells (wcells 0) 31) Gz.out)
  replace Gg := Lib.hid (keepAl (o' := .cells (wcells 0) 31) Gg.out)
  replace Gx := Lib.hid (keepAl (o' := .cells (wcells 0) 31) Gx.out)
  have Gy := Lib.hid (alloc_new' (w := (w8).alloc (.cells (wcells 0) 31)) (n := w8.heap.size + 1) (.cells (wcells 0) 31) (by simp))
  replace HB := Lib.hid (below_al HB.out (.cells (wcells 0) 31))
  have cGn := cell_row Gn.out
  have cGz := cell_row Gz.out
  have cGg := cell_row Gg.out
  have cGx := cell_row Gx.out
  have cGy := cell_row Gy.out
  go_wp2_with fail
  refine (SM.out _).mono ?_
  rintro e w9 ⟨rfl, hb⟩
  clear cGn cGz cGg cGx cGy
  replace HB := Lib.hid (below_then HB.out hb)
  replace Gn := Lib.hid ((hb.block _ (lt_of_heap Gn.out)).trans Gn.out)
  replace Gz := Lib.hid ((hb.block _ (lt_of_heap Gz.out)).trans Gz.out)
  replace Gg := Lib.hid ((hb.block _ (lt_of_heap Gg.out)).trans Gg.out)
  replace Gx := Lib.hid ((hb.block _ (lt_of_heap Gx.out)).trans Gx.out)
  replace Gy := Lib.hid ((hb.block _ (lt_of_heap Gy.out)).trans Gy.out)
  clear hb
  have cGn := cell_row Gn.out
  have cGz := cell_row Gz.out
  have cGg := cell_row Gg.out
  have cGx := cell_row Gx.out
  have cGy := cell_row Gy.out
  go_wp2_with fail
  refine (SA.out _).mono ?_
  rintro e w10 ⟨rfl, hb⟩
  clear cGn cGz cGg cGx cGy
  replace HB := Lib.hid (below_then HB.out hb)
  replace Gn := Lib.hid ((hb.block _ (lt_of_heap Gn.out)).trans Gn.out)
  replace Gz := Lib.hid ((hb.block _ (lt_of_heap Gz.out)).trans Gz.out)
  replace Gg := Lib.hid ((hb.block _ (lt_of_heap Gg.out)).trans Gg.out)
  replace Gx := Lib.hid ((hb.block _ (lt_of_heap Gx.out)).trans Gx.out)
  replace Gy := Lib.hid ((hb.block _ (lt_of_heap Gy.out)).trans Gy.out)
  clear hb
  have cGn := cell_row Gn.out
  have cGz := cell_row Gz.out
  have cGg := cell_row Gg.out
  have cGx := cell_row Gx.out
  have cGy := cell_row Gy.out
  go_wp2
  go_ret
  exact ⟨rfl, HB.out⟩
end Go.Proofs.Ytkkjbkadaofjpaa
