/- THE WALKS of package mode's reference, and of its laws' example. -/
import Derived.Test.YtffengboblekpaaDoorMode3
namespace Go.Proofs.YtffengboblekpaaDoor
open Go Go.RowKit

attribute [local go_sem ↓] Go.wp_at_zero Go.wp_at_succ
theorem lit_M (x : Nat) (h : x ≤ 1000) : x < M := by
  rw [M_eq]; exact Nat.lt_of_lt_of_le (show x < P2 64 by rw [P2_64]; omega) (P2_le (by omega))
theorem clamp7_2 : clamp7 2 = 2 := rfl
theorem P2_2 : P2 2 = 4 := by rw [P2_eq]
theorem cut_6 : cutV 6 2 false 1 false = 2 ∧ cutB 6 2 false 1 = true ∧ cutV 6 2 false 3 false = 1 ∧ cutV 2 2 false 2 false = 1 := by
  have h6 : restN 6 2 false = 2 := by
    have := restN_mid 6 2 (by decide) (by decide) false
    rw [P2_2, P2_1] at this
    exact this
  have h2 : restN 2 2 false = 2 := by
    have := restN_mid 2 2 (by decide) (by decide) false
    rw [P2_2, P2_1] at this
    exact this
  have hh6 : hiN 6 2 = 1 := by unfold hiN; rw [clamp7_2, P2_2]
  have hh2 : hiN 2 2 = 0 := by unfold hiN; rw [clamp7_2, P2_2]
  have u1 : upN 6 2 false 1 false = true := by unfold upN; rw [hh6, h6]; rfl
  have u2 : upN 6 2 false 3 false = false := by unfold upN; rw [hh6, h6]; rfl
  have u3 : upN 2 2 false 2 false = true := by unfold upN; rw [hh2, h2]; rfl
  refine ⟨?_, ?_, ?_, ?_⟩
  · unfold cutV; rw [u1, hh6, if_pos (by rfl), if_pos rfl, Nat.mod_eq_of_lt (lit_M _ (by decide))]
  · unfold cutB; rw [h6]; rfl
  · unfold cutV; rw [u2, hh6]; rfl
  · unfold cutV; rw [u3, hh2, if_pos (by rfl), if_pos rfl, Nat.mod_eq_of_lt (lit_M _ (by decide))]

set_option maxRecDepth 100000 in
set_option maxHeartbeats 1000000 in
theorem awake08_any (w : World) : Calls Tryd.prog 22 #[] w fun e w' => e = .returned (.bool true) ∧ Below w.heap.size w w' := by
  obtain ⟨e1, e2, e3, e4⟩ := cut_6
  have S1 := Lib.hid (fun w' => cut_w 6 2 false 1 false w' (lit_M _ (by decide)) (by decide) (by decide))
  rw [e1, e2] at S1
  have S2 := Lib.hid (fun w' => cut_w 6 2 false 3 false w' (lit_M _ (by decide)) (by decide) (by decide))
  rw [e3] at S2
  have S3 := Lib.hid (fun w' => cut_w 2 2 false 2 false w' (lit_M _ (by decide)) (by decide) (by decide))
  rw [e4] at S3
  obtain ⟨f2, hf2⟩ : ∃ b, b = cutB 6 2 false 3 := ⟨_, rfl⟩
  rw [← hf2] at S2
  obtain ⟨f3, hf3⟩ : ∃ b, b = cutB 2 2 false 2 := ⟨_, rfl⟩
  rw [← hf3] at S3
  have E6 : (#[.int .u64 6, .int .u64 0, .int .u64 0, .int .u64 0, .int .u64 0, .int .u64 0, .int .u64 0, .int .u64 0] : Array Value) = wcells 6 := lit_cells 6 (by decide)
  have E2 : (#[.int .u64 2, .int .u64 0, .int .u64 0, .int .u64 0, .int .u64 0, .int .u64 0, .int .u64 0, .int .u64 0] : Array Value) = wcells 2 := lit_cells 2 (by decide)
  have E1 : (#[.int .u64 1, .int .u64 0, .int .u64 0, .int .u64 0, .int .u64 0, .int .u64 0, .int .u64 0, .int .u64 0] : Array Value) = wcells 1 := lit_cells 1 (by decide)
  clear e1 e2 e3 e4 hf2 hf3
  go_enter Tryd.func22, Tryd.ntmps22
  have HB := Lib.hid (Below.refl w.heap.size w)
  go_wp2_with fail
  refine (S1.out _).mono ?_
  rintro e w18 ⟨rfl, hb⟩
  replace HB := Lib.hid (below_then HB.out hb)
  clear hb
  have Ga := Lib.hid (alloc_new (w18) (.cells (wcells 2) 24))
  replace HB := Lib.hid (below_al HB.out (.cells (wcells 2) 24))
  have cGa := cell_row Ga.out
  go_wp2_with fail
  refine (S2.out _).mono ?_
  rintro e w19 ⟨rfl, hb⟩
  clear cGa
  replace HB := Lib.hid (below_then HB.out hb)
  replace Ga := Lib.hid ((hb.block _ (lt_of_heap Ga.out)).trans Ga.out)
  clear hb
  replace Ga := Lib.hid (keepAl (o' := .cells (wcells 1) 24) Ga.out)
  have Gb := Lib.hid (alloc_new (w19) (.cells (wcells 1) 24))
  replace HB := Lib.hid (below_al HB.out (.cells (wcells 1) 24))
  have cGa := cell_row Ga.out
  have cGb := cell_row Gb.out
  go_wp2_with fail
  refine (S3.out _).mono ?_
  rintro e w20 ⟨rfl, hb⟩
  clear cGa cGb
  replace HB := Lib.hid (below_then HB.out hb)
  replace Ga := Lib.hid ((hb.block _ (lt_of_heap Ga.out)).trans Ga.out)
  replace Gb := Lib.hid ((hb.block _ (lt_of_heap Gb.out)).trans Gb.out)
  clear hb
  replace Ga := Lib.hid (keepAl (o' := .cells (wcells 1) 24) Ga.out)
  replace Gb := Lib.hid (keepAl (o' := .cells (wcells 1) 24) Gb.out)
  have Gc := Lib.hid (alloc_new (w20) (.cells (wcells 1) 24))
  replace HB := Lib.hid (below_al HB.out (.cells (wcells 1) 24))
  have cGa := cell_row Ga.out
  have cGb := cell_row Gb.out
  have cGc := cell_row Gc.out
  go_wp2
  go_ret
  exact ⟨rfl, HB.out⟩
end Go.Proofs.YtffengboblekpaaDoor
