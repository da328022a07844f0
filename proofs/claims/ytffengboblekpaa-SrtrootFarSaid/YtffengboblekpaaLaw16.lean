/- THE WALKS of the laws on srtroot: roots. -/
import Derived.Test.YtffengboblekpaaSrtrd
import Derived.Test.YtffengboblekpaaSrtre
import Derived.Test.YtffengboblekpaaLaw12
namespace Go.Proofs.Ytffengboblekpaa
open Go Go.RowKit

attribute [local go_sem ↓] Go.wp_at_zero Go.wp_at_succ
theorem digitsS_len (n : Nat) (h0 : n ≠ 0) (hm : n < P2 256) (w : World) :
    Calls Try.prog 14 #[wv n] w fun e w' => ∃ a cap, e = .returned (.tuple #[.slice a 64 cap, .int .i64 0]) ∧ Below w.heap.size w w' := by
  refine (digitsS_yes n h0 hm w).mono ?_
  rintro e w' ⟨v, rfl, ⟨a, cap, rfl, _⟩, hb⟩
  rw [rDigs_len]
  exact ⟨a, cap, rfl, hb⟩
set_option maxRecDepth 100000 in
set_option maxHeartbeats 1000000 in
theorem awake16_any (w : World) : Calls Try.prog 13 #[] w fun e w' => e = .returned (.bool true) ∧ Below w.heap.size w w' := by
  obtain ⟨h0, h1, _⟩ := root_99
  obtain ⟨a1, a2, a3⟩ := rs_yes h0
  have S1 := Lib.hid (fun w' => rootS_w 99 (lit_ltM _ (by decide)) w')
  rw [a1, a2, a3, h1] at S1
  have S2 := Lib.hid (fun w' => digitsS_len 99 (by decide) h0 w')
  have E99 : (#[.int .u64 99, .int .u64 0, .int .u64 0, .int .u64 0, .int .u64 0, .int .u64 0, .int .u64 0, .int .u64 0] : Array Value) = wcells 99 := lit_cells 99 (by decide)
  have E9 : (#[.int .u64 9, .int .u64 0, .int .u64 0, .int .u64 0, .int .u64 0, .int .u64 0, .int .u64 0, .int .u64 0] : Array Value) = wcells 9 := lit_cells 9 (by decide)
  have E18 : (#[.int .u64 18, .int .u64 0, .int .u64 0, .int .u64 0, .int .u64 0, .int .u64 0, .int .u64 0, .int .u64 0] : Array Value) = wcells 18 := lit_cells 18 (by decide)
  clear h0 h1 a1 a2 a3
  go_enter Try.func13, Try.ntmps13
  have HB := Lib.hid (Below.refl w.heap.size w)
  go_wp2_with fail
  refine (S1.out _).mono ?_
  rintro e w1 ⟨rfl, hb⟩
  replace HB := Lib.hid (below_then HB.out hb)
  clear hb
  have Gs := Lib.hid (alloc_new (w1) (.cells (wcells 9) 24))
  replace HB := Lib.hid (below_al HB.out (.cells (wcells 9) 24))
  replace Gs := Lib.hid (keepAl (o' := .cells (wcells 18) 24) Gs.out)
  have Gr := Lib.hid (alloc_new' (w := (w1).alloc (.cells (wcells 9) 24)) (n := w1.heap.size + 1) (.cells (wcells 18) 24) (by simp))
  replace HB := Lib.hid (below_al HB.out (.cells (wcells 18) 24))
  have cGs := cell_row Gs.out
  have cGr := cell_row Gr.out
  go_wp2_with fail
  refine (S2.out _).mono ?_
  rintro e w2 ⟨la, lc, rfl, hb⟩
  clear cGs cGr
  replace HB := Lib.hid (below_then HB.out hb)
  replace Gs := Lib.hid ((hb.block _ (lt_of_heap Gs.out)).trans Gs.out)
  replace Gr := Lib.hid ((hb.block _ (lt_of_heap Gr.out)).trans Gr.out)
  clear hb
  have cGs := cell_row Gs.out
  have cGr := cell_row Gr.out
  go_wp2
  go_ret
  exact ⟨rfl, HB.out⟩
set_option maxHeartbeats 1000000 in
theorem srtrootRoots_any (n : Nat) (w : World) (hn : n < M) :
    Calls Try.prog 3 #[wv n] w fun e w' => e = .returned (.bool true) ∧ Below w.heap.size w w' := by
  have S1 := Lib.hid (fun w' => rootS_w n hn w')
  have S2 := Lib.hid (fun w' => holds12_any n w' hn)
  have SA := Lib.hid (fun w' => awake16_any w')
  obtain ⟨S, hS⟩ : ∃ S, S = rsS n := ⟨_, rfl⟩
  obtain ⟨R, hR⟩ : ∃ S, S = rsR n := ⟨_, rfl⟩
  obtain ⟨E, hE⟩ : ∃ S, S = rsE n := ⟨_, rfl⟩
  rw [← hS, ← hR, ← hE] at S1 S2
  clear hn hS hR hE
  go_enter Try.func3, Try.ntmps3
  have HB := Lib.hid (Below.refl w.heap.size w)
  have Gn := Lib.hid (alloc_new (w) (.cells (wcells n) 24))
  replace HB := Lib.hid (below_al HB.out (.cells (wcells n) 24))
  have cGn := cell_row Gn.out
  go_wp2_with fail
  refine (S1.out _).mono ?_
  rintro e w3 ⟨rfl, hb⟩
  clear cGn
  replace HB := Lib.hid (below_then HB.out hb)
  replace Gn := Lib.hid ((hb.block _ (lt_of_heap Gn.out)).trans Gn.out)
  clear hb
  replace Gn := Lib.hid (keepAl (o' := .cells (wcells S) 24) Gn.out)
  have Gs := Lib.hid (alloc_new (w3) (.cells (wcells S) 24))
  replace HB := Lib.hid (below_al HB.out (.cells (wcells S) 24))
  replace Gn := Lib.hid (keepAl (o' := .cells (wcells R) 24) Gn.out)
  replace Gs := Lib.hid (keepAl (o' := .cells (wcells R) 24) Gs.out)
  have Gr := Lib.hid (alloc_new' (w := (w3).alloc (.cells (wcells S) 24)) (n := w3.heap.size + 1) (.cells (wcells R) 24) (by simp))
  replace HB := Lib.hid (below_al HB.out (.cells (wcells R) 24))
  have cGn := cell_row Gn.out
  have cGs := cell_row Gs.out
  have cGr := cell_row Gr.out
  go_wp2_with fail
  refine (S2.out _).mono ?_
  rintro e w4 ⟨rfl, hb⟩
  clear cGn cGs cGr
  replace HB := Lib.hid (below_then HB.out hb)
  replace Gn := Lib.hid ((hb.block _ (lt_of_heap Gn.out)).trans Gn.out)
  replace Gs := Lib.hid ((hb.block _ (lt_of_heap Gs.out)).trans Gs.out)
  replace Gr := Lib.hid ((hb.block _ (lt_of_heap Gr.out)).trans Gr.out)
  clear hb
  have cGn := cell_row Gn.out
  have cGs := cell_row Gs.out
  have cGr := cell_row Gr.out
  go_wp2_with fail
  refine (SA.out _).mono ?_
  rintro e w5 ⟨rfl, hb⟩
  clear cGn cGs cGr
  replace HB := Lib.hid (below_then HB.out hb)
  replace Gn := Lib.hid ((hb.block _ (lt_of_heap Gn.out)).trans Gn.out)
  replace Gs := Lib.hid ((hb.block _ (lt_of_heap Gs.out)).trans Gs.out)
  replace Gr := Lib.hid ((hb.block _ (lt_of_heap Gr.out)).trans Gr.out)
  clear hb
  have cGn := cell_row Gn.out
  have cGs := cell_row Gs.out
  have cGr := cell_row Gr.out
  go_wp2
  go_ret
  exact ⟨rfl, HB.out⟩
end Go.Proofs.Ytffengboblekpaa
