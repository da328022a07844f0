/- THE WALKS of package fly: a state, and a digit further. -/
import Derived.Test.YtffengboblekpaaDoorFlyN
import Derived.Test.YtffengboblekpaaDoorK16
import Derived.Test.YtffengboblekpaaDoorK11
import Derived.Test.YtffengboblekpaaDoorLaw11N
namespace Go.Proofs.YtffengboblekpaaDoor
open Go Go.RowKit

attribute [local go_sem ↓] Go.wp_at_zero Go.wp_at_succ
theorem isF_any (d : Int) (w : World) : Calls Tryd.prog 70 #[.int .i64 d] w fun e w' => e = .returned (.bool (isDig d)) ∧ w' = w := by
  unfold isDig
  go_enter Tryd.func70, Tryd.ntmps70
  by_cases h1 : -3 ≤ d
  · by_cases h2 : d ≤ 3
    · rw [decide_eq_true h1, decide_eq_true h2]
      go_wp2
      go_ret
      exact ⟨rfl, rfl⟩
    · rw [decide_eq_true h1, decide_eq_false h2]
      go_wp2
      go_ret
      exact ⟨rfl, rfl⟩
  · rw [decide_eq_false h1, Bool.false_and]
    go_wp2
    go_ret
    exact ⟨rfl, rfl⟩

set_option maxRecDepth 100000 in
set_option maxHeartbeats 1000000 in
theorem new_w (q : Nat) (hq : q < M) (w : World) : Calls Tryd.prog 49 #[wv q] w fun e w' => e = .returned (.agg (fc q (subN q 1))) ∧ Below w.heap.size w w' := by
  have hM1 : (1 : Nat) < M := lit_ltM _ (by decide)
  have S1 : Hid (∀ (g : Nat) (w' : World), w'.heap[g]? = some (.cells #[.int .u64 1] 22 (0, 0)) → Calls Tryd.prog 67 #[.slice (some ⟨g, 0, none⟩) 1 1] w' fun e w'' => e = .returned (wv 1) ∧ Below w'.heap.size w' w'') := Lib.hid fun g w' h => by
    have := of_w (.slice (some ⟨g, 0, none⟩) 1 1) 1 1 w' (isLimbs_one (by decide) (by rw [cell_row h]; rfl) (lt_of_heap h))
    rwa [Nat.mod_eq_of_lt hM1] at this
  have S2 := Lib.hid (fun w' => sub_w q 1 hq hM1 w')
  obtain ⟨S, hS⟩ : ∃ x, x = subN q 1 := ⟨_, rfl⟩
  obtain ⟨f, hf⟩ : ∃ x, x = decide (q < 1) := ⟨_, rfl⟩
  rw [← hS] at S2 ⊢
  rw [← hf] at S2
  clear hq hS hf hM1
  go_enter Tryd.func49, Tryd.ntmps49
  have HB := Lib.hid (Below.refl w.heap.size w)
  have Gq := Lib.hid (alloc_new (w) (.cells (wcells q) 24))
  replace HB := Lib.hid (below_al HB.out (.cells (wcells q) 24))
  replace Gq := Lib.hid (keepAl (o' := .cells (fc 0 0) 86) Gq.out)
  have Go := Lib.hid (alloc_new' (w := (w).alloc (.cells (wcells q) 24)) (n := w.heap.size + 1) (.cells (fc 0 0) 86) (by simp))
  replace HB := Lib.hid (below_al HB.out (.cells (fc 0 0) 86))
  go_upto_region 1 with fail
  obtain ⟨wL, hw⟩ : ∃ wx, wx = ((w).alloc (.cells (wcells q) 24)).alloc (.cells (fc 0 0) 86) := ⟨_, rfl⟩
  rw [← hw] at Gq Go HB ⊢
  clear hw
  have hz := lt_of_heap Go.out
  have xGq := ext_row (B := wL.heap.size) Gq.out (lt_of_heap Gq.out)
  have xGo := ext_row (B := wL.heap.size) Go.out (lt_of_heap Go.out)
  apply wp_region_loose (looseR [_, _, _, _, _, _, _, Lft.val undef, Lft.val undef, _]) (pureL [4, 5, 6, 9])
  · kernel_rfl
  · kernel_rfl
  · kernel_rfl
  · exact allocs_ok [24] rfl (by intro T hT; simp only [List.mem_cons, List.not_mem_nil, or_false] at hT; subst hT; exact makes_wide)
  · exact looseR_st _
  · change wpL _ _ _ _ _ _ _ 10 0 _ _
    refine wpL_calm wL rfl rfl rfl rfl (fun K hK K0 hK0 => ?_)
    go_simp
    first | refine hK _ _ rfl rfl ?_ | refine hK0 _ rfl ?_
    clear hK hK0 K K0
    refine wpL_row wL (fun g => .slice (some ⟨g, 0, none⟩) 1 1) (.cells #[.int .u64 1] 22) (fun _ => rfl) rfl rfl rfl rfl (by first | rfl | go_simp) rfl (by rintro w' ⟨x, rfl⟩; go_simp) (fun g1 => ?_)
    refine wpL_call (Lft.val (wv 1)) (val_some wL _) rfl rfl rfl rfl (by first | rfl | go_simp) rfl (fun w' hC hF => ?_) (fun v2 hv2 => ?_)
    · obtain ⟨x, rfl⟩ := hC
      go_simp
      go_at_call 67
      exact val_loose (S1.out _ _ (hF 1 _ 7 rfl rfl rfl rfl (by decide)).2)
    obtain ⟨_, rfl⟩ := hv2
    refine wpL_calm wL rfl rfl rfl rfl (fun K hK K0 hK0 => ?_)
    go_simp
    apply Exists.intro
    apply And.intro
    · intro x
      go_at_call 37
      with_reducible exact S2.out _
    refine hK _ _ rfl rfl ?_
    clear hK hK0 K K0
    refine wpL_pure wL rfl rfl rfl rfl (fun K hK K0 hK0 => ?_)
    go_simp
    first | refine hK _ _ rfl rfl ?_ | refine hK0 _ rfl ?_
    clear hK hK0 K K0
    refine wpL_pure wL rfl rfl rfl rfl (fun K hK K0 hK0 => ?_)
    go_simp
    first | refine hK _ _ rfl rfl ?_ | refine hK0 _ rfl ?_
    clear hK hK0 K K0
    refine wpL_pure wL rfl rfl rfl rfl (fun K hK K0 hK0 => ?_)
    go_simp
    first | refine hK _ _ rfl rfl ?_ | refine hK0 _ rfl ?_
    clear hK hK0 K K0
    refine wpL_alloc rfl rfl rfl rfl (fun g7 hg7 => ?_)
    refine wpL_store rfl rfl ?_
    refine wpL_pure wL rfl rfl rfl rfl (fun K hK K0 hK0 => ?_)
    go_simp
    first | refine hK _ _ rfl rfl ?_ | refine hK0 _ rfl ?_
    clear hK hK0 K K0
    refine wpL_nil (endL [(24, .tmp 3, .tmp 10)] rfl (by intro q hq; simp only [List.mem_cons, List.not_mem_nil, or_false] at hq; subst hq; exact fits_wv (by kernel_rfl) _) (fun w1 hb hst hap hfin => ?_))
    have Gl : Hid (w1.heap[g7]? = some (.cells (wcells (S)) 24 (0, 0))) := Lib.hid (hst 8 _ _ _ _ g7 rfl rfl rfl)
    replace HB := Lib.hid (below_then HB.out hb)
    replace Gq := Lib.hid ((hb.block _ (lt_of_heap Gq.out)).trans Gq.out)
    replace Go := Lib.hid ((hb.block _ (lt_of_heap Go.out)).trans Go.out)
    clear hb hst hap hfin xGq xGo
    have cGq := cell_row Gq.out
    have cGo := cell_row Go.out
    have cGl := cell_row Gl.out
    go_upto_region 2 with fail
    clear cGq cGo cGl
    have cq := cell_row Gq.out; have cl := cell_row Gl.out
    have sto := st_16 (P := Tryd.prog) Go.out rfl (q) (S)
    replace Gq := Lib.hid ((setRow_other (w1) (w.heap.size + 1) _ (fc (q) (S)) (by (omega))).trans Gq.out)
    replace Gl := Lib.hid ((setRow_other (w1) (w.heap.size + 1) _ (fc (q) (S)) (by (omega))).trans Gl.out)
    replace Go := Lib.hid (setRow_heap (w1) (w.heap.size + 1) _ (fc (q) (S)) _ _ Go.out)
    replace HB := Lib.hid (below_setRow' HB.out (show _ ≤ w.heap.size + 1 by (omega)) (fc (q) (S)))
    go_wp2
    have co := cell_row Go.out
    exact bodyPost_ret (v := .agg (fc q S)) (by simp [results, Tryd.results49, go_sem, co] <;> kernel_rfl) rfl ⟨rfl, HB.out⟩

set_option maxHeartbeats 1000000 in
theorem join_w (a b : Nat) (hb : b ≤ 3) (w : World) : Calls Tryd.prog 86 #[wv a, .int .i64 (b : Int)] w fun e w' => e = .returned (wv (joinN a b)) ∧ Below w.heap.size w w' := by
  have S1 := Lib.hid (fun w' => shl_any a ((2 : Nat) : Int) w' (by decide) (by decide))
  rw [clampN_at (show 2 ≤ 512 by decide)] at S1
  obtain ⟨_, h4⟩ := join_room a b hb
  unfold joinN
  obtain ⟨X, hX⟩ : ∃ x, x = a * P2 2 % M := ⟨_, rfl⟩
  rw [← hX] at S1 h4 ⊢
  have HJ := Lib.hid (join_cells X b h4 hb)
  have h64 : P2 64 = 18446744073709551616 := P2_64
  have hw : IntKind.u64.wrap (b : Int) = (b : Int) := by rw [u64wrap]; omega
  have ho : bits .or .u64 ((limb X 0 : Nat) : Int) (b : Int) = ((limb X 0 ||| b : Nat) : Int) := or_u64 _ _ (limb_lt X 0) (by omega)
  obtain ⟨Y, hY⟩ : ∃ y : Nat, y = limb X 0 ||| b := ⟨_, rfl⟩
  rw [← hY] at ho HJ
  clear hb hX h4 h64 hY
  go_enter Tryd.func86, Tryd.ntmps86
  have HB := Lib.hid (Below.refl w.heap.size w)
  have Ga := Lib.hid (alloc_new (w) (.cells (wcells a) 24))
  replace HB := Lib.hid (below_al HB.out (.cells (wcells a) 24))
  replace Ga := Lib.hid (keepAl (o' := .cells (wcells 0) 24) Ga.out)
  have Go := Lib.hid (alloc_new' (w := (w).alloc (.cells (wcells a) 24)) (n := w.heap.size + 1) (.cells (wcells 0) 24) (by simp))
  replace HB := Lib.hid (below_al HB.out (.cells (wcells 0) 24))
  have cGa := cell_row Ga.out
  have cGo := cell_row Go.out
  go_wp2_with fail
  refine (S1.out _).mono ?_
  rintro e w2 ⟨rfl, hb⟩
  clear cGa cGo
  replace HB := Lib.hid (below_then HB.out hb)
  replace Ga := Lib.hid ((hb.block _ (lt_of_heap Ga.out)).trans Ga.out)
  replace Go := Lib.hid ((hb.block _ (lt_of_heap Go.out)).trans Go.out)
  clear hb
  have sta := st_row (P := Tryd.prog) Ga.out rfl (X)
  replace Go := Lib.hid ((setRow_other (w2) (w.heap.size) _ (wcells (X)) (by (omega))).trans Go.out)
  replace Ga := Lib.hid (setRow_heap (w2) (w.heap.size) _ (wcells (X)) _ _ Ga.out)
  replace HB := Lib.hid (below_setRow' HB.out (show _ ≤ w.heap.size by (omega)) (wcells (X)))
  have f0 := free_row Ga.out
  have cGa := cell_row Ga.out
  have cGo := cell_row Go.out
  go_upto_region 3 with fail
  clear cGa cGo sta
  clear f0
  have Ga2 : Hid ((((w2).setRow (w.heap.size) (wcells (X))).setCell ⟨w.heap.size, 0, none⟩ (.int .u64 (Y : Int))).heap[w.heap.size]? = some (.cells (wcells (X + b)) 24 (0, 0))) := Lib.hid (by rw [← HJ.out]; exact set_row Ga.out 0 _)
  have Go2 : Hid ((((w2).setRow (w.heap.size) (wcells (X))).setCell ⟨w.heap.size, 0, none⟩ (.int .u64 (Y : Int))).heap[w.heap.size + 1]? = some (.cells (wcells 0) 24 (0, 0))) := Lib.hid ((set_other _ _ _ (by show w.heap.size + 1 ≠ w.heap.size; omega)).trans Go.out)
  replace HB := Lib.hid (below_set HB.out (Nat.le_refl w.heap.size) 0 (.int .u64 (Y : Int)))
  clear Ga Go
  obtain ⟨wz, hwz⟩ : ∃ wx, wx = ((w2).setRow (w.heap.size) (wcells (X))).setCell ⟨w.heap.size, 0, none⟩ (.int .u64 (Y : Int)) := ⟨_, rfl⟩
  rw [← hwz] at Ga2 Go2 HB ⊢
  clear hwz
  have ca := cell_row Ga2.out
  have sto2 := st_row (P := Tryd.prog) Go2.out rfl (X + b)
  replace Ga2 := Lib.hid ((setRow_other (wz) (w.heap.size + 1) _ (wcells (X + b)) (by (omega))).trans Ga2.out)
  replace Go2 := Lib.hid (setRow_heap (wz) (w.heap.size + 1) _ (wcells (X + b)) _ _ Go2.out)
  replace HB := Lib.hid (below_setRow' HB.out (show _ ≤ w.heap.size + 1 by (omega)) (wcells (X + b)))
  go_wp2
  exact bodyPost_ret (v := wv (X + b)) (results_cell_row rfl _ _ (w.heap.size + 1) _ _ _ _ rfl Go2.out Tryd.underlying24 rfl (by kernel_rfl)) rfl ⟨rfl, HB.out⟩

end Go.Proofs.YtffengboblekpaaDoor
