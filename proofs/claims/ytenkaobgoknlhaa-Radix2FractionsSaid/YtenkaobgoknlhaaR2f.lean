/- THE WALK of radix2's quotients with places behind the point. -/
import Derived.Test.YtenkaobgoknlhaaR2e
import Derived.Test.YtenkaobgoknlhaaLoose2
namespace Go.Proofs.Ytenkaobgoknlhaa
open Go Go.RowKit

attribute [local go_sem ↓] Go.wp_at_zero Go.wp_at_succ
set_option maxRecDepth 100000 in
set_option maxHeartbeats 2000000 in
theorem fraction_yes (n d k : Nat) (hd : d < M) (hk : k ≤ 100) (w : World) :
    Calls Try.prog 89 #[wv n, wv d, .int .i64 (k : Int)] w fun e w' => e = .returned (.tuple #[wv (dvQ (n * P2 k % M) d), .bool (!isZ (dvR (n * P2 k % M) d)), .int .i64 (mayN (n * P2 k % M) d)]) ∧ Below w.heap.size w w' := by
  obtain ⟨X, hX⟩ : ∃ X, X = n * P2 k % M := ⟨_, rfl⟩
  have hXM : X < M := by rw [hX]; exact Nat.mod_lt _ M_pos
  have S1 : Hid (∀ w' : World, Calls Try.prog 51 #[wv n, .int .i64 (k : Int)] w' fun e w'' => e = .returned (wv X) ∧ Below w'.heap.size w' w'') := Lib.hid fun w' => by
    have := shl_any n (k : Nat) w' (by omega) (by omega)
    rw [clampN_at (by omega), ← hX] at this
    exact this
  have S2 := Lib.hid (fun w' => divide_w X d hXM hd w')
  rw [← hX]
  obtain ⟨Q, hQ⟩ : ∃ x, x = dvQ X d := ⟨_, rfl⟩
  obtain ⟨R, hR⟩ : ∃ x, x = dvR X d := ⟨_, rfl⟩
  obtain ⟨E, hE⟩ : ∃ x, x = mayN X d := ⟨_, rfl⟩
  rw [← hQ, ← hR, ← hE] at S2 ⊢
  have h0 : ¬ (k : Int) < 0 := by omega
  have h1 : ¬ (100 : Int) < (k : Int) := by omega
  clear hd hk hX hXM hQ hR hE
  go_enter Try.func89, Try.ntmps89
  have HB := Lib.hid (Below.refl w.heap.size w)
  have Gn := Lib.hid (alloc_new (w) (.cells (wcells n) 26))
  replace HB := Lib.hid (below_al HB.out (.cells (wcells n) 26))
  replace Gn := Lib.hid (keepAl (o' := .cells (wcells d) 26) Gn.out)
  have Gd := Lib.hid (alloc_new' (w := (w).alloc (.cells (wcells n) 26)) (n := w.heap.size + 1) (.cells (wcells d) 26) (by simp))
  replace HB := Lib.hid (below_al HB.out (.cells (wcells d) 26))
  replace Gn := Lib.hid (keepAl (o' := .cells (wcells 0) 26) Gn.out)
  replace Gd := Lib.hid (keepAl (o' := .cells (wcells 0) 26) Gd.out)
  have Gz := Lib.hid (alloc_new' (w := ((w).alloc (.cells (wcells n) 26)).alloc (.cells (wcells d) 26)) (n := w.heap.size + 1 + 1) (.cells (wcells 0) 26) (by simp))
  replace HB := Lib.hid (below_al HB.out (.cells (wcells 0) 26))
  go_upto_region 3 with fail
  obtain ⟨wL, hw⟩ : ∃ wx, wx = (((w).alloc (.cells (wcells n) 26)).alloc (.cells (wcells d) 26)).alloc (.cells (wcells 0) 26) := ⟨_, rfl⟩
  rw [← hw] at Gn Gd Gz HB ⊢
  clear hw
  have hz1 := lt_of_heap Gz.out
  have xGn := ext_row (B := wL.heap.size) Gn.out (lt_of_heap Gn.out)
  have xGd := ext_row (B := wL.heap.size) Gd.out (lt_of_heap Gd.out)
  have xGz := ext_row (B := wL.heap.size) Gz.out (lt_of_heap Gz.out)
  apply wp_region_loose (looseR [_, _, _, _, _, _, _, _, _, Lft.val undef, Lft.val undef, Lft.val undef, Lft.val undef, _]) (pureL [1, 5, 6, 7, 8, 13])
  · kernel_rfl
  · kernel_rfl
  · kernel_rfl
  · exact allocs_ok [26, 26] rfl (by intro T hT; simp only [List.mem_cons, List.not_mem_nil, or_false, or_self] at hT; subst hT; exact makes_wide)
  · exact looseR_st _
  · change wpL _ _ _ _ _ _ _ 14 0 _ _
    refine wpL_calm wL rfl rfl rfl rfl (fun K hK K0 hK0 => ?_)
    go_simp
    first | refine hK _ _ rfl rfl ?_ | refine hK0 _ rfl ?_
    clear hK hK0 K K0
    refine wpL_pure wL rfl rfl rfl rfl (fun K hK K0 hK0 => ?_)
    go_simp
    first | refine hK _ _ rfl rfl ?_ | refine hK0 _ rfl ?_
    clear hK hK0 K K0
    refine wpL_calm wL rfl rfl rfl rfl (fun K hK K0 hK0 => ?_)
    go_simp
    apply Exists.intro
    apply And.intro
    · intro x
      go_at_call 51
      with_reducible exact S1.out _
    refine hK _ _ rfl rfl ?_
    clear hK hK0 K K0
    refine wpL_calm wL rfl rfl rfl rfl (fun K hK K0 hK0 => ?_)
    go_simp
    first | refine hK _ _ rfl rfl ?_ | refine hK0 _ rfl ?_
    clear hK hK0 K K0
    refine wpL_calm wL rfl rfl rfl rfl (fun K hK K0 hK0 => ?_)
    go_simp
    apply Exists.intro
    apply And.intro
    · intro x
      go_at_call 76
      with_reducible exact S2.out _
    refine hK _ _ rfl rfl ?_
    clear hK hK0 K K0
    refine wpL_pure wL rfl rfl rfl rfl (fun K hK K0 hK0 => ?_)
    go_simp
    first | refine hK _ _ rfl rfl ?_ | refine hK0 _ rfl ?_
    clear hK hK0 K K0
    refine wpL_pure wL rfl rfl rfl rfl (fun K hK K0 hK0 => ?_)
    go_simp
    first | refine hK _ _ rfl rfl ?_ | refine hK0 _ rfl ?_
    clear hK hK0 K K0
    refine wpL_pure wL rfl rfl rfl rfl (fun K hK K0 hK0 => ?_)
    go_simp
    first | refine hK _ _ rfl rfl ?_ | refine hK0 _ rfl ?_
    clear hK hK0 K K0
    refine wpL_pure wL rfl rfl rfl rfl (fun K hK K0 hK0 => ?_)
    go_simp
    first | refine hK _ _ rfl rfl ?_ | refine hK0 _ rfl ?_
    clear hK hK0 K K0
    refine wpL_alloc rfl rfl rfl rfl (fun g9 hg9 => ?_)
    refine wpL_alloc rfl rfl rfl rfl (fun g10 hg10 => ?_)
    refine wpL_store rfl rfl ?_
    refine wpL_store rfl rfl ?_
    refine wpL_pure wL rfl rfl rfl rfl (fun K hK K0 hK0 => ?_)
    go_simp
    first | refine hK _ _ rfl rfl ?_ | refine hK0 _ rfl ?_
    clear hK hK0 K K0
    refine wpL_nil (endL [(26, .tmp 9, .tmp 25), (26, .tmp 10, .tmp 26)] rfl (by intro q hq; simp only [List.mem_cons, List.not_mem_nil, or_false] at hq; rcases hq with rfl | rfl <;> exact fits_wv (by kernel_rfl) _) (fun w1 hb hst hap hfin => ?_))
    have Gq : Hid (w1.heap[g9]? = some (.cells (wcells (Q)) 26 (0, 0))) := Lib.hid (hst 11 _ _ _ _ g9 rfl rfl rfl)
    have Gr : Hid (w1.heap[g10]? = some (.cells (wcells (R)) 26 (0, 0))) := Lib.hid (hst 12 _ _ _ _ g10 rfl rfl rfl)
    have hne9_10 : g9 ≠ g10 := fun h => hap 9 _ _ _ 10 _ _ _ rfl rfl rfl rfl rfl rfl (by decide) (by subst h; rfl)
    replace HB := Lib.hid (below_then HB.out hb)
    replace Gn := Lib.hid ((hb.block _ (lt_of_heap Gn.out)).trans Gn.out)
    replace Gd := Lib.hid ((hb.block _ (lt_of_heap Gd.out)).trans Gd.out)
    replace Gz := Lib.hid ((hb.block _ (lt_of_heap Gz.out)).trans Gz.out)
    clear hb hst hap hfin xGn xGd xGz
    have cGn := cell_row Gn.out
    have cGd := cell_row Gd.out
    have cGz := cell_row Gz.out
    have cGq := cell_row Gq.out
    have cGr := cell_row Gr.out
    go_upto_region 4 with fail
    clear cGn cGd cGz cGq cGr
    refine wp_region_store [⟨w.heap.size + 1 + 1, 26, .tmp 28⟩] (by kernel_rfl) (by kernel_rfl) (by kernel_rfl) rfl (List.pairwise_singleton _ _) ?_ ?_
    · intro r hr
      simp only [List.mem_cons, List.not_mem_nil, or_false] at hr
      subst hr
      exact ⟨_, Gz.out, by kernel_rfl⟩
    have xGn := extR_row (B := w1.heap.size) (R := [⟨w.heap.size + 1 + 1, 26, .tmp 28⟩]) Gn.out (lt_of_heap Gn.out) (by intro r hr; simp only [List.mem_cons, List.not_mem_nil, or_false] at hr; subst hr <;> dsimp only <;> (omega))
    have xGd := extR_row (B := w1.heap.size) (R := [⟨w.heap.size + 1 + 1, 26, .tmp 28⟩]) Gd.out (lt_of_heap Gd.out) (by intro r hr; simp only [List.mem_cons, List.not_mem_nil, or_false] at hr; subst hr <;> dsimp only <;> (omega))
    have xGq := extR_row (B := w1.heap.size) (R := [⟨w.heap.size + 1 + 1, 26, .tmp 28⟩]) Gq.out (lt_of_heap Gq.out) (by intro r hr; simp only [List.mem_cons, List.not_mem_nil, or_false] at hr; subst hr <;> dsimp only <;> (omega))
    have xGr := extR_row (B := w1.heap.size) (R := [⟨w.heap.size + 1 + 1, 26, .tmp 28⟩]) Gr.out (lt_of_heap Gr.out) (by intro r hr; simp only [List.mem_cons, List.not_mem_nil, or_false] at hr; subst hr <;> dsimp only <;> (omega))
    repeat (refine wpCalm_step (fun K hK => ?_); go_simp; first | (refine hK _ ?_; clear hK K) | (apply Exists.intro; refine ⟨fun _ => ?_, hK _ ?_⟩; (first | fail); clear hK K))
    refine wpCalm_nil ⟨?_, fun x hx => ?_⟩
    · intro r hr
      simp only [List.mem_cons, List.not_mem_nil, or_false] at hr
      subst hr <;> exact fits_wv (by kernel_rfl) _
    replace Gz : Hid (x.val.heap[w.heap.size + 1 + 1]? = some (.cells (wcells (Q)) 26 (0, 0))) := Lib.hid (hx ⟨w.heap.size + 1 + 1, 26, .tmp 28⟩ (by simp))
    replace Gn := Lib.hid (extR_block x Gn.out (lt_of_heap Gn.out) (by intro r hr; simp only [List.mem_cons, List.not_mem_nil, or_false] at hr; subst hr <;> dsimp only <;> (omega)))
    replace Gd := Lib.hid (extR_block x Gd.out (lt_of_heap Gd.out) (by intro r hr; simp only [List.mem_cons, List.not_mem_nil, or_false] at hr; subst hr <;> dsimp only <;> (omega)))
    replace Gq := Lib.hid (extR_block x Gq.out (lt_of_heap Gq.out) (by intro r hr; simp only [List.mem_cons, List.not_mem_nil, or_false] at hr; subst hr <;> dsimp only <;> (omega)))
    replace Gr := Lib.hid (extR_block x Gr.out (lt_of_heap Gr.out) (by intro r hr; simp only [List.mem_cons, List.not_mem_nil, or_false] at hr; subst hr <;> dsimp only <;> (omega)))
    replace HB := Lib.hid (extR_below x HB.out HB.out.size (by intro r hr; simp only [List.mem_cons, List.not_mem_nil, or_false] at hr; subst hr <;> dsimp only <;> (omega)))
    clear hx xGn xGd xGq xGr
    obtain ⟨w2, hw⟩ : ∃ wx, wx = x.val := ⟨_, rfl⟩
    rw [← hw] at Gn Gd Gz Gq Gr HB ⊢
    clear hw x
    have cz := cell_row Gz.out
    go_wp2
    exact bodyPost_ret (v := .tuple #[wv Q, .bool (!isZ R), .int .i64 E]) (by simp [results, Try.results89, go_sem, cz]) rfl ⟨rfl, HB.out⟩
set_option maxRecDepth 100000 in
set_option maxHeartbeats 2000000 in
theorem fraction_no (n d : Nat) (b : Int) (h : b < 0 ∨ 100 < b) (w : World) :
    Calls Try.prog 89 #[wv n, wv d, .int .i64 b] w fun e w' => e = .returned (.tuple #[wv 0, .bool false, .int .i64 4]) ∧ Below w.heap.size w w' := by
  by_cases h0 : b < 0
  · clear h
    go_enter Try.func89, Try.ntmps89
    have HB := Lib.hid (Below.refl w.heap.size w)
    have Gn := Lib.hid (alloc_new (w) (.cells (wcells n) 26))
    replace HB := Lib.hid (below_al HB.out (.cells (wcells n) 26))
    replace Gn := Lib.hid (keepAl (o' := .cells (wcells d) 26) Gn.out)
    have Gd := Lib.hid (alloc_new' (w := (w).alloc (.cells (wcells n) 26)) (n := w.heap.size + 1) (.cells (wcells d) 26) (by simp))
    replace HB := Lib.hid (below_al HB.out (.cells (wcells d) 26))
    replace Gn := Lib.hid (keepAl (o' := .cells (wcells 0) 26) Gn.out)
    replace Gd := Lib.hid (keepAl (o' := .cells (wcells 0) 26) Gd.out)
    have Gz := Lib.hid (alloc_new' (w := ((w).alloc (.cells (wcells n) 26)).alloc (.cells (wcells d) 26)) (n := w.heap.size + 1 + 1) (.cells (wcells 0) 26) (by simp))
    replace HB := Lib.hid (below_al HB.out (.cells (wcells 0) 26))
    have cGn := cell_row Gn.out
    have cGd := cell_row Gd.out
    have cGz := cell_row Gz.out
    clear cGn cGd cGz
    have stz := st_row (P := Try.prog) Gz.out rfl (0)
    replace Gn := Lib.hid ((setRow_other ((((w).alloc (.cells (wcells n) 26)).alloc (.cells (wcells d) 26)).alloc (.cells (wcells 0) 26)) (w.heap.size + 1 + 1) _ (wcells (0)) (by (omega))).trans Gn.out)
    replace Gd := Lib.hid ((setRow_other ((((w).alloc (.cells (wcells n) 26)).alloc (.cells (wcells d) 26)).alloc (.cells (wcells 0) 26)) (w.heap.size + 1 + 1) _ (wcells (0)) (by (omega))).trans Gd.out)
    replace Gz := Lib.hid (setRow_heap ((((w).alloc (.cells (wcells n) 26)).alloc (.cells (wcells d) 26)).alloc (.cells (wcells 0) 26)) (w.heap.size + 1 + 1) _ (wcells (0)) _ _ Gz.out)
    replace HB := Lib.hid (below_setRow' HB.out (show _ ≤ w.heap.size + 1 + 1 by (omega)) (wcells (0)))
    have cz := cell_row Gz.out
    go_wp2
    exact bodyPost_ret (v := .tuple #[wv 0, .bool false, .int .i64 4]) (by simp [results, Try.results89, go_sem, cz]) rfl ⟨rfl, HB.out⟩
  · have h1 : (100 : Int) < b := by omega
    clear h
    go_enter Try.func89, Try.ntmps89
    have HB := Lib.hid (Below.refl w.heap.size w)
    have Gn := Lib.hid (alloc_new (w) (.cells (wcells n) 26))
    replace HB := Lib.hid (below_al HB.out (.cells (wcells n) 26))
    replace Gn := Lib.hid (keepAl (o' := .cells (wcells d) 26) Gn.out)
    have Gd := Lib.hid (alloc_new' (w := (w).alloc (.cells (wcells n) 26)) (n := w.heap.size + 1) (.cells (wcells d) 26) (by simp))
    replace HB := Lib.hid (below_al HB.out (.cells (wcells d) 26))
    replace Gn := Lib.hid (keepAl (o' := .cells (wcells 0) 26) Gn.out)
    replace Gd := Lib.hid (keepAl (o' := .cells (wcells 0) 26) Gd.out)
    have Gz := Lib.hid (alloc_new' (w := ((w).alloc (.cells (wcells n) 26)).alloc (.cells (wcells d) 26)) (n := w.heap.size + 1 + 1) (.cells (wcells 0) 26) (by simp))
    replace HB := Lib.hid (below_al HB.out (.cells (wcells 0) 26))
    have cGn := cell_row Gn.out
    have cGd := cell_row Gd.out
    have cGz := cell_row Gz.out
    clear cGn cGd cGz
    have stz := st_row (P := Try.prog) Gz.out rfl (0)
    replace Gn := Lib.hid ((setRow_other ((((w).alloc (.cells (wcells n) 26)).alloc (.cells (wcells d) 26)).alloc (.cells (wcells 0) 26)) (w.heap.size + 1 + 1) _ (wcells (0)) (by (omega))).trans Gn.out)
    replace Gd := Lib.hid ((setRow_other ((((w).alloc (.cells (wcells n) 26)).alloc (.cells (wcells d) 26)).alloc (.cells (wcells 0) 26)) (w.heap.size + 1 + 1) _ (wcells (0)) (by (omega))).trans Gd.out)
    replace Gz := Lib.hid (setRow_heap ((((w).alloc (.cells (wcells n) 26)).alloc (.cells (wcells d) 26)).alloc (.cells (wcells 0) 26)) (w.heap.size + 1 + 1) _ (wcells (0)) _ _ Gz.out)
    replace HB := Lib.hid (below_setRow' HB.out (show _ ≤ w.heap.size + 1 + 1 by (omega)) (wcells (0)))
    have cz := cell_row Gz.out
    go_wp2
    exact bodyPost_ret (v := .tuple #[wv 0, .bool false, .int .i64 4]) (by simp [results, Try.results89, go_sem, cz]) rfl ⟨rfl, HB.out⟩
end Go.Proofs.Ytenkaobgoknlhaa
