/- THE WALKS of package srtroot, going on: the beginning, a number shifted up. -/
import Derived.Test.YtffengboblekpaaSrtr
namespace Go.Proofs.Ytffengboblekpaa
open Go Go.RowKit

theorem powL_w (n : Int) (c : Nat) (h : n = (c : Int)) (hc : c < 512) (w : World) : Calls Try.prog 94 #[.int .i64 n] w fun e w' => e = .returned (wv (toW ((P2 c : Nat) : Int))) ∧ Below w.heap.size w w' := by
  subst h
  exact powS_w c hc w
attribute [local go_sem ↓] Go.wp_at_zero Go.wp_at_succ

set_option maxRecDepth 100000 in
set_option maxHeartbeats 1000000 in
theorem beginS_w (U : Nat) (hU : U < P2 256) (w : World) : Calls Try.prog 58 #[wv U] w fun e w' => e = .returned (.agg (fc (toW (rP U 0)) (toW (rL U 0)))) ∧ Below w.heap.size w w' := by
  have S1 := Lib.hid (fun w' => powL_w 256 256 rfl (by omega) w')
  have S2 := Lib.hid (fun w' => powL_w 128 128 rfl (by omega) w')
  obtain ⟨b3, S3⟩ := subS_w (U : Int) ((P2 256 : Nat) : Int)
  replace S3 := Lib.hid S3
  rw [toW_nat (Nat.lt_trans hU (by rw [M_eq]; exact P2_lt (by omega)))] at S3
  have e1 : rP U 0 = ((P2 128 : Nat) : Int) := rfl
  have e2 : rL U 0 = (U : Int) - ((P2 256 : Nat) : Int) := by
    unfold rL
    rw [e1, ← Int.natCast_mul, ← P2_add]
  rw [e1, e2]
  obtain ⟨A, hA⟩ : ∃ A, A = toW ((P2 256 : Nat) : Int) := ⟨_, rfl⟩
  obtain ⟨P, hP⟩ : ∃ A, A = toW ((P2 128 : Nat) : Int) := ⟨_, rfl⟩
  obtain ⟨L, hL⟩ : ∃ A, A = toW ((U : Int) - ((P2 256 : Nat) : Int)) := ⟨_, rfl⟩
  rw [← hA] at S1
  rw [← hP] at S2
  rw [← hA, ← hL] at S3
  rw [← hP, ← hL]
  clear hU e1 e2 hA hP hL
  go_enter Try.func58, Try.ntmps58
  have HB := Lib.hid (Below.refl w.heap.size w)
  have Gn := Lib.hid (alloc_new (w) (.cells (wcells U) 24))
  replace HB := Lib.hid (below_al HB.out (.cells (wcells U) 24))
  replace Gn := Lib.hid (keepAl (o' := .cells (fc 0 0) 65) Gn.out)
  have Go := Lib.hid (alloc_new' (w := (w).alloc (.cells (wcells U) 24)) (n := w.heap.size + 1) (.cells (fc 0 0) 65) (by simp))
  replace HB := Lib.hid (below_al HB.out (.cells (fc 0 0) 65))
  have cGn := cell_row Gn.out
  have cGo := cell_row Go.out
  go_upto_region 1 with fail
  clear cGn cGo
  obtain ⟨wA, hw⟩ : ∃ wx, wx = ((w).alloc (.cells (wcells U) 24)).alloc (.cells (fc 0 0) 65) := ⟨_, rfl⟩
  rw [← hw] at Gn Go HB ⊢
  clear hw
  have HZ := Lib.hid (lt_of_heap Go.out)
  have xGn := ext_row (B := wA.heap.size) Gn.out (lt_of_heap Gn.out)
  have xGo := ext_row (B := wA.heap.size) Go.out (lt_of_heap Go.out)
  apply wp_region_loose (looseR [_, _, _, _, _, _, Lft.val undef, Lft.val undef, _]) (pureL [3, 4, 5, 8])
  · kernel_rfl
  · kernel_rfl
  · kernel_rfl
  · exact allocs_ok [24] rfl (by intro T hT; simp only [List.mem_cons, List.not_mem_nil, or_false] at hT; subst hT; exact makes_wide)
  · exact looseR_st _
  · change wpL _ _ _ _ _ _ _ 9 0 _ _
    refine wpL_calm wA rfl rfl rfl rfl (fun K hK K0 hK0 => ?_)
    go_simp
    first | refine hK _ _ rfl rfl ?_ | refine hK0 _ rfl ?_
    clear hK hK0 K K0
    refine wpL_calm wA rfl rfl rfl rfl (fun K hK K0 hK0 => ?_)
    go_simp
    apply Exists.intro
    apply And.intro
    · intro x
      go_at_call 94
      with_reducible exact S1.out _
    refine hK _ _ rfl rfl ?_
    clear hK hK0 K K0
    refine wpL_calm wA rfl rfl rfl rfl (fun K hK K0 hK0 => ?_)
    go_simp
    apply Exists.intro
    apply And.intro
    · intro x
      go_at_call 46
      with_reducible exact S3.out _
    refine hK _ _ rfl rfl ?_
    clear hK hK0 K K0
    refine wpL_pure wA rfl rfl rfl rfl (fun K hK K0 hK0 => ?_)
    go_simp
    first | refine hK _ _ rfl rfl ?_ | refine hK0 _ rfl ?_
    clear hK hK0 K K0
    refine wpL_pure wA rfl rfl rfl rfl (fun K hK K0 hK0 => ?_)
    go_simp
    first | refine hK _ _ rfl rfl ?_ | refine hK0 _ rfl ?_
    clear hK hK0 K K0
    refine wpL_pure wA rfl rfl rfl rfl (fun K hK K0 hK0 => ?_)
    go_simp
    first | refine hK _ _ rfl rfl ?_ | refine hK0 _ rfl ?_
    clear hK hK0 K K0
    refine wpL_alloc rfl rfl rfl rfl (fun g6 hg6 => ?_)
    refine wpL_store rfl rfl ?_
    refine wpL_pure wA rfl rfl rfl rfl (fun K hK K0 hK0 => ?_)
    go_simp
    first | refine hK _ _ rfl rfl ?_ | refine hK0 _ rfl ?_
    clear hK hK0 K K0
    refine wpL_nil (endL [(24, .tmp 3, .tmp 9)] rfl (by intro q hq; simp only [List.mem_cons, List.not_mem_nil, or_false] at hq; subst hq; exact fits_wv (by kernel_rfl) _) (fun w1 hb hst hap hfin => ?_))
    have Gl : Hid (w1.heap[g6]? = some (.cells (wcells (L)) 24 (0, 0))) := Lib.hid (hst 7 _ _ _ _ g6 rfl rfl rfl)
    replace HB := Lib.hid (below_then HB.out hb)
    replace Gn := Lib.hid ((hb.block _ (lt_of_heap Gn.out)).trans Gn.out)
    replace Go := Lib.hid ((hb.block _ (lt_of_heap Go.out)).trans Go.out)
    clear hb hst hap hfin xGn xGo
    have cGn := cell_row Gn.out
    have cGo := cell_row Go.out
    have cGl := cell_row Gl.out
    go_upto_region 2 with fail
    clear cGn cGo cGl
    refine wp_region_store [⟨w.heap.size + 1, 65, .tmp 13⟩] (by kernel_rfl) (by kernel_rfl) (by kernel_rfl) rfl (List.pairwise_singleton _ _) ?_ ?_
    · intro r hr
      simp only [List.mem_cons, List.not_mem_nil, or_false] at hr
      subst hr
      exact ⟨_, Go.out, by kernel_rfl⟩
    have xGn := extR_row (B := w1.heap.size) (R := [⟨w.heap.size + 1, 65, .tmp 13⟩]) Gn.out (lt_of_heap Gn.out) (by intro r hr; simp only [List.mem_cons, List.not_mem_nil, or_false] at hr; subst hr <;> dsimp only <;> (have := HZ.out; omega))
    have xGl := extR_row (B := w1.heap.size) (R := [⟨w.heap.size + 1, 65, .tmp 13⟩]) Gl.out (lt_of_heap Gl.out) (by intro r hr; simp only [List.mem_cons, List.not_mem_nil, or_false] at hr; subst hr <;> dsimp only <;> (have := HZ.out; omega))
    repeat (refine wpCalm_step (fun K hK => ?_); go_simp; first | (refine hK _ ?_; clear hK K) | (apply Exists.intro; refine ⟨fun _ => ?_, hK _ ?_⟩; (first | with_reducible exact S2.out _ | exact S2.out _); clear hK K))
    refine wpCalm_nil ⟨?_, fun x hx => ?_⟩
    · intro r hr
      simp only [List.mem_cons, List.not_mem_nil, or_false] at hr
      subst hr <;> first | exact fits_wv (by kernel_rfl) _ | exact fits_16 (by kernel_rfl) _ _
    replace Go : Hid (x.val.heap[w.heap.size + 1]? = some (.cells (fc (P) (L)) 65 (0, 0))) := Lib.hid (hx ⟨w.heap.size + 1, 65, .tmp 13⟩ (by simp))
    replace Gn := Lib.hid (extR_block x Gn.out (lt_of_heap Gn.out) (by intro r hr; simp only [List.mem_cons, List.not_mem_nil, or_false] at hr; subst hr <;> dsimp only <;> (have := HZ.out; omega)))
    replace Gl := Lib.hid (extR_block x Gl.out (lt_of_heap Gl.out) (by intro r hr; simp only [List.mem_cons, List.not_mem_nil, or_false] at hr; subst hr <;> dsimp only <;> (have := HZ.out; omega)))
    replace HB := Lib.hid (extR_below x HB.out HB.out.size (by intro r hr; simp only [List.mem_cons, List.not_mem_nil, or_false] at hr; subst hr <;> dsimp only <;> (have := HZ.out; omega)))
    clear hx xGn xGl
    obtain ⟨w2, hw⟩ : ∃ wx, wx = x.val := ⟨_, rfl⟩
    rw [← hw] at Gn Go Gl HB ⊢
    clear hw x
    have cGn := cell_row Gn.out
    have cGo := cell_row Go.out
    have cGl := cell_row Gl.out
    go_wp2
    exact bodyPost_ret (v := .agg (fc P L)) (res_c Try.results58 _ _ _ _ _ _ rfl Go.out aggFar) rfl ⟨rfl, HB.out⟩
set_option maxHeartbeats 1000000 in
theorem normS_yes (n : Nat) (h0 : n ≠ 0) (h : n < P2 256) (w : World) : Calls Try.prog 19 #[wv n] w fun e w' => e = .returned (.tuple #[wv (upN n), .int .i64 (nrmN n : Nat), .bool true]) ∧ Below w.heap.size w w' := by
  have hnM : n < M := Nat.lt_trans h (by rw [M_eq]; exact P2_lt (by omega))
  have S1 := Lib.hid (fun w' => len_w n hnM w')
  have hl : blen n ≤ 256 := blen_le_of h
  have hp := blen_pos h0
  have S2 := Lib.hid (fun w' => shl_any n (nrmN n : Nat) w' (by omega) (by unfold nrmN; omega))
  rw [clampN_at (by unfold nrmN; omega), Nat.mod_eq_of_lt (show n * P2 (nrmN n) < M by
    have := (up_range h0 h).2.1
    unfold upN at this
    have : P2 256 < M := by rw [M_eq]; exact P2_lt (by omega)
    omega)] at S2
  unfold upN
  have hb : ((blen n : Nat) : Int) ≠ 0 := by omega
  have hk : IntKind.i64.wrap (256 - ((blen n : Nat) : Int)) = ((256 - blen n : Nat) : Int) := by
    rw [IntWalk.i64_in _ (by omega)]; omega
  have hq : Int.tdiv ((256 - blen n : Nat) : Int) 2 = (((256 - blen n) / 2 : Nat) : Int) := by
    rw [Int.tdiv_eq_ediv_of_nonneg (by omega)]; omega
  have hq2 : IntKind.i64.wrap (((256 - blen n) / 2 : Nat) : Int) = (((256 - blen n) / 2 : Nat) : Int) := IntWalk.i64_in _ (by omega)
  have hm : IntKind.i64.wrap ((((256 - blen n) / 2 : Nat) : Int) * 2) = ((nrmN n : Nat) : Int) := by
    rw [IntWalk.i64_in _ (by omega)]; unfold nrmN; omega
  obtain ⟨X, hX⟩ : ∃ X, X = n * P2 (nrmN n) := ⟨_, rfl⟩
  rw [← hX] at S2 ⊢
  obtain ⟨c, hc⟩ : ∃ X, X = nrmN n := ⟨_, rfl⟩
  rw [← hc] at S2 hm ⊢
  obtain ⟨q, hqe⟩ : ∃ X, X = (256 - blen n) / 2 := ⟨_, rfl⟩
  rw [← hqe] at hq hq2 hm
  obtain ⟨k, hke⟩ : ∃ X, X = 256 - blen n := ⟨_, rfl⟩
  rw [← hke] at hk hq
  obtain ⟨l, hle⟩ : ∃ l, l = blen n := ⟨_, rfl⟩
  rw [← hle] at S1 hk hb hl
  have hl2 : decide ((256 : Int) < (l : Int)) = false := decide_eq_false (by omega)
  have hb2 : ((l : Int) == 0) = false := by simp; omega
  clear h0 h hnM hp hX hc hqe hke hle hl
  go_enter Try.func19, Try.ntmps19
  have HB := Lib.hid (Below.refl w.heap.size w)
  have Gn := Lib.hid (alloc_new (w) (.cells (wcells n) 24))
  replace HB := Lib.hid (below_al HB.out (.cells (wcells n) 24))
  replace Gn := Lib.hid (keepAl (o' := .cells (wcells 0) 24) Gn.out)
  have Go := Lib.hid (alloc_new' (w := (w).alloc (.cells (wcells n) 24)) (n := w.heap.size + 1) (.cells (wcells 0) 24) (by simp))
  replace HB := Lib.hid (below_al HB.out (.cells (wcells 0) 24))
  have cGn := cell_row Gn.out
  have cGo := cell_row Go.out
  go_wp2_with fail
  refine (S1.out _).mono ?_
  rintro e w3 ⟨rfl, hb⟩
  clear cGn cGo
  replace HB := Lib.hid (below_then HB.out hb)
  replace Gn := Lib.hid ((hb.block _ (lt_of_heap Gn.out)).trans Gn.out)
  replace Go := Lib.hid ((hb.block _ (lt_of_heap Go.out)).trans Go.out)
  clear hb
  have cGn := cell_row Gn.out
  have cGo := cell_row Go.out
  go_wp2_with fail
  refine (S2.out _).mono ?_
  rintro e w4 ⟨rfl, hb⟩
  clear cGn cGo
  replace HB := Lib.hid (below_then HB.out hb)
  replace Gn := Lib.hid ((hb.block _ (lt_of_heap Gn.out)).trans Gn.out)
  replace Go := Lib.hid ((hb.block _ (lt_of_heap Go.out)).trans Go.out)
  clear hb
  have sto := st_row (P := Try.prog) Go.out rfl (X)
  replace Gn := Lib.hid ((setRow_other (w4) (w.heap.size + 1) _ (wcells (X)) (by (omega))).trans Gn.out)
  replace Go := Lib.hid (setRow_heap (w4) (w.heap.size + 1) _ (wcells (X)) _ _ Go.out)
  replace HB := Lib.hid (below_setRow' HB.out (show _ ≤ w.heap.size + 1 by (omega)) (wcells (X)))
  have cGn := cell_row Gn.out
  have cGo := cell_row Go.out
  go_wp2
  exact bodyPost_ret (v := .tuple #[wv X, .int .i64 (c : Int), .bool true]) (res_ctt Try.results19 _ _ _ _ _ _ _ _ rfl rfl rfl Go.out aggW) rfl ⟨rfl, HB.out⟩
set_option maxHeartbeats 1000000 in
theorem normS_no (n : Nat) (hn : n < M) (h : n = 0 ∨ ¬ n < P2 256) (w : World) : Calls Try.prog 19 #[wv n] w fun e w' => e = .returned (.tuple #[wv 0, .int .i64 0, .bool false]) ∧ Below w.heap.size w w' := by
  have S1 := Lib.hid (fun w' => len_w n hn w')
  have hc : blen n = 0 ∨ ((256 : Int) < ((blen n : Nat) : Int) ∧ ((blen n : Nat) : Int) ≠ 0) := by
    rcases h with h | h
    · left; rw [h]; exact blen_zero
    · right
      have : ¬ blen n ≤ 256 := fun hh => h (lt_of_blen hh)
      omega
  obtain ⟨l, hle⟩ : ∃ l, l = blen n := ⟨_, rfl⟩
  rw [← hle] at S1 hc
  clear hn h hle
  rcases hc with rfl | ⟨h1, h2⟩
  rotate_left
  have h3 : ((l : Int) == 0) = false := by simp; omega
  have h4 : decide ((256 : Int) < (l : Int)) = true := decide_eq_true h1
  all_goals
    go_enter Try.func19, Try.ntmps19
    have HB := Lib.hid (Below.refl w.heap.size w)
    have Gn := Lib.hid (alloc_new (w) (.cells (wcells n) 24))
    replace HB := Lib.hid (below_al HB.out (.cells (wcells n) 24))
    replace Gn := Lib.hid (keepAl (o' := .cells (wcells 0) 24) Gn.out)
    have Go := Lib.hid (alloc_new' (w := (w).alloc (.cells (wcells n) 24)) (n := w.heap.size + 1) (.cells (wcells 0) 24) (by simp))
    replace HB := Lib.hid (below_al HB.out (.cells (wcells 0) 24))
    have cGn := cell_row Gn.out
    have cGo := cell_row Go.out
    go_wp2_with fail
    refine (S1.out _).mono ?_
    rintro e w5 ⟨rfl, hb⟩
    clear cGn cGo
    replace HB := Lib.hid (below_then HB.out hb)
    replace Gn := Lib.hid ((hb.block _ (lt_of_heap Gn.out)).trans Gn.out)
    replace Go := Lib.hid ((hb.block _ (lt_of_heap Go.out)).trans Go.out)
    clear hb
    have sto := st_row (P := Try.prog) Go.out rfl (0)
    replace Gn := Lib.hid ((setRow_other (w5) (w.heap.size + 1) _ (wcells (0)) (by (omega))).trans Gn.out)
    replace Go := Lib.hid (setRow_heap (w5) (w.heap.size + 1) _ (wcells (0)) _ _ Go.out)
    replace HB := Lib.hid (below_setRow' HB.out (show _ ≤ w.heap.size + 1 by (omega)) (wcells (0)))
    have cGn := cell_row Gn.out
    have cGo := cell_row Go.out
    go_wp2
    exact bodyPost_ret (v := .tuple #[wv 0, .int .i64 0, .bool false]) (res_ctt Try.results19 _ _ _ _ _ _ _ _ rfl rfl rfl Go.out aggW) rfl ⟨rfl, HB.out⟩
end Go.Proofs.Ytffengboblekpaa
