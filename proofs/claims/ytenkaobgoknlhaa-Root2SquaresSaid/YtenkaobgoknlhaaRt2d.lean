/- THE WALK of root2's third root. -/
import Derived.Test.YtenkaobgoknlhaaRt2b
import Derived.Test.YtenkaobgoknlhaaProd6
namespace Go.Proofs.Ytenkaobgoknlhaa
open Go Go.RowKit

theorem cube_eq (s : Nat) : s ^ 3 = s * s * s := by rw [show (3 : Nat) = 2 + 1 from rfl, Nat.pow_succ, sqr]
theorem cube_small {s : Nat} (hs : s < P2 100) : s * s < M ∧ s ^ 3 < M := by
  have h1 : s * s < P2 200 := by have := Nat.mul_lt_mul'' hs hs; rwa [← P2_add] at this
  have h2 : s * s * s < P2 300 := by have := Nat.mul_lt_mul'' h1 hs; rwa [← P2_add] at this
  have a1 : P2 200 < P2 512 := P2_lt (by omega)
  have a2 : P2 300 < P2 512 := P2_lt (by omega)
  rw [cube_eq, M_eq]
  omega
theorem pwV_3 {s : Nat} (hs : s < P2 100) : pwV s 3 = s ^ 3 := by
  obtain ⟨h1, h2⟩ := cube_small hs
  have hsM : s < M := by rw [M_eq]; exact Nat.lt_trans hs (P2_lt (by omega))
  rw [cube_eq] at h2 ⊢
  show ((1 * s % M) * s % M) * s % M = _
  rw [Nat.one_mul, Nat.mod_eq_of_lt hsM, Nat.mod_eq_of_lt h1, Nat.mod_eq_of_lt h2]
/-- A third root, and its remainder. -/
def cbS (n : Nat) : Nat := if n < P2 256 then rtN 3 n else 0
def cbR (n : Nat) : Nat := if n < P2 256 then n - rtN 3 n ^ 3 else 0
theorem cb_yes {n : Nat} (h : n < P2 256) : cbS n = rtN 3 n ∧ cbR n = n - rtN 3 n ^ 3 := by unfold cbS cbR; rw [if_pos h, if_pos h]; exact ⟨rfl, rfl⟩
theorem cb_no {n : Nat} (h : ¬ n < P2 256) : cbS n = 0 ∧ cbR n = 0 := by unfold cbS cbR; rw [if_neg h, if_neg h]; exact ⟨rfl, rfl⟩

attribute [local go_sem ↓] Go.wp_at_zero Go.wp_at_succ
set_option maxHeartbeats 1000000 in
theorem powR_w (s : Nat) (hs : s < P2 100) (w : World) : Calls Try.prog 140 #[wv s] w fun e w' => e = .returned (wv (s ^ 3)) ∧ Below w.heap.size w w' := by
  have hsM : s < M := by rw [M_eq]; exact Nat.lt_trans hs (P2_lt (by omega))
  have S1 : Hid (∀ w' : World, Calls Try.prog 94 #[wv s, .int .i64 3] w' fun e w'' => e = .returned (.tuple #[wv (s ^ 3), .bool (pwF s 3)]) ∧ Below w'.heap.size w' w'') := Lib.hid fun w' => by
    have := ppower_any s 3 w' hsM (by omega) (by omega)
    rw [show (3 : Int).toNat = 3 from rfl, pwV_3 hs] at this
    exact this
  obtain ⟨f, hf⟩ : ∃ f, f = pwF s 3 := ⟨_, rfl⟩
  rw [← hf] at S1
  obtain ⟨c, hc⟩ : ∃ c, c = s ^ 3 := ⟨_, rfl⟩
  rw [← hc] at S1 ⊢
  clear hs hsM hf hc
  go_enter Try.func140, Try.ntmps140
  have HB := Lib.hid (Below.refl w.heap.size w)
  have Gs := Lib.hid (alloc_new (w) (.cells (wcells s) 26))
  replace HB := Lib.hid (below_al HB.out (.cells (wcells s) 26))
  replace Gs := Lib.hid (keepAl (o' := .cells (wcells 0) 26) Gs.out)
  have Gz := Lib.hid (alloc_new' (w := (w).alloc (.cells (wcells s) 26)) (n := w.heap.size + 1) (.cells (wcells 0) 26) (by simp))
  replace HB := Lib.hid (below_al HB.out (.cells (wcells 0) 26))
  have cGs := cell_row Gs.out
  have cGz := cell_row Gz.out
  go_wp2_with fail
  refine (S1.out _).mono ?_
  rintro e w1 ⟨rfl, hb⟩
  clear cGs cGz
  replace HB := Lib.hid (below_then HB.out hb)
  replace Gs := Lib.hid ((hb.block _ (lt_of_heap Gs.out)).trans Gs.out)
  replace Gz := Lib.hid ((hb.block _ (lt_of_heap Gz.out)).trans Gz.out)
  clear hb
  have HZ := Lib.hid (lt_of_heap Gz.out)
  replace Gs := Lib.hid (keepAl (o' := .cells (wcells c) 26) Gs.out)
  replace Gz := Lib.hid (keepAl (o' := .cells (wcells c) 26) Gz.out)
  have Go := Lib.hid (alloc_new (w1) (.cells (wcells c) 26))
  replace HB := Lib.hid (below_al HB.out (.cells (wcells c) 26))
  have q1 := cell_row Go.out
  have stz := st_row (P := Try.prog) Gz.out rfl (c)
  replace Gs := Lib.hid ((setRow_other ((w1).alloc (.cells (wcells c) 26)) (w.heap.size + 1) _ (wcells (c)) (by (have := HZ.out; omega))).trans Gs.out)
  replace Go := Lib.hid ((setRow_other ((w1).alloc (.cells (wcells c) 26)) (w.heap.size + 1) _ (wcells (c)) (by (have := HZ.out; omega))).trans Go.out)
  replace Gz := Lib.hid (setRow_heap ((w1).alloc (.cells (wcells c) 26)) (w.heap.size + 1) _ (wcells (c)) _ _ Gz.out)
  replace HB := Lib.hid (below_setRow' HB.out (show _ ≤ w.heap.size + 1 by (have := HZ.out; omega)) (wcells (c)))
  have cz := cell_row Gz.out
  go_wp2
  exact bodyPost_ret (v := wv c) (by simp [results, Try.results140, go_sem, cz]) rfl ⟨rfl, HB.out⟩

set_option maxRecDepth 100000 in
set_option maxHeartbeats 4000000 in
theorem cube_w (n : Nat) (hn : n < M) (w : World) :
    Calls Try.prog 96 #[wv n] w fun e w' => e = .returned (.tuple #[wv (cbS n), wv (cbR n), .int .i64 (rsE n)]) ∧ Below w.heap.size w w' := by
  have S1 := Lib.hid (fun w' => mayR_w n hn w')
  by_cases hm : n < P2 256
  · obtain ⟨_, _, e3⟩ := rs_yes hm
    obtain ⟨e1, e2⟩ := cb_yes hm
    rw [e1, e2, e3]
    rw [e3] at S1
    have hS := cube_lt hm
    have h86 : P2 86 < P2 100 := P2_lt (by omega)
    have hle := fun x => rt_le 3 n x (by decide)
    have hsp := (rt_spec 3 n (by decide)).1
    have hSM := (cube_small (Nat.lt_trans hS h86)).2
    have P1 := Lib.hid (fun s (hs : s < P2 100) w' => powR_w s hs w')
    have C1 := Lib.hid (fun c (hc : c < M) w' => cmp_w c n hc hn w')
    have PS := Lib.hid (fun w' => powR_w (rtN 3 n) (Nat.lt_trans hS h86) w')
    have SS := Lib.hid (fun w' => sub_w n (rtN 3 n ^ 3) hn hSM w')
    have hsub : subN n (rtN 3 n ^ 3) = n - rtN 3 n ^ 3 := by
      unfold subN
      rw [show n + M - rtN 3 n ^ 3 = (n - rtN 3 n ^ 3) + M by omega, Nat.add_mod_right, Nat.mod_eq_of_lt (by omega)]
    rw [hsub] at SS
    obtain ⟨S, hSe⟩ : ∃ S, S = rtN 3 n := ⟨_, rfl⟩
    rw [← hSe] at hS hle PS SS ⊢
    obtain ⟨pS, hp⟩ : ∃ p, p = S ^ 3 := ⟨_, rfl⟩
    rw [← hp] at PS SS ⊢
    obtain ⟨R, hR⟩ : ∃ R, R = n - pS := ⟨_, rfl⟩
    rw [← hR] at SS ⊢
    obtain ⟨f1, hf1⟩ : ∃ f, f = decide (n < pS) := ⟨_, rfl⟩
    rw [← hf1] at SS
    have HLE := Lib.hid hle; have HSb := Lib.hid hS
    clear hn hm e1 e2 e3 hS h86 hle hsp hSM hsub hSe hp hR hf1
    go_enter Try.func96, Try.ntmps96
    have HB := Lib.hid (Below.refl w.heap.size w)
    have Gn := Lib.hid (alloc_new (w) (.cells (wcells n) 26))
    replace HB := Lib.hid (below_al HB.out (.cells (wcells n) 26))
    replace Gn := Lib.hid (keepAl (o' := .cells (wcells 0) 26) Gn.out)
    have Gx := Lib.hid (alloc_new' (w := (w).alloc (.cells (wcells n) 26)) (n := w.heap.size + 1) (.cells (wcells 0) 26) (by simp))
    replace HB := Lib.hid (below_al HB.out (.cells (wcells 0) 26))
    replace Gn := Lib.hid (keepAl (o' := .cells (wcells 0) 26) Gn.out)
    replace Gx := Lib.hid (keepAl (o' := .cells (wcells 0) 26) Gx.out)
    have Gy := Lib.hid (alloc_new' (w := ((w).alloc (.cells (wcells n) 26)).alloc (.cells (wcells 0) 26)) (n := w.heap.size + 1 + 1) (.cells (wcells 0) 26) (by simp))
    replace HB := Lib.hid (below_al HB.out (.cells (wcells 0) 26))
    go_wp2
    go_step3
    have cGn := cell_row Gn.out
    have cGx := cell_row Gx.out
    have cGy := cell_row Gy.out
    go_wp2_with fail
    refine (S1.out _).mono ?_
    rintro e w2 ⟨rfl, hb⟩
    clear cGn cGx cGy
    replace HB := Lib.hid (below_then HB.out hb)
    replace Gn := Lib.hid ((hb.block _ (lt_of_heap Gn.out)).trans Gn.out)
    replace Gx := Lib.hid ((hb.block _ (lt_of_heap Gx.out)).trans Gx.out)
    replace Gy := Lib.hid ((hb.block _ (lt_of_heap Gy.out)).trans Gy.out)
    clear hb
    have HZ := Lib.hid (lt_of_heap Gy.out)
    replace Gn := Lib.hid (keepAl (o' := .cells (wcells 0) 26) Gn.out)
    replace Gx := Lib.hid (keepAl (o' := .cells (wcells 0) 26) Gx.out)
    replace Gy := Lib.hid (keepAl (o' := .cells (wcells 0) 26) Gy.out)
    have Gs := Lib.hid (alloc_new (w2) (.cells (wcells 0) 26))
    replace HB := Lib.hid (below_al HB.out (.cells (wcells 0) 26))
    have cGn := cell_row Gn.out
    have cGx := cell_row Gx.out
    have cGy := cell_row Gy.out
    have cGs := cell_row Gs.out
    go_wp2
    clear cGn cGx cGy cGs
    obtain ⟨w0, hw⟩ : ∃ wx, wx = (w2).alloc (.cells (wcells 0) 26) := ⟨_, rfl⟩
    rw [← hw] at Gn Gx Gy Gs HB ⊢
    clear hw
    go_step3
    go_wp2
    go_loopw [7] (fun s7 wr => ∃ j : Nat, j ≤ 86 ∧ s7 = .int .i64 (j : Int) ∧ Hid (wr.heap[w.heap.size]? = some (.cells (wcells (n)) 26 (0, 0))) ∧ Hid (wr.heap[w.heap.size + 1]? = some (.cells (wcells (0)) 26 (0, 0))) ∧ Hid (wr.heap[w.heap.size + 1 + 1]? = some (.cells (wcells (0)) 26 (0, 0))) ∧ Hid (wr.heap[w2.heap.size]? = some (.cells (wcells (S / P2 j * P2 j)) 26 (0, 0))) ∧ Hid (Below w.heap.size w wr)) (fun s7 _ => (intOf s7).toNat)
    case atStart =>
      refine ⟨86, by omega, rfl, Gn, Gx, Gy, ?_, HB⟩
      rw [Nat.div_eq_of_lt HSb.out, Nat.zero_mul]
      exact Gs
    case round =>
      clear HB Gn Gx Gy Gs
      obtain ⟨j, hj, rfl, Gn, Gx, Gy, Gs, HB⟩ := hrel
      rcases j with _ | i
      · have e0 : S / P2 0 * P2 0 = S := by rw [P2_0, Nat.div_one, Nat.mul_one]
        rw [e0] at Gs
        clear e0 hj
        have HZ1 := Lib.hid (lt_of_heap Gs.out)
        have cGn := cell_row Gn.out
        have cGx := cell_row Gx.out
        have cGy := cell_row Gy.out
        have cGs := cell_row Gs.out
        go_upto_region 11 with fail
        clear cGn cGx cGy cGs
        have xGn := ext_row (B := wr.heap.size) Gn.out (lt_of_heap Gn.out)
        have xGx := ext_row (B := wr.heap.size) Gx.out (lt_of_heap Gx.out)
        have xGy := ext_row (B := wr.heap.size) Gy.out (lt_of_heap Gy.out)
        have xGs := ext_row (B := wr.heap.size) Gs.out (lt_of_heap Gs.out)
        apply wp_region_loose (looseR [_, _, _, _, _, _, _, Lft.val undef, Lft.val undef, _]) (pureL [4, 5, 6, 9])
        · kernel_rfl
        · kernel_rfl
        · kernel_rfl
        · exact allocs_ok [26] rfl (by intro T hT; simp only [List.mem_cons, List.not_mem_nil, or_false] at hT; subst hT; exact makes_wide)
        · exact looseR_st _
        · change wpL _ _ _ _ _ _ _ 10 0 _ _
          refine wpL_calm wr rfl rfl rfl rfl (fun K hK K0 hK0 => ?_)
          go_simp
          first | refine hK _ _ rfl rfl ?_ | refine hK0 _ rfl ?_
          clear hK hK0 K K0
          refine wpL_calm wr rfl rfl rfl rfl (fun K hK K0 hK0 => ?_)
          go_simp
          first | refine hK _ _ rfl rfl ?_ | refine hK0 _ rfl ?_
          clear hK hK0 K K0
          refine wpL_calm wr rfl rfl rfl rfl (fun K hK K0 hK0 => ?_)
          go_simp
          apply Exists.intro
          apply And.intro
          · intro x
            go_at_call 140
            with_reducible exact PS.out _
          refine hK _ _ rfl rfl ?_
          clear hK hK0 K K0
          refine wpL_calm wr rfl rfl rfl rfl (fun K hK K0 hK0 => ?_)
          go_simp
          apply Exists.intro
          apply And.intro
          · intro x
            go_at_call 64
            with_reducible exact SS.out _
          refine hK _ _ rfl rfl ?_
          clear hK hK0 K K0
          refine wpL_pure wr rfl rfl rfl rfl (fun K hK K0 hK0 => ?_)
          go_simp
          first | refine hK _ _ rfl rfl ?_ | refine hK0 _ rfl ?_
          clear hK hK0 K K0
          refine wpL_pure wr rfl rfl rfl rfl (fun K hK K0 hK0 => ?_)
          go_simp
          first | refine hK _ _ rfl rfl ?_ | refine hK0 _ rfl ?_
          clear hK hK0 K K0
          refine wpL_pure wr rfl rfl rfl rfl (fun K hK K0 hK0 => ?_)
          go_simp
          first | refine hK _ _ rfl rfl ?_ | refine hK0 _ rfl ?_
          clear hK hK0 K K0
          refine wpL_alloc rfl rfl rfl rfl (fun g7 hg7 => ?_)
          refine wpL_store rfl rfl ?_
          refine wpL_pure wr rfl rfl rfl rfl (fun K hK K0 hK0 => ?_)
          go_simp
          first | refine hK _ _ rfl rfl ?_ | refine hK0 _ rfl ?_
          clear hK hK0 K K0
          refine wpL_nil (endL [(26, .tmp 10, .tmp 41)] rfl (by intro q hq; simp only [List.mem_cons, List.not_mem_nil, or_false] at hq; subst hq; exact fits_wv (by kernel_rfl) _) (fun w3 hb hst hap hfin => ?_))
          have Gr : Hid (w3.heap[g7]? = some (.cells (wcells (R)) 26 (0, 0))) := Lib.hid (hst 8 _ _ _ _ g7 rfl rfl rfl)
          replace HB := Lib.hid (below_then HB.out hb)
          replace Gn := Lib.hid ((hb.block _ (lt_of_heap Gn.out)).trans Gn.out)
          replace Gx := Lib.hid ((hb.block _ (lt_of_heap Gx.out)).trans Gx.out)
          replace Gy := Lib.hid ((hb.block _ (lt_of_heap Gy.out)).trans Gy.out)
          replace Gs := Lib.hid ((hb.block _ (lt_of_heap Gs.out)).trans Gs.out)
          clear hb hst hap hfin xGn xGx xGy xGs
          have cGn := cell_row Gn.out
          have cGx := cell_row Gx.out
          have cGy := cell_row Gy.out
          have cGs := cell_row Gs.out
          have cGr := cell_row Gr.out
          go_upto_region 12 with fail
          clear cGn cGx cGy cGs cGr
          have hz1 := HZ1.out
          have hz0 := HZ.out
          refine wp_region_store [⟨w.heap.size + 1, 26, .tmp 43⟩, ⟨w.heap.size + 1 + 1, 26, .tmp 44⟩] (by kernel_rfl) (by kernel_rfl) (by kernel_rfl) rfl (List.Pairwise.cons (by intro r hr; simp only [List.mem_cons, List.not_mem_nil, or_false] at hr; subst hr <;> dsimp only <;> (omega)) (List.pairwise_singleton _ _)) ?_ ?_
          · intro r hr
            simp only [List.mem_cons, List.not_mem_nil, or_false] at hr
            rcases hr with rfl | rfl
            · exact ⟨_, Gx.out, by kernel_rfl⟩
            · exact ⟨_, Gy.out, by kernel_rfl⟩
          have xGn := extR_row (B := w3.heap.size) (R := [⟨w.heap.size + 1, 26, .tmp 43⟩, ⟨w.heap.size + 1 + 1, 26, .tmp 44⟩]) Gn.out (lt_of_heap Gn.out) (by intro r hr; simp only [List.mem_cons, List.not_mem_nil, or_false] at hr; rcases hr with rfl | rfl <;> dsimp only <;> (omega))
          have xGs := extR_row (B := w3.heap.size) (R := [⟨w.heap.size + 1, 26, .tmp 43⟩, ⟨w.heap.size + 1 + 1, 26, .tmp 44⟩]) Gs.out (lt_of_heap Gs.out) (by intro r hr; simp only [List.mem_cons, List.not_mem_nil, or_false] at hr; rcases hr with rfl | rfl <;> dsimp only <;> (omega))
          have xGr := extR_row (B := w3.heap.size) (R := [⟨w.heap.size + 1, 26, .tmp 43⟩, ⟨w.heap.size + 1 + 1, 26, .tmp 44⟩]) Gr.out (lt_of_heap Gr.out) (by intro r hr; simp only [List.mem_cons, List.not_mem_nil, or_false] at hr; rcases hr with rfl | rfl <;> dsimp only <;> (omega))
          repeat (refine wpCalm_step (fun K hK => ?_); go_simp; first | (refine hK _ ?_; clear hK K) | (apply Exists.intro; refine ⟨fun _ => ?_, hK _ ?_⟩; (first | fail); clear hK K))
          refine wpCalm_nil ⟨?_, fun x hx => ?_⟩
          · intro r hr
            simp only [List.mem_cons, List.not_mem_nil, or_false] at hr
            rcases hr with rfl | rfl <;> exact fits_wv (by kernel_rfl) _
          replace Gx : Hid (x.val.heap[w.heap.size + 1]? = some (.cells (wcells (S)) 26 (0, 0))) := Lib.hid (hx ⟨w.heap.size + 1, 26, .tmp 43⟩ (by simp))
          replace Gy : Hid (x.val.heap[w.heap.size + 1 + 1]? = some (.cells (wcells (R)) 26 (0, 0))) := Lib.hid (hx ⟨w.heap.size + 1 + 1, 26, .tmp 44⟩ (by simp))
          replace Gn := Lib.hid (extR_block x Gn.out (lt_of_heap Gn.out) (by intro r hr; simp only [List.mem_cons, List.not_mem_nil, or_false] at hr; rcases hr with rfl | rfl <;> dsimp only <;> (omega)))
          replace Gs := Lib.hid (extR_block x Gs.out (lt_of_heap Gs.out) (by intro r hr; simp only [List.mem_cons, List.not_mem_nil, or_false] at hr; rcases hr with rfl | rfl <;> dsimp only <;> (omega)))
          replace Gr := Lib.hid (extR_block x Gr.out (lt_of_heap Gr.out) (by intro r hr; simp only [List.mem_cons, List.not_mem_nil, or_false] at hr; rcases hr with rfl | rfl <;> dsimp only <;> (omega)))
          replace HB := Lib.hid (extR_below x HB.out HB.out.size (by intro r hr; simp only [List.mem_cons, List.not_mem_nil, or_false] at hr; rcases hr with rfl | rfl <;> dsimp only <;> (omega)))
          clear hx xGn xGs xGr
          obtain ⟨w4, hw⟩ : ∃ wx, wx = x.val := ⟨_, rfl⟩
          rw [← hw] at Gn Gx Gy Gs Gr HB ⊢
          clear hw x
          have c1 := cell_row Gx.out
          have c2 := cell_row Gy.out
          go_wp2
          (try rw [Exit.noGoto_ret])
          exact bodyPost_ret (v := .tuple #[wv S, wv R, .int .i64 0]) (by simp [results, Try.results96, go_sem, c1, c2]) rfl ⟨rfl, HB.out⟩
      · have e0 : ((i + 1 : Nat) : Int) - 1 = (i : Int) := by omega
        have e0' : IntKind.i64.wrap (((i + 1 : Nat) : Int) - 1) = (i : Int) := by rw [e0]; exact IntWalk.i64_in _ (by omega)
        have e0'' : IntKind.i64.wrap ((i : Int) + 1 - 1) = (i : Int) := by rw [show (i : Int) + 1 - 1 = (i : Int) by omega]; exact IntWalk.i64_in _ (by omega)
        have e2 : ¬ (i : Int) < 0 := by omega
        have hg := greedy S i
        have hql : S / P2 (i + 1) * P2 (i + 1) ≤ S := Nat.div_mul_le_self _ _
        have hpk : P2 i ≤ P2 85 := P2_le (by omega)
        have hpk2 : P2 86 = P2 85 * 2 := P2_twice 85
        have h87 : P2 87 = P2 86 * 2 := P2_twice 86
        have h100 : P2 87 < P2 100 := P2_lt (by omega)
        have hM : P2 87 < M := by rw [M_eq]; exact P2_lt (by omega)
        have hSb := HSb.out
        have hmo : S / P2 (i + 1) * P2 (i + 1) + P2 i < P2 100 := by omega
        have T1 : Hid (∀ w' : World, Calls Try.prog 45 #[.int .i64 (i : Int)] w' fun e w'' => e = .returned (wv (P2 i)) ∧ Below w'.heap.size w' w'') := Lib.hid fun w' => by
          have := power_w (i : Int) w' (by omega) (by omega)
          rwa [powerN_at i (by omega)] at this
        have T2 : Hid (∀ w' : World, Calls Try.prog 63 #[wv (S / P2 (i + 1) * P2 (i + 1)), wv (P2 i)] w' fun e w'' => e = .returned (.tuple #[wv (S / P2 (i + 1) * P2 (i + 1) + P2 i), .bool false]) ∧ Below w'.heap.size w' w'') := Lib.hid fun w' => by
          have := add_w (S / P2 (i + 1) * P2 (i + 1)) (P2 i) (by omega) (by omega) w'
          rw [Nat.mod_eq_of_lt (by omega), decide_eq_false (by omega)] at this
          exact this
        have T3 := Lib.hid (fun w' => P1.out _ hmo w')
        have T4 := Lib.hid (fun w' => C1.out _ (cube_small hmo).2 w')
        have hle := HLE.out (S / P2 (i + 1) * P2 (i + 1) + P2 i)
        obtain ⟨q, hq⟩ : ∃ q, q = S / P2 (i + 1) * P2 (i + 1) := ⟨_, rfl⟩
        rw [← hq] at Gs hg T2 T3 T4 hle
        obtain ⟨pk, hp⟩ : ∃ q, q = P2 i := ⟨_, rfl⟩
        rw [← hp] at T1 T2 T3 T4 hle
        obtain ⟨mo, hm⟩ : ∃ m, m = q + pk := ⟨_, rfl⟩
        rw [← hm] at T2 T3 T4 hle
        obtain ⟨pr, hr⟩ : ∃ m, m = mo ^ 3 := ⟨_, rfl⟩
        rw [← hr] at T3 T4 hle
        have hcmp : (cmpN pr n ≤ 0) ↔ (pr ≤ n) := by unfold cmpN; split <;> (try split) <;> omega
        obtain ⟨C, hC⟩ : ∃ m, m = cmpN pr n := ⟨_, rfl⟩
        rw [← hC] at T4 hcmp
        have HG := Lib.hid (show S / P2 i * P2 i = if mo ≤ S then mo else q by rw [hg, hm, hp])
        have HL2 := Lib.hid hle; have HCM := Lib.hid hcmp; have HJ := Lib.hid hj
        have hki : (i : Int) ≤ 85 := by omega
        have HZ1 := Lib.hid (lt_of_heap Gs.out)
        clear hg hql hpk hpk2 h87 h100 hM hSb hmo hle hcmp hq hp hm hr hC hj e0
        by_cases hc : C ≤ 0
        · have HG2 := Lib.hid (show S / P2 i * P2 i = mo by rw [HG.out, if_pos (HL2.out.2 (HCM.out.1 hc))])
          have cGn := cell_row Gn.out
          have cGx := cell_row Gx.out
          have cGy := cell_row Gy.out
          have cGs := cell_row Gs.out
          go_upto_region 8 with fail
          clear cGn cGx cGy cGs
          have xGn := ext_row (B := wr.heap.size) Gn.out (lt_of_heap Gn.out)
          have xGx := ext_row (B := wr.heap.size) Gx.out (lt_of_heap Gx.out)
          have xGy := ext_row (B := wr.heap.size) Gy.out (lt_of_heap Gy.out)
          have xGs := ext_row (B := wr.heap.size) Gs.out (lt_of_heap Gs.out)
          apply wp_region_loose (looseR [_, _, _, _, _, _, _, Lft.val undef, Lft.val undef, _]) (pureL [4, 5, 6, 9])
          · kernel_rfl
          · kernel_rfl
          · kernel_rfl
          · exact allocs_ok [26] rfl (by intro T hT; simp only [List.mem_cons, List.not_mem_nil, or_false] at hT; subst hT; exact makes_wide)
          · exact looseR_st _
          · change wpL _ _ _ _ _ _ _ 10 0 _ _
            refine wpL_calm wr rfl rfl rfl rfl (fun K hK K0 hK0 => ?_)
            go_simp
            first | refine hK _ _ rfl rfl ?_ | refine hK0 _ rfl ?_
            clear hK hK0 K K0
            refine wpL_calm wr rfl rfl rfl rfl (fun K hK K0 hK0 => ?_)
            go_simp
            first | refine hK _ _ rfl rfl ?_ | refine hK0 _ rfl ?_
            clear hK hK0 K K0
            refine wpL_calm wr rfl rfl rfl rfl (fun K hK K0 hK0 => ?_)
            go_simp
            apply Exists.intro
            apply And.intro
            · intro x
              go_at_call 45
              with_reducible exact T1.out _
            refine hK _ _ rfl rfl ?_
            clear hK hK0 K K0
            refine wpL_calm wr rfl rfl rfl rfl (fun K hK K0 hK0 => ?_)
            go_simp
            apply Exists.intro
            apply And.intro
            · intro x
              go_at_call 63
              with_reducible exact T2.out _
            refine hK _ _ rfl rfl ?_
            clear hK hK0 K K0
            refine wpL_pure wr rfl rfl rfl rfl (fun K hK K0 hK0 => ?_)
            go_simp
            first | refine hK _ _ rfl rfl ?_ | refine hK0 _ rfl ?_
            clear hK hK0 K K0
            refine wpL_pure wr rfl rfl rfl rfl (fun K hK K0 hK0 => ?_)
            go_simp
            first | refine hK _ _ rfl rfl ?_ | refine hK0 _ rfl ?_
            clear hK hK0 K K0
            refine wpL_pure wr rfl rfl rfl rfl (fun K hK K0 hK0 => ?_)
            go_simp
            first | refine hK _ _ rfl rfl ?_ | refine hK0 _ rfl ?_
            clear hK hK0 K K0
            refine wpL_alloc rfl rfl rfl rfl (fun g7 hg7 => ?_)
            refine wpL_store rfl rfl ?_
            refine wpL_pure wr rfl rfl rfl rfl (fun K hK K0 hK0 => ?_)
            go_simp
            first | refine hK _ _ rfl rfl ?_ | refine hK0 _ rfl ?_
            clear hK hK0 K K0
            refine wpL_nil (endL [(26, .tmp 8, .tmp 28)] rfl (by intro q hq; simp only [List.mem_cons, List.not_mem_nil, or_false] at hq; subst hq; exact fits_wv (by kernel_rfl) _) (fun w5 hb hst hap hfin => ?_))
            have Gm : Hid (w5.heap[g7]? = some (.cells (wcells (mo)) 26 (0, 0))) := Lib.hid (hst 8 _ _ _ _ g7 rfl rfl rfl)
            replace HB := Lib.hid (below_then HB.out hb)
            replace Gn := Lib.hid ((hb.block _ (lt_of_heap Gn.out)).trans Gn.out)
            replace Gx := Lib.hid ((hb.block _ (lt_of_heap Gx.out)).trans Gx.out)
            replace Gy := Lib.hid ((hb.block _ (lt_of_heap Gy.out)).trans Gy.out)
            replace Gs := Lib.hid ((hb.block _ (lt_of_heap Gs.out)).trans Gs.out)
            clear hb hst hap hfin xGn xGx xGy xGs
            have cGn := cell_row Gn.out
            have cGx := cell_row Gx.out
            have cGy := cell_row Gy.out
            have cGs := cell_row Gs.out
            have cGm := cell_row Gm.out
            go_upto_region 9 with fail
            clear cGn cGx cGy cGs cGm
            have xGn := ext_row (B := w5.heap.size) Gn.out (lt_of_heap Gn.out)
            have xGx := ext_row (B := w5.heap.size) Gx.out (lt_of_heap Gx.out)
            have xGy := ext_row (B := w5.heap.size) Gy.out (lt_of_heap Gy.out)
            have xGs := ext_row (B := w5.heap.size) Gs.out (lt_of_heap Gs.out)
            have xGm := ext_row (B := w5.heap.size) Gm.out (lt_of_heap Gm.out)
            refine wp_region_ext w5.heap.size (by kernel_rfl) (by kernel_rfl) ?_
            repeat (go_big_quiet_step (first | (go_at_call 140; with_reducible exact Calls.quiet_ext (Nat.le_refl _) (T3.out _)) | (go_at_call 65; with_reducible exact Calls.quiet_ext (Nat.le_refl _) (T4.out _))))
            refine wpQuiet_nil ?_
            intro w6 hb
            clear xGn xGx xGy xGs xGm
            replace HB := Lib.hid (below_then HB.out hb)
            replace Gn := Lib.hid ((hb.block _ (lt_of_heap Gn.out)).trans Gn.out)
            replace Gx := Lib.hid ((hb.block _ (lt_of_heap Gx.out)).trans Gx.out)
            replace Gy := Lib.hid ((hb.block _ (lt_of_heap Gy.out)).trans Gy.out)
            replace Gs := Lib.hid ((hb.block _ (lt_of_heap Gs.out)).trans Gs.out)
            replace Gm := Lib.hid ((hb.block _ (lt_of_heap Gm.out)).trans Gm.out)
            clear hb
            have cGn := cell_row Gn.out
            have cGx := cell_row Gx.out
            have cGy := cell_row Gy.out
            have cGs := cell_row Gs.out
            have cGm := cell_row Gm.out
            have hz1 := HZ1.out
            have hz0 := HZ.out
            have q2 := cell_row Gm.out
            clear cGn cGx cGy cGs cGm
            have sts := st_row (P := Try.prog) Gs.out rfl (mo)
            replace Gn := Lib.hid ((setRow_other (w6) (w2.heap.size) _ (wcells (mo)) (by (omega))).trans Gn.out)
            replace Gx := Lib.hid ((setRow_other (w6) (w2.heap.size) _ (wcells (mo)) (by (omega))).trans Gx.out)
            replace Gy := Lib.hid ((setRow_other (w6) (w2.heap.size) _ (wcells (mo)) (by (omega))).trans Gy.out)
            replace Gm := Lib.hid ((setRow_other (w6) (w2.heap.size) _ (wcells (mo)) (by (omega))).trans Gm.out)
            replace Gs := Lib.hid (setRow_heap (w6) (w2.heap.size) _ (wcells (mo)) _ _ Gs.out)
            replace HB := Lib.hid (below_setRow' HB.out (show _ ≤ w2.heap.size by (omega)) (wcells (mo)))
            go_wp2
            go_roundw
            case rel => exact ⟨i, by have := HJ.out; omega, by go_num, Gn, Gx, Gy, by rw [HG2.out]; exact Gs, HB⟩
            case measure => simp [intOf]
        · have HG2 := Lib.hid (show S / P2 i * P2 i = q by rw [HG.out, if_neg (fun h => hc (HCM.out.2 (HL2.out.1 h)))])
          have cGn := cell_row Gn.out
          have cGx := cell_row Gx.out
          have cGy := cell_row Gy.out
          have cGs := cell_row Gs.out
          go_upto_region 8 with fail
          clear cGn cGx cGy cGs
          have xGn := ext_row (B := wr.heap.size) Gn.out (lt_of_heap Gn.out)
          have xGx := ext_row (B := wr.heap.size) Gx.out (lt_of_heap Gx.out)
          have xGy := ext_row (B := wr.heap.size) Gy.out (lt_of_heap Gy.out)
          have xGs := ext_row (B := wr.heap.size) Gs.out (lt_of_heap Gs.out)
          apply wp_region_loose (looseR [_, _, _, _, _, _, _, Lft.val undef, Lft.val undef, _]) (pureL [4, 5, 6, 9])
          · kernel_rfl
          · kernel_rfl
          · kernel_rfl
          · exact allocs_ok [26] rfl (by intro T hT; simp only [List.mem_cons, List.not_mem_nil, or_false] at hT; subst hT; exact makes_wide)
          · exact looseR_st _
          · change wpL _ _ _ _ _ _ _ 10 0 _ _
            refine wpL_calm wr rfl rfl rfl rfl (fun K hK K0 hK0 => ?_)
            go_simp
            first | refine hK _ _ rfl rfl ?_ | refine hK0 _ rfl ?_
            clear hK hK0 K K0
            refine wpL_calm wr rfl rfl rfl rfl (fun K hK K0 hK0 => ?_)
            go_simp
            first | refine hK _ _ rfl rfl ?_ | refine hK0 _ rfl ?_
            clear hK hK0 K K0
            refine wpL_calm wr rfl rfl rfl rfl (fun K hK K0 hK0 => ?_)
            go_simp
            apply Exists.intro
            apply And.intro
            · intro x
              go_at_call 45
              with_reducible exact T1.out _
            refine hK _ _ rfl rfl ?_
            clear hK hK0 K K0
            refine wpL_calm wr rfl rfl rfl rfl (fun K hK K0 hK0 => ?_)
            go_simp
            apply Exists.intro
            apply And.intro
            · intro x
              go_at_call 63
              with_reducible exact T2.out _
            refine hK _ _ rfl rfl ?_
            clear hK hK0 K K0
            refine wpL_pure wr rfl rfl rfl rfl (fun K hK K0 hK0 => ?_)
            go_simp
            first | refine hK _ _ rfl rfl ?_ | refine hK0 _ rfl ?_
            clear hK hK0 K K0
            refine wpL_pure wr rfl rfl rfl rfl (fun K hK K0 hK0 => ?_)
            go_simp
            first | refine hK _ _ rfl rfl ?_ | refine hK0 _ rfl ?_
            clear hK hK0 K K0
            refine wpL_pure wr rfl rfl rfl rfl (fun K hK K0 hK0 => ?_)
            go_simp
            first | refine hK _ _ rfl rfl ?_ | refine hK0 _ rfl ?_
            clear hK hK0 K K0
            refine wpL_alloc rfl rfl rfl rfl (fun g7 hg7 => ?_)
            refine wpL_store rfl rfl ?_
            refine wpL_pure wr rfl rfl rfl rfl (fun K hK K0 hK0 => ?_)
            go_simp
            first | refine hK _ _ rfl rfl ?_ | refine hK0 _ rfl ?_
            clear hK hK0 K K0
            refine wpL_nil (endL [(26, .tmp 8, .tmp 28)] rfl (by intro q hq; simp only [List.mem_cons, List.not_mem_nil, or_false] at hq; subst hq; exact fits_wv (by kernel_rfl) _) (fun w7 hb hst hap hfin => ?_))
            have Gm : Hid (w7.heap[g7]? = some (.cells (wcells (mo)) 26 (0, 0))) := Lib.hid (hst 8 _ _ _ _ g7 rfl rfl rfl)
            replace HB := Lib.hid (below_then HB.out hb)
            replace Gn := Lib.hid ((hb.block _ (lt_of_heap Gn.out)).trans Gn.out)
            replace Gx := Lib.hid ((hb.block _ (lt_of_heap Gx.out)).trans Gx.out)
            replace Gy := Lib.hid ((hb.block _ (lt_of_heap Gy.out)).trans Gy.out)
            replace Gs := Lib.hid ((hb.block _ (lt_of_heap Gs.out)).trans Gs.out)
            clear hb hst hap hfin xGn xGx xGy xGs
            have cGn := cell_row Gn.out
            have cGx := cell_row Gx.out
            have cGy := cell_row Gy.out
            have cGs := cell_row Gs.out
            have cGm := cell_row Gm.out
            go_upto_region 9 with fail
            clear cGn cGx cGy cGs cGm
            have xGn := ext_row (B := w7.heap.size) Gn.out (lt_of_heap Gn.out)
            have xGx := ext_row (B := w7.heap.size) Gx.out (lt_of_heap Gx.out)
            have xGy := ext_row (B := w7.heap.size) Gy.out (lt_of_heap Gy.out)
            have xGs := ext_row (B := w7.heap.size) Gs.out (lt_of_heap Gs.out)
            have xGm := ext_row (B := w7.heap.size) Gm.out (lt_of_heap Gm.out)
            refine wp_region_ext w7.heap.size (by kernel_rfl) (by kernel_rfl) ?_
            repeat (go_big_quiet_step (first | (go_at_call 140; with_reducible exact Calls.quiet_ext (Nat.le_refl _) (T3.out _)) | (go_at_call 65; with_reducible exact Calls.quiet_ext (Nat.le_refl _) (T4.out _))))
            refine wpQuiet_nil ?_
            intro w8 hb
            clear xGn xGx xGy xGs xGm
            replace HB := Lib.hid (below_then HB.out hb)
            replace Gn := Lib.hid ((hb.block _ (lt_of_heap Gn.out)).trans Gn.out)
            replace Gx := Lib.hid ((hb.block _ (lt_of_heap Gx.out)).trans Gx.out)
            replace Gy := Lib.hid ((hb.block _ (lt_of_heap Gy.out)).trans Gy.out)
            replace Gs := Lib.hid ((hb.block _ (lt_of_heap Gs.out)).trans Gs.out)
            replace Gm := Lib.hid ((hb.block _ (lt_of_heap Gm.out)).trans Gm.out)
            clear hb
            have cGn := cell_row Gn.out
            have cGx := cell_row Gx.out
            have cGy := cell_row Gy.out
            have cGs := cell_row Gs.out
            have cGm := cell_row Gm.out
            go_wp2
            go_roundw
            case rel => exact ⟨i, by have := HJ.out; omega, by go_num, Gn, Gx, Gy, by rw [HG2.out]; exact Gs, HB⟩
            case measure => simp [intOf]
  · obtain ⟨_, _, e3⟩ := rs_no hm
    obtain ⟨e1, e2⟩ := cb_no hm
    rw [e1, e2, e3]
    rw [e3] at S1
    clear hn hm e1 e2 e3
    go_enter Try.func96, Try.ntmps96
    have HB := Lib.hid (Below.refl w.heap.size w)
    have Gn := Lib.hid (alloc_new (w) (.cells (wcells n) 26))
    replace HB := Lib.hid (below_al HB.out (.cells (wcells n) 26))
    replace Gn := Lib.hid (keepAl (o' := .cells (wcells 0) 26) Gn.out)
    have Gx := Lib.hid (alloc_new' (w := (w).alloc (.cells (wcells n) 26)) (n := w.heap.size + 1) (.cells (wcells 0) 26) (by simp))
    replace HB := Lib.hid (below_al HB.out (.cells (wcells 0) 26))
    replace Gn := Lib.hid (keepAl (o' := .cells (wcells 0) 26) Gn.out)
    replace Gx := Lib.hid (keepAl (o' := .cells (wcells 0) 26) Gx.out)
    have Gy := Lib.hid (alloc_new' (w := ((w).alloc (.cells (wcells n) 26)).alloc (.cells (wcells 0) 26)) (n := w.heap.size + 1 + 1) (.cells (wcells 0) 26) (by simp))
    replace HB := Lib.hid (below_al HB.out (.cells (wcells 0) 26))
    go_wp2
    go_step3
    have cGn := cell_row Gn.out
    have cGx := cell_row Gx.out
    have cGy := cell_row Gy.out
    go_wp2_with fail
    refine (S1.out _).mono ?_
    rintro e w9 ⟨rfl, hb⟩
    clear cGn cGx cGy
    replace HB := Lib.hid (below_then HB.out hb)
    replace Gn := Lib.hid ((hb.block _ (lt_of_heap Gn.out)).trans Gn.out)
    replace Gx := Lib.hid ((hb.block _ (lt_of_heap Gx.out)).trans Gx.out)
    replace Gy := Lib.hid ((hb.block _ (lt_of_heap Gy.out)).trans Gy.out)
    clear hb
    have HZ := Lib.hid (lt_of_heap Gy.out)
    have stx := st_row (P := Try.prog) Gx.out rfl (0)
    replace Gn := Lib.hid ((setRow_other (w9) (w.heap.size + 1) _ (wcells (0)) (by (have := HZ.out; omega))).trans Gn.out)
    replace Gy := Lib.hid ((setRow_other (w9) (w.heap.size + 1) _ (wcells (0)) (by (have := HZ.out; omega))).trans Gy.out)
    replace Gx := Lib.hid (setRow_heap (w9) (w.heap.size + 1) _ (wcells (0)) _ _ Gx.out)
    replace HB := Lib.hid (below_setRow' HB.out (show _ ≤ w.heap.size + 1 by (have := HZ.out; omega)) (wcells (0)))
    have q1 := stx
    clear stx
    have sty := st_row (P := Try.prog) Gy.out rfl (0)
    replace Gn := Lib.hid ((setRow_other ((w9).setRow (w.heap.size + 1) (wcells (0))) (w.heap.size + 1 + 1) _ (wcells (0)) (by (have := HZ.out; omega))).trans Gn.out)
    replace Gx := Lib.hid ((setRow_other ((w9).setRow (w.heap.size + 1) (wcells (0))) (w.heap.size + 1 + 1) _ (wcells (0)) (by (have := HZ.out; omega))).trans Gx.out)
    replace Gy := Lib.hid (setRow_heap ((w9).setRow (w.heap.size + 1) (wcells (0))) (w.heap.size + 1 + 1) _ (wcells (0)) _ _ Gy.out)
    replace HB := Lib.hid (below_setRow' HB.out (show _ ≤ w.heap.size + 1 + 1 by (have := HZ.out; omega)) (wcells (0)))
    have c1 := cell_row Gx.out
    have c2 := cell_row Gy.out
    go_wp2
    (try rw [Exit.noGoto_ret])
    exact bodyPost_ret (v := .tuple #[wv 0, wv 0, .int .i64 4]) (by simp [results, Try.results96, go_sem, c1, c2]) rfl ⟨rfl, HB.out⟩
end Go.Proofs.Ytenkaobgoknlhaa
