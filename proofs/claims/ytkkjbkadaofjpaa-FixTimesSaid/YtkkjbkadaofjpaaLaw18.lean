/- THE WALK of the law on fractions' products, 2 without one, and whether two are near. -/
import Derived.Test.YtkkjbkadaofjpaaFixd
namespace Go.Proofs.Ytkkjbkadaofjpaa
open Go Go.RowKit

theorem times_cap {a b : Nat} (n : Int) (ha : a < M) (hb : b < M) : a * b / P2 (clampP n) = a * b / P2 (clampS n) := by
  rw [clampS_P, (prod_cap (prod_lt ha hb) _).1]
/-- 2, or 0, as the document reckons it: above 2^512. -/
def twoW (n : Int) : Nat := M + (if n < -1 ∨ 510 < n then 0 else P2 (n + 1).toNat)
theorem two_eq (n : Int) (a : Nat) : (twoW n - a) % M = twoN n a := by
  unfold twoW twoN negN subN
  split
  · rw [Nat.add_zero, Nat.zero_add]
  · rw [Nat.add_comm M]
theorem twoW_lt (n : Int) : twoW n < M + M := by
  unfold twoW
  split
  · have := M_pos; omega
  · have : P2 (n + 1).toNat < M := by rw [M_eq]; exact P2_lt (by omega)
    omega
attribute [local go_sem ↓] Go.wp_at_zero Go.wp_at_succ
set_option maxRecDepth 100000 in
set_option maxHeartbeats 4000000 in
theorem fixTimes_any (a b : Nat) (n : Int) (w : World) (ha : a < M) (hb : b < M) (_hn0 : -9223372036854775808 ≤ n) (hn1 : n ≤ 9223372036854775807) :
    Calls Try.prog 11 #[wv a, wv b, .int .i64 n] w fun e w' => e = .returned (.bool true) ∧ Below w.heap.size w w' := by
  clear _hn0
  have hcl := clampS_le n
  have hce := clampS_eq n
  have hP : a * b < P2 1024 := prod_lt ha hb
  have hPB : a * b < BIG := small_of hP (by omega)
  have hQB : a * b / P2 (clampS n) < BIG := Nat.lt_of_le_of_lt (Nat.div_le_self _ _) hPB
  have h2M : M + M < BIG := by
    have : M + M = P2 513 := by rw [M_eq, show 513 = 512 + 1 from rfl, P2_twice 512]; omega
    rw [this]; exact P2_small (by omega)
  have hTW := twoW_lt n
  have SA := Lib.hid (fun w' => awake18_any w')
  have S1 := Lib.hid (fun w' => big_any a ha w')
  have S2 := Lib.hid (fun w' => big_any b hb w')
  have S3 := Lib.hid (fun va vb w' h h' => mul_any va vb a b w' (small_M ha) (small_M hb) h h')
  have S4 := Lib.hid (fun v w' h => rshr_any v (a * b) (clampS n) w' hPB (by omega) h)
  have S5 := Lib.hid (fun v w' h => wide_any v (a * b / P2 (clampS n)) w' hQB h)
  have S6 := Lib.hid (fun w' => whole_any w')
  have S8 := Lib.hid (fun v v2 w' h h' => sub_any v v2 a (twoW n - a) w' (by rw [Nat.add_sub_cancel' (by unfold twoW; omega)]; omega) h h')
  rw [Nat.add_sub_cancel' (show a ≤ twoW n by unfold twoW; omega)] at S8
  have S9 := Lib.hid (fun v w' h => wide_any v (twoW n - a) w' (by omega) h)
  rw [two_eq] at S9
  have F1 := Lib.hid (fun w' => times_w a b n ha hb w')
  rw [times_cap n ha hb] at F1
  have F2 := Lib.hid (fun w' => two_w n a ha w')
  have F3 := Lib.hid (fun w' => near_w a b n ha hb hn1 w')
  have F4 := Lib.hid (fun w' => near_w a a 0 ha ha (by decide) w')
  rw [show nearB a a 0 = true by unfold nearB; rw [Nat.sub_self]; rfl] at F4
  have S10 := Lib.hid (fun va vb w' h h' => raway_any va vb a b w' (small_M ha) (small_M hb) h h')
  have S11 := Lib.hid (fun va w' h => rwithin_any va ((a - b) + (b - a)) n w' (by have := small_M ha; have := small_M hb; omega) hn1 h)
  rw [show withinB ((a - b) + (b - a)) n = nearB a b n from rfl] at S11
  obtain ⟨p, hp⟩ : ∃ x, x = a * b / P2 (clampS n) % M := ⟨_, rfl⟩
  rw [← hp] at S5 F1
  obtain ⟨fp, hfp⟩ : ∃ x, x = decide (M ≤ a * b / P2 (clampS n)) := ⟨_, rfl⟩
  rw [← hfp] at S5
  obtain ⟨Q, hQ⟩ : ∃ x, x = a * b / P2 (clampS n) := ⟨_, rfl⟩
  rw [← hQ] at S4 S5
  obtain ⟨P, hPe⟩ : ∃ x, x = a * b := ⟨_, rfl⟩
  rw [← hPe] at S3 S4
  obtain ⟨c, hc⟩ : ∃ x, x = clampS n := ⟨_, rfl⟩
  rw [← hc] at S4 hce
  obtain ⟨D, hD⟩ : ∃ x, x = (a - b) + (b - a) := ⟨_, rfl⟩
  rw [← hD] at S10 S11
  obtain ⟨nb, hnb⟩ : ∃ x, x = nearB a b n := ⟨_, rfl⟩
  rw [← hnb] at F3 S11
  obtain ⟨v, hv⟩ : ∃ x, x = twoN n a := ⟨_, rfl⟩
  rw [← hv] at S9 F2
  obtain ⟨fv, hfv⟩ : ∃ x, x = decide (M ≤ twoW n - a) := ⟨_, rfl⟩
  rw [← hfv] at S9
  obtain ⟨E, hE⟩ : ∃ x, x = twoW n - a := ⟨_, rfl⟩
  rw [← hE] at S8 S9
  by_cases hr : n < -1 ∨ 510 < n
  · have hX : twoW n = M := by unfold twoW; rw [if_pos hr, Nat.add_zero]
    rw [hX] at S8
    clear ha hb hn1 hcl hP hPB hQB h2M hTW hp hfp hQ hPe hc hD hnb hv hfv hE hX
    rcases hr with hr | hr
    · have hr1 : ¬ -1 ≤ n := by omega
      go_enter Try.func11, Try.ntmps11
      have HB := Lib.hid (Below.refl w.heap.size w)
      have Ga := Lib.hid (alloc_new (w) (.cells (wcells a) 31))
      replace HB := Lib.hid (below_al HB.out (.cells (wcells a) 31))
      replace Ga := Lib.hid (keepAl (o' := .cells (wcells b) 31) Ga.out)
      have Gb := Lib.hid (alloc_new' (w := (w).alloc (.cells (wcells a) 31)) (n := w.heap.size + 1) (.cells (wcells b) 31) (by simp))
      replace HB := Lib.hid (below_al HB.out (.cells (wcells b) 31))
      go_upto_region 2 with fail
      obtain ⟨wL, hw⟩ : ∃ wx, wx = ((w).alloc (.cells (wcells a) 31)).alloc (.cells (wcells b) 31) := ⟨_, rfl⟩
      rw [← hw] at Ga Gb HB ⊢
      clear hw
      have xGa := ext_row (B := wL.heap.size) Ga.out (lt_of_heap Ga.out)
      have xGb := ext_row (B := wL.heap.size) Gb.out (lt_of_heap Gb.out)
      apply wp_region_loose (looseR [_, _, _, _, _, _, _, _, _, _, _, Lft.val undef, Lft.val undef, _]) (pureL [8, 9, 10, 13])
      · kernel_rfl
      · kernel_rfl
      · kernel_rfl
      · exact allocs_ok [31] rfl (by intro T hT; simp only [List.mem_cons, List.not_mem_nil, or_false] at hT; subst hT; exact makes_wide)
      · exact looseR_st _
      · change wpL _ _ _ _ _ _ _ 14 0 _ _
        refine wpL_calm wL rfl rfl rfl rfl (fun K hK K0 hK0 => ?_)
        go_simp
        first | refine hK _ _ rfl rfl ?_ | refine hK0 _ rfl ?_
        clear hK hK0 K K0
        refine wpL_call (Lft.big a) (big_some w _) rfl rfl rfl rfl (by first | rfl | go_simp) rfl (fun w' hC hF => ?_) (fun v1 hv1 => ?_)
        · obtain ⟨x, rfl⟩ := hC
          go_simp
          go_at_call 33
          exact gives_loose (S1.out _)
        refine wpL_calm wL rfl rfl rfl rfl (fun K hK K0 hK0 => ?_)
        go_simp
        first | refine hK _ _ rfl rfl ?_ | refine hK0 _ rfl ?_
        clear hK hK0 K K0
        refine wpL_call (Lft.big b) (big_some w _) rfl rfl rfl rfl (by first | rfl | go_simp) rfl (fun w' hC hF => ?_) (fun v3 hv3 => ?_)
        · obtain ⟨x, rfl⟩ := hC
          go_simp
          go_at_call 33
          exact gives_loose (S2.out _)
        refine wpL_call (Lft.big P) (big_some w _) rfl rfl rfl rfl (by first | rfl | go_simp) rfl (fun w' hC hF => ?_) (fun v4 hv4 => ?_)
        · obtain ⟨x, rfl⟩ := hC
          go_simp
          go_at_call 43
          exact gives_loose (S3.out _ _ _ (hF 1 _ 18 rfl rfl rfl rfl (by decide)) (hF 3 _ 20 rfl rfl rfl rfl (by decide)))
        refine wpL_calm wL rfl rfl rfl rfl (fun K hK K0 hK0 => ?_)
        go_simp
        first | refine hK _ _ rfl rfl ?_ | refine hK0 _ rfl ?_
        clear hK hK0 K K0
        refine wpL_call (Lft.big Q) (big_some w _) rfl rfl rfl rfl (by first | rfl | go_simp) rfl (fun w' hC hF => ?_) (fun v6 hv6 => ?_)
        · obtain ⟨x, rfl⟩ := hC
          go_simp
          go_at_call 56
          exact gives_loose (S4.out _ _ (hF 4 _ 21 rfl rfl rfl rfl (by decide)))
        refine wpL_call (Lft.val (.tuple #[wv p, .bool fp])) (val_some wL _) rfl rfl rfl rfl (by first | rfl | go_simp) rfl (fun w' hC hF => ?_) (fun v7 hv7 => ?_)
        · obtain ⟨x, rfl⟩ := hC
          go_simp
          go_at_call 55
          exact val_loose (S5.out _ _ (hF 6 _ 23 rfl rfl rfl rfl (by decide)))
        obtain ⟨_, rfl⟩ := hv7
        refine wpL_pure wL rfl rfl rfl rfl (fun K hK K0 hK0 => ?_)
        go_simp
        first | refine hK _ _ rfl rfl ?_ | refine hK0 _ rfl ?_
        clear hK hK0 K K0
        refine wpL_pure wL rfl rfl rfl rfl (fun K hK K0 hK0 => ?_)
        go_simp
        first | refine hK _ _ rfl rfl ?_ | refine hK0 _ rfl ?_
        clear hK hK0 K K0
        refine wpL_pure wL rfl rfl rfl rfl (fun K hK K0 hK0 => ?_)
        go_simp
        first | refine hK _ _ rfl rfl ?_ | refine hK0 _ rfl ?_
        clear hK hK0 K K0
        refine wpL_alloc rfl rfl rfl rfl (fun g11 hg11 => ?_)
        refine wpL_store rfl rfl ?_
        refine wpL_pure wL rfl rfl rfl rfl (fun K hK K0 hK0 => ?_)
        go_simp
        first | refine hK _ _ rfl rfl ?_ | refine hK0 _ rfl ?_
        clear hK hK0 K K0
        refine wpL_nil (endL [(31, .tmp 8, .tmp 25)] rfl (by intro q hq; simp only [List.mem_cons, List.not_mem_nil, or_false] at hq; subst hq; exact fits_wv (by kernel_rfl) _) (fun w1 hb hst hap hfin => ?_))
        have Gp : Hid (w1.heap[g11]? = some (.cells (wcells (p)) 31 (0, 0))) := Lib.hid (hst 12 _ _ _ _ g11 rfl rfl rfl)
        replace HB := Lib.hid (below_then HB.out hb)
        replace Ga := Lib.hid ((hb.block _ (lt_of_heap Ga.out)).trans Ga.out)
        replace Gb := Lib.hid ((hb.block _ (lt_of_heap Gb.out)).trans Gb.out)
        clear hb hst hap hfin xGa xGb
        have cGa := cell_row Ga.out
        have cGb := cell_row Gb.out
        have cGp := cell_row Gp.out
        go_wp2_with fail
        refine (S6.out _).mono ?_
        rintro e w2 ⟨rt, rfl, hr, hb⟩
        clear cGa cGb cGp
        replace HB := Lib.hid (below_then HB.out hb)
        replace Ga := Lib.hid ((hb.block _ (lt_of_heap Ga.out)).trans Ga.out)
        replace Gb := Lib.hid ((hb.block _ (lt_of_heap Gb.out)).trans Gb.out)
        replace Gp := Lib.hid ((hb.block _ (lt_of_heap Gp.out)).trans Gp.out)
        have Rt := Lib.hid hr
        clear hr hb
        have cGa := cell_row Ga.out
        have cGb := cell_row Gb.out
        have cGp := cell_row Gp.out
        go_wp2_with fail
        refine (S1.out _).mono ?_
        rintro e w3 ⟨ra, rfl, hr, hb⟩
        clear cGa cGb cGp
        replace HB := Lib.hid (below_then HB.out hb)
        replace Ga := Lib.hid ((hb.block _ (lt_of_heap Ga.out)).trans Ga.out)
        replace Gb := Lib.hid ((hb.block _ (lt_of_heap Gb.out)).trans Gb.out)
        replace Gp := Lib.hid ((hb.block _ (lt_of_heap Gp.out)).trans Gp.out)
        replace Rt := Lib.hid (Rt.out.below hb)
        have Ra := Lib.hid hr
        clear hr hb
        have cGa := cell_row Ga.out
        have cGb := cell_row Gb.out
        have cGp := cell_row Gp.out
        go_wp2_with fail
        refine (S8.out _ _ _ Rt.out Ra.out).mono ?_
        rintro e w4 ⟨rs, rfl, hr, hb⟩
        clear cGa cGb cGp
        replace HB := Lib.hid (below_then HB.out hb)
        replace Ga := Lib.hid ((hb.block _ (lt_of_heap Ga.out)).trans Ga.out)
        replace Gb := Lib.hid ((hb.block _ (lt_of_heap Gb.out)).trans Gb.out)
        replace Gp := Lib.hid ((hb.block _ (lt_of_heap Gp.out)).trans Gp.out)
        replace Rt := Lib.hid (Rt.out.below hb)
        replace Ra := Lib.hid (Ra.out.below hb)
        have Rs := Lib.hid hr
        clear hr hb
        have cGa := cell_row Ga.out
        have cGb := cell_row Gb.out
        have cGp := cell_row Gp.out
        go_wp2_with fail
        refine (S9.out _ _ Rs.out).mono ?_
        rintro e w5 ⟨rfl, hb⟩
        clear cGa cGb cGp
        replace HB := Lib.hid (below_then HB.out hb)
        replace Ga := Lib.hid ((hb.block _ (lt_of_heap Ga.out)).trans Ga.out)
        replace Gb := Lib.hid ((hb.block _ (lt_of_heap Gb.out)).trans Gb.out)
        replace Gp := Lib.hid ((hb.block _ (lt_of_heap Gp.out)).trans Gp.out)
        replace Rs := Lib.hid (Rs.out.below hb)
        clear hb
        replace Ga := Lib.hid (keepAl (o' := .cells (wcells v) 31) Ga.out)
        replace Gb := Lib.hid (keepAl (o' := .cells (wcells v) 31) Gb.out)
        replace Gp := Lib.hid (keepAl (o' := .cells (wcells v) 31) Gp.out)
        have Gl := Lib.hid (alloc_new (w5) (.cells (wcells v) 31))
        replace HB := Lib.hid (below_al HB.out (.cells (wcells v) 31))
        go_upto_region 7 with fail
        obtain ⟨wM, hw⟩ : ∃ wx, wx = (w5).alloc (.cells (wcells v) 31) := ⟨_, rfl⟩
        rw [← hw] at Ga Gb Gp Gl HB ⊢
        clear hw
        have xGa := ext_row (B := wM.heap.size) Ga.out (lt_of_heap Ga.out)
        have xGb := ext_row (B := wM.heap.size) Gb.out (lt_of_heap Gb.out)
        have xGp := ext_row (B := wM.heap.size) Gp.out (lt_of_heap Gp.out)
        have xGl := ext_row (B := wM.heap.size) Gl.out (lt_of_heap Gl.out)
        apply wp_region_loose (looseR [_, _, _, _, _, _, _, _, _, _, _, _, _, _, _, _, _, _, _, _, _, _, _, _, _, _, _, _, _, _, _, _, _, _, _, _]) (pureL [])
        · kernel_rfl
        · kernel_rfl
        · kernel_rfl
        · exact allocs_ok [] rfl (by intro T hT; cases hT)
        · exact looseR_st _
        · change wpL _ _ _ _ _ _ _ 36 0 _ _
          refine wpL_calm wM rfl rfl rfl rfl (fun K hK K0 hK0 => ?_)
          go_simp
          first | refine hK _ _ rfl rfl ?_ | refine hK0 _ rfl ?_
          clear hK hK0 K K0
          refine wpL_calm wM rfl rfl rfl rfl (fun K hK K0 hK0 => ?_)
          go_simp
          first | refine hK _ _ rfl rfl ?_ | refine hK0 _ rfl ?_
          clear hK hK0 K K0
          refine wpL_calm wM rfl rfl rfl rfl (fun K hK K0 hK0 => ?_)
          go_simp
          first | refine hK _ _ rfl rfl ?_ | refine hK0 _ rfl ?_
          clear hK hK0 K K0
          refine wpL_call (Lft.val (wv p)) (val_some wM _) rfl rfl rfl rfl (by first | rfl | go_simp) rfl (fun w' hC hF => ?_) (fun v3 hv3 => ?_)
          · obtain ⟨x, rfl⟩ := hC
            go_simp
            go_at_call 59
            exact val_loose (F1.out _)
          obtain ⟨_, rfl⟩ := hv3
          refine wpL_calm wM rfl rfl rfl rfl (fun K hK K0 hK0 => ?_)
          go_simp
          first | refine hK _ _ rfl rfl ?_ | refine hK0 _ rfl ?_
          clear hK hK0 K K0
          refine wpL_calm wM rfl rfl rfl rfl (fun K hK K0 hK0 => ?_)
          go_simp
          first | refine hK _ _ rfl rfl ?_ | refine hK0 _ rfl ?_
          clear hK hK0 K K0
          refine wpL_calm wM rfl rfl rfl rfl (fun K hK K0 hK0 => ?_)
          go_simp
          first | refine hK _ _ rfl rfl ?_ | refine hK0 _ rfl ?_
          clear hK hK0 K K0
          refine wpL_calm wM rfl rfl rfl rfl (fun K hK K0 hK0 => ?_)
          go_simp
          first | refine hK _ _ rfl rfl ?_ | refine hK0 _ rfl ?_
          clear hK hK0 K K0
          refine wpL_calm wM rfl rfl rfl rfl (fun K hK K0 hK0 => ?_)
          go_simp
          first | refine hK _ _ rfl rfl ?_ | refine hK0 _ rfl ?_
          clear hK hK0 K K0
          refine wpL_call (Lft.val (wv v)) (val_some wM _) rfl rfl rfl rfl (by first | rfl | go_simp) rfl (fun w' hC hF => ?_) (fun v9 hv9 => ?_)
          · obtain ⟨x, rfl⟩ := hC
            go_simp
            go_at_call 60
            exact val_loose (F2.out _)
          obtain ⟨_, rfl⟩ := hv9
          refine wpL_calm wM rfl rfl rfl rfl (fun K hK K0 hK0 => ?_)
          go_simp
          first | refine hK _ _ rfl rfl ?_ | refine hK0 _ rfl ?_
          clear hK hK0 K K0
          refine wpL_calm wM rfl rfl rfl rfl (fun K hK K0 hK0 => ?_)
          go_simp
          first | refine hK _ _ rfl rfl ?_ | refine hK0 _ rfl ?_
          clear hK hK0 K K0
          refine wpL_calm wM rfl rfl rfl rfl (fun K hK K0 hK0 => ?_)
          go_simp
          first | refine hK _ _ rfl rfl ?_ | refine hK0 _ rfl ?_
          clear hK hK0 K K0
          refine wpL_calm wM rfl rfl rfl rfl (fun K hK K0 hK0 => ?_)
          go_simp
          first | refine hK _ _ rfl rfl ?_ | refine hK0 _ rfl ?_
          clear hK hK0 K K0
          refine wpL_calm wM rfl rfl rfl rfl (fun K hK K0 hK0 => ?_)
          go_simp
          first | refine hK _ _ rfl rfl ?_ | refine hK0 _ rfl ?_
          clear hK hK0 K K0
          refine wpL_calm wM rfl rfl rfl rfl (fun K hK K0 hK0 => ?_)
          go_simp
          first | refine hK _ _ rfl rfl ?_ | refine hK0 _ rfl ?_
          clear hK hK0 K K0
          refine wpL_calm wM rfl rfl rfl rfl (fun K hK K0 hK0 => ?_)
          go_simp
          first | refine hK _ _ rfl rfl ?_ | refine hK0 _ rfl ?_
          clear hK hK0 K K0
          refine wpL_call (Lft.val (.bool nb)) (val_some wM _) rfl rfl rfl rfl (by first | rfl | go_simp) rfl (fun w' hC hF => ?_) (fun v17 hv17 => ?_)
          · obtain ⟨x, rfl⟩ := hC
            go_simp
            go_at_call 61
            exact val_loose (F3.out _)
          obtain ⟨_, rfl⟩ := hv17
          refine wpL_calm wM rfl rfl rfl rfl (fun K hK K0 hK0 => ?_)
          go_simp
          first | refine hK _ _ rfl rfl ?_ | refine hK0 _ rfl ?_
          clear hK hK0 K K0
          refine wpL_call (Lft.big a) (big_some w _) rfl rfl rfl rfl (by first | rfl | go_simp) rfl (fun w' hC hF => ?_) (fun v19 hv19 => ?_)
          · obtain ⟨x, rfl⟩ := hC
            go_simp
            go_at_call 33
            exact gives_loose (S1.out _)
          refine wpL_calm wM rfl rfl rfl rfl (fun K hK K0 hK0 => ?_)
          go_simp
          first | refine hK _ _ rfl rfl ?_ | refine hK0 _ rfl ?_
          clear hK hK0 K K0
          refine wpL_call (Lft.big b) (big_some w _) rfl rfl rfl rfl (by first | rfl | go_simp) rfl (fun w' hC hF => ?_) (fun v21 hv21 => ?_)
          · obtain ⟨x, rfl⟩ := hC
            go_simp
            go_at_call 33
            exact gives_loose (S2.out _)
          refine wpL_call (Lft.big D) (big_some w _) rfl rfl rfl rfl (by first | rfl | go_simp) rfl (fun w' hC hF => ?_) (fun v22 hv22 => ?_)
          · obtain ⟨x, rfl⟩ := hC
            go_simp
            go_at_call 50
            exact gives_loose (S10.out _ _ _ (hF 19 _ 66 rfl rfl rfl rfl (by decide)) (hF 21 _ 68 rfl rfl rfl rfl (by decide)))
          refine wpL_calm wM rfl rfl rfl rfl (fun K hK K0 hK0 => ?_)
          go_simp
          first | refine hK _ _ rfl rfl ?_ | refine hK0 _ rfl ?_
          clear hK hK0 K K0
          refine wpL_call (Lft.val (.bool nb)) (val_some wM _) rfl rfl rfl rfl (by first | rfl | go_simp) rfl (fun w' hC hF => ?_) (fun v24 hv24 => ?_)
          · obtain ⟨x, rfl⟩ := hC
            go_simp
            go_at_call 51
            exact val_loose (S11.out _ _ (hF 22 _ 69 rfl rfl rfl rfl (by decide)))
          obtain ⟨_, rfl⟩ := hv24
          refine wpL_calm wM rfl rfl rfl rfl (fun K hK K0 hK0 => ?_)
          go_simp
          first | refine hK _ _ rfl rfl ?_ | refine hK0 _ rfl ?_
          clear hK hK0 K K0
          refine wpL_calm wM rfl rfl rfl rfl (fun K hK K0 hK0 => ?_)
          go_simp
          first | refine hK _ _ rfl rfl ?_ | refine hK0 _ rfl ?_
          clear hK hK0 K K0
          refine wpL_calm wM rfl rfl rfl rfl (fun K hK K0 hK0 => ?_)
          go_simp
          first | refine hK _ _ rfl rfl ?_ | refine hK0 _ rfl ?_
          clear hK hK0 K K0
          refine wpL_calm wM rfl rfl rfl rfl (fun K hK K0 hK0 => ?_)
          go_simp
          first | refine hK _ _ rfl rfl ?_ | refine hK0 _ rfl ?_
          clear hK hK0 K K0
          refine wpL_calm wM rfl rfl rfl rfl (fun K hK K0 hK0 => ?_)
          go_simp
          first | refine hK _ _ rfl rfl ?_ | refine hK0 _ rfl ?_
          clear hK hK0 K K0
          refine wpL_call (Lft.val (.bool true)) (val_some wM _) rfl rfl rfl rfl (by first | rfl | go_simp) rfl (fun w' hC hF => ?_) (fun v30 hv30 => ?_)
          · obtain ⟨x, rfl⟩ := hC
            go_simp
            go_at_call 61
            exact val_loose (F4.out _)
          obtain ⟨_, rfl⟩ := hv30
          refine wpL_calm wM rfl rfl rfl rfl (fun K hK K0 hK0 => ?_)
          go_simp
          first | refine hK _ _ rfl rfl ?_ | refine hK0 _ rfl ?_
          clear hK hK0 K K0
          refine wpL_calm wM rfl rfl rfl rfl (fun K hK K0 hK0 => ?_)
          go_simp
          first | refine hK _ _ rfl rfl ?_ | refine hK0 _ rfl ?_
          clear hK hK0 K K0
          refine wpL_call (Lft.val (.bool true)) (val_some wM _) rfl rfl rfl rfl (by first | rfl | go_simp) rfl (fun w' hC hF => ?_) (fun v33 hv33 => ?_)
          · obtain ⟨x, rfl⟩ := hC
            go_simp
            go_at_call 49
            exact val_loose (SA.out _)
          obtain ⟨_, rfl⟩ := hv33
          refine wpL_calm wM rfl rfl rfl rfl (fun K hK K0 hK0 => ?_)
          go_simp
          first | refine hK _ _ rfl rfl ?_ | refine hK0 _ rfl ?_
          clear hK hK0 K K0
          refine wpL_calm wM rfl rfl rfl rfl (fun K hK K0 hK0 => ?_)
          go_simp
          first | refine hK _ _ rfl rfl ?_ | refine hK0 _ rfl ?_
          clear hK hK0 K K0
          refine wpL_nil (endL [] rfl (by intro q hq; cases hq) (fun w6 hb hst hap hfin => ?_))
          replace HB := Lib.hid (below_then HB.out hb)
          replace Ga := Lib.hid ((hb.block _ (lt_of_heap Ga.out)).trans Ga.out)
          replace Gb := Lib.hid ((hb.block _ (lt_of_heap Gb.out)).trans Gb.out)
          replace Gp := Lib.hid ((hb.block _ (lt_of_heap Gp.out)).trans Gp.out)
          replace Gl := Lib.hid ((hb.block _ (lt_of_heap Gl.out)).trans Gl.out)
          clear hb hst hap hfin xGa xGb xGp xGl
          go_wp2
          go_ret
          exact ⟨rfl, HB.out⟩
    · have hr1 : -1 ≤ n := by omega
      have hr2 : ¬ n ≤ 510 := by omega
      go_enter Try.func11, Try.ntmps11
      have HB := Lib.hid (Below.refl w.heap.size w)
      have Ga := Lib.hid (alloc_new (w) (.cells (wcells a) 31))
      replace HB := Lib.hid (below_al HB.out (.cells (wcells a) 31))
      replace Ga := Lib.hid (keepAl (o' := .cells (wcells b) 31) Ga.out)
      have Gb := Lib.hid (alloc_new' (w := (w).alloc (.cells (wcells a) 31)) (n := w.heap.size + 1) (.cells (wcells b) 31) (by simp))
      replace HB := Lib.hid (below_al HB.out (.cells (wcells b) 31))
      go_upto_region 2 with fail
      obtain ⟨wL, hw⟩ : ∃ wx, wx = ((w).alloc (.cells (wcells a) 31)).alloc (.cells (wcells b) 31) := ⟨_, rfl⟩
      rw [← hw] at Ga Gb HB ⊢
      clear hw
      have xGa := ext_row (B := wL.heap.size) Ga.out (lt_of_heap Ga.out)
      have xGb := ext_row (B := wL.heap.size) Gb.out (lt_of_heap Gb.out)
      apply wp_region_loose (looseR [_, _, _, _, _, _, _, _, _, _, _, Lft.val undef, Lft.val undef, _]) (pureL [8, 9, 10, 13])
      · kernel_rfl
      · kernel_rfl
      · kernel_rfl
      · exact allocs_ok [31] rfl (by intro T hT; simp only [List.mem_cons, List.not_mem_nil, or_false] at hT; subst hT; exact makes_wide)
      · exact looseR_st _
      · change wpL _ _ _ _ _ _ _ 14 0 _ _
        refine wpL_calm wL rfl rfl rfl rfl (fun K hK K0 hK0 => ?_)
        go_simp
        first | refine hK _ _ rfl rfl ?_ | refine hK0 _ rfl ?_
        clear hK hK0 K K0
        refine wpL_call (Lft.big a) (big_some w _) rfl rfl rfl rfl (by first | rfl | go_simp) rfl (fun w' hC hF => ?_) (fun v1 hv1 => ?_)
        · obtain ⟨x, rfl⟩ := hC
          go_simp
          go_at_call 33
          exact gives_loose (S1.out _)
        refine wpL_calm wL rfl rfl rfl rfl (fun K hK K0 hK0 => ?_)
        go_simp
        first | refine hK _ _ rfl rfl ?_ | refine hK0 _ rfl ?_
        clear hK hK0 K K0
        refine wpL_call (Lft.big b) (big_some w _) rfl rfl rfl rfl (by first | rfl | go_simp) rfl (fun w' hC hF => ?_) (fun v3 hv3 => ?_)
        · obtain ⟨x, rfl⟩ := hC
          go_simp
          go_at_call 33
          exact gives_loose (S2.out _)
        refine wpL_call (Lft.big P) (big_some w _) rfl rfl rfl rfl (by first | rfl | go_simp) rfl (fun w' hC hF => ?_) (fun v4 hv4 => ?_)
        · obtain ⟨x, rfl⟩ := hC
          go_simp
          go_at_call 43
          exact gives_loose (S3.out _ _ _ (hF 1 _ 18 rfl rfl rfl rfl (by decide)) (hF 3 _ 20 rfl rfl rfl rfl (by decide)))
        refine wpL_calm wL rfl rfl rfl rfl (fun K hK K0 hK0 => ?_)
        go_simp
        first | refine hK _ _ rfl rfl ?_ | refine hK0 _ rfl ?_
        clear hK hK0 K K0
        refine wpL_call (Lft.big Q) (big_some w _) rfl rfl rfl rfl (by first | rfl | go_simp) rfl (fun w' hC hF => ?_) (fun v6 hv6 => ?_)
        · obtain ⟨x, rfl⟩ := hC
          go_simp
          go_at_call 56
          exact gives_loose (S4.out _ _ (hF 4 _ 21 rfl rfl rfl rfl (by decide)))
        refine wpL_call (Lft.val (.tuple #[wv p, .bool fp])) (val_some wL _) rfl rfl rfl rfl (by first | rfl | go_simp) rfl (fun w' hC hF => ?_) (fun v7 hv7 => ?_)
        · obtain ⟨x, rfl⟩ := hC
          go_simp
          go_at_call 55
          exact val_loose (S5.out _ _ (hF 6 _ 23 rfl rfl rfl rfl (by decide)))
        obtain ⟨_, rfl⟩ := hv7
        refine wpL_pure wL rfl rfl rfl rfl (fun K hK K0 hK0 => ?_)
        go_simp
        first | refine hK _ _ rfl rfl ?_ | refine hK0 _ rfl ?_
        clear hK hK0 K K0
        refine wpL_pure wL rfl rfl rfl rfl (fun K hK K0 hK0 => ?_)
        go_simp
        first | refine hK _ _ rfl rfl ?_ | refine hK0 _ rfl ?_
        clear hK hK0 K K0
        refine wpL_pure wL rfl rfl rfl rfl (fun K hK K0 hK0 => ?_)
        go_simp
        first | refine hK _ _ rfl rfl ?_ | refine hK0 _ rfl ?_
        clear hK hK0 K K0
        refine wpL_alloc rfl rfl rfl rfl (fun g11 hg11 => ?_)
        refine wpL_store rfl rfl ?_
        refine wpL_pure wL rfl rfl rfl rfl (fun K hK K0 hK0 => ?_)
        go_simp
        first | refine hK _ _ rfl rfl ?_ | refine hK0 _ rfl ?_
        clear hK hK0 K K0
        refine wpL_nil (endL [(31, .tmp 8, .tmp 25)] rfl (by intro q hq; simp only [List.mem_cons, List.not_mem_nil, or_false] at hq; subst hq; exact fits_wv (by kernel_rfl) _) (fun w7 hb hst hap hfin => ?_))
        have Gp : Hid (w7.heap[g11]? = some (.cells (wcells (p)) 31 (0, 0))) := Lib.hid (hst 12 _ _ _ _ g11 rfl rfl rfl)
        replace HB := Lib.hid (below_then HB.out hb)
        replace Ga := Lib.hid ((hb.block _ (lt_of_heap Ga.out)).trans Ga.out)
        replace Gb := Lib.hid ((hb.block _ (lt_of_heap Gb.out)).trans Gb.out)
        clear hb hst hap hfin xGa xGb
        have cGa := cell_row Ga.out
        have cGb := cell_row Gb.out
        have cGp := cell_row Gp.out
        go_wp2_with fail
        refine (S6.out _).mono ?_
        rintro e w8 ⟨rt, rfl, hr, hb⟩
        clear cGa cGb cGp
        replace HB := Lib.hid (below_then HB.out hb)
        replace Ga := Lib.hid ((hb.block _ (lt_of_heap Ga.out)).trans Ga.out)
        replace Gb := Lib.hid ((hb.block _ (lt_of_heap Gb.out)).trans Gb.out)
        replace Gp := Lib.hid ((hb.block _ (lt_of_heap Gp.out)).trans Gp.out)
        have Rt := Lib.hid hr
        clear hr hb
        have cGa := cell_row Ga.out
        have cGb := cell_row Gb.out
        have cGp := cell_row Gp.out
        go_wp2_with fail
        refine (S1.out _).mono ?_
        rintro e w9 ⟨ra, rfl, hr, hb⟩
        clear cGa cGb cGp
        replace HB := Lib.hid (below_then HB.out hb)
        replace Ga := Lib.hid ((hb.block _ (lt_of_heap Ga.out)).trans Ga.out)
        replace Gb := Lib.hid ((hb.block _ (lt_of_heap Gb.out)).trans Gb.out)
        replace Gp := Lib.hid ((hb.block _ (lt_of_heap Gp.out)).trans Gp.out)
        replace Rt := Lib.hid (Rt.out.below hb)
        have Ra := Lib.hid hr
        clear hr hb
        have cGa := cell_row Ga.out
        have cGb := cell_row Gb.out
        have cGp := cell_row Gp.out
        go_wp2_with fail
        refine (S8.out _ _ _ Rt.out Ra.out).mono ?_
        rintro e w10 ⟨rs, rfl, hr, hb⟩
        clear cGa cGb cGp
        replace HB := Lib.hid (below_then HB.out hb)
        replace Ga := Lib.hid ((hb.block _ (lt_of_heap Ga.out)).trans Ga.out)
        replace Gb := Lib.hid ((hb.block _ (lt_of_heap Gb.out)).trans Gb.out)
        replace Gp := Lib.hid ((hb.block _ (lt_of_heap Gp.out)).trans Gp.out)
        replace Rt := Lib.hid (Rt.out.below hb)
        replace Ra := Lib.hid (Ra.out.below hb)
        have Rs := Lib.hid hr
        clear hr hb
        have cGa := cell_row Ga.out
        have cGb := cell_row Gb.out
        have cGp := cell_row Gp.out
        go_wp2_with fail
        refine (S9.out _ _ Rs.out).mono ?_
        rintro e w11 ⟨rfl, hb⟩
        clear cGa cGb cGp
        replace HB := Lib.hid (below_then HB.out hb)
        replace Ga := Lib.hid ((hb.block _ (lt_of_heap Ga.out)).trans Ga.out)
        replace Gb := Lib.hid ((hb.block _ (lt_of_heap Gb.out)).trans Gb.out)
        replace Gp := Lib.hid ((hb.block _ (lt_of_heap Gp.out)).trans Gp.out)
        replace Rs := Lib.hid (Rs.out.below hb)
        clear hb
        replace Ga := Lib.hid (keepAl (o' := .cells (wcells v) 31) Ga.out)
        replace Gb := Lib.hid (keepAl (o' := .cells (wcells v) 31) Gb.out)
        replace Gp := Lib.hid (keepAl (o' := .cells (wcells v) 31) Gp.out)
        have Gl := Lib.hid (alloc_new (w11) (.cells (wcells v) 31))
        replace HB := Lib.hid (below_al HB.out (.cells (wcells v) 31))
        go_upto_region 7 with fail
        obtain ⟨wM, hw⟩ : ∃ wx, wx = (w11).alloc (.cells (wcells v) 31) := ⟨_, rfl⟩
        rw [← hw] at Ga Gb Gp Gl HB ⊢
        clear hw
        have xGa := ext_row (B := wM.heap.size) Ga.out (lt_of_heap Ga.out)
        have xGb := ext_row (B := wM.heap.size) Gb.out (lt_of_heap Gb.out)
        have xGp := ext_row (B := wM.heap.size) Gp.out (lt_of_heap Gp.out)
        have xGl := ext_row (B := wM.heap.size) Gl.out (lt_of_heap Gl.out)
        apply wp_region_loose (looseR [_, _, _, _, _, _, _, _, _, _, _, _, _, _, _, _, _, _, _, _, _, _, _, _, _, _, _, _, _, _, _, _, _, _, _, _]) (pureL [])
        · kernel_rfl
        · kernel_rfl
        · kernel_rfl
        · exact allocs_ok [] rfl (by intro T hT; cases hT)
        · exact looseR_st _
        · change wpL _ _ _ _ _ _ _ 36 0 _ _
          refine wpL_calm wM rfl rfl rfl rfl (fun K hK K0 hK0 => ?_)
          go_simp
          first | refine hK _ _ rfl rfl ?_ | refine hK0 _ rfl ?_
          clear hK hK0 K K0
          refine wpL_calm wM rfl rfl rfl rfl (fun K hK K0 hK0 => ?_)
          go_simp
          first | refine hK _ _ rfl rfl ?_ | refine hK0 _ rfl ?_
          clear hK hK0 K K0
          refine wpL_calm wM rfl rfl rfl rfl (fun K hK K0 hK0 => ?_)
          go_simp
          first | refine hK _ _ rfl rfl ?_ | refine hK0 _ rfl ?_
          clear hK hK0 K K0
          refine wpL_call (Lft.val (wv p)) (val_some wM _) rfl rfl rfl rfl (by first | rfl | go_simp) rfl (fun w' hC hF => ?_) (fun v3 hv3 => ?_)
          · obtain ⟨x, rfl⟩ := hC
            go_simp
            go_at_call 59
            exact val_loose (F1.out _)
          obtain ⟨_, rfl⟩ := hv3
          refine wpL_calm wM rfl rfl rfl rfl (fun K hK K0 hK0 => ?_)
          go_simp
          first | refine hK _ _ rfl rfl ?_ | refine hK0 _ rfl ?_
          clear hK hK0 K K0
          refine wpL_calm wM rfl rfl rfl rfl (fun K hK K0 hK0 => ?_)
          go_simp
          first | refine hK _ _ rfl rfl ?_ | refine hK0 _ rfl ?_
          clear hK hK0 K K0
          refine wpL_calm wM rfl rfl rfl rfl (fun K hK K0 hK0 => ?_)
          go_simp
          first | refine hK _ _ rfl rfl ?_ | refine hK0 _ rfl ?_
          clear hK hK0 K K0
          refine wpL_calm wM rfl rfl rfl rfl (fun K hK K0 hK0 => ?_)
          go_simp
          first | refine hK _ _ rfl rfl ?_ | refine hK0 _ rfl ?_
          clear hK hK0 K K0
          refine wpL_calm wM rfl rfl rfl rfl (fun K hK K0 hK0 => ?_)
          go_simp
          first | refine hK _ _ rfl rfl ?_ | refine hK0 _ rfl ?_
          clear hK hK0 K K0
          refine wpL_call (Lft.val (wv v)) (val_some wM _) rfl rfl rfl rfl (by first | rfl | go_simp) rfl (fun w' hC hF => ?_) (fun v9 hv9 => ?_)
          · obtain ⟨x, rfl⟩ := hC
            go_simp
            go_at_call 60
            exact val_loose (F2.out _)
          obtain ⟨_, rfl⟩ := hv9
          refine wpL_calm wM rfl rfl rfl rfl (fun K hK K0 hK0 => ?_)
          go_simp
          first | refine hK _ _ rfl rfl ?_ | refine hK0 _ rfl ?_
          clear hK hK0 K K0
          refine wpL_calm wM rfl rfl rfl rfl (fun K hK K0 hK0 => ?_)
          go_simp
          first | refine hK _ _ rfl rfl ?_ | refine hK0 _ rfl ?_
          clear hK hK0 K K0
          refine wpL_calm wM rfl rfl rfl rfl (fun K hK K0 hK0 => ?_)
          go_simp
          first | refine hK _ _ rfl rfl ?_ | refine hK0 _ rfl ?_
          clear hK hK0 K K0
          refine wpL_calm wM rfl rfl rfl rfl (fun K hK K0 hK0 => ?_)
          go_simp
          first | refine hK _ _ rfl rfl ?_ | refine hK0 _ rfl ?_
          clear hK hK0 K K0
          refine wpL_calm wM rfl rfl rfl rfl (fun K hK K0 hK0 => ?_)
          go_simp
          first | refine hK _ _ rfl rfl ?_ | refine hK0 _ rfl ?_
          clear hK hK0 K K0
          refine wpL_calm wM rfl rfl rfl rfl (fun K hK K0 hK0 => ?_)
          go_simp
          first | refine hK _ _ rfl rfl ?_ | refine hK0 _ rfl ?_
          clear hK hK0 K K0
          refine wpL_calm wM rfl rfl rfl rfl (fun K hK K0 hK0 => ?_)
          go_simp
          first | refine hK _ _ rfl rfl ?_ | refine hK0 _ rfl ?_
          clear hK hK0 K K0
          refine wpL_call (Lft.val (.bool nb)) (val_some wM _) rfl rfl rfl rfl (by first | rfl | go_simp) rfl (fun w' hC hF => ?_) (fun v17 hv17 => ?_)
          · obtain ⟨x, rfl⟩ := hC
            go_simp
            go_at_call 61
            exact val_loose (F3.out _)
          obtain ⟨_, rfl⟩ := hv17
          refine wpL_calm wM rfl rfl rfl rfl (fun K hK K0 hK0 => ?_)
          go_simp
          first | refine hK _ _ rfl rfl ?_ | refine hK0 _ rfl ?_
          clear hK hK0 K K0
          refine wpL_call (Lft.big a) (big_some w _) rfl rfl rfl rfl (by first | rfl | go_simp) rfl (fun w' hC hF => ?_) (fun v19 hv19 => ?_)
          · obtain ⟨x, rfl⟩ := hC
            go_simp
            go_at_call 33
            exact gives_loose (S1.out _)
          refine wpL_calm wM rfl rfl rfl rfl (fun K hK K0 hK0 => ?_)
          go_simp
          first | refine hK _ _ rfl rfl ?_ | refine hK0 _ rfl ?_
          clear hK hK0 K K0
          refine wpL_call (Lft.big b) (big_some w _) rfl rfl rfl rfl (by first | rfl | go_simp) rfl (fun w' hC hF => ?_) (fun v21 hv21 => ?_)
          · obtain ⟨x, rfl⟩ := hC
            go_simp
            go_at_call 33
            exact gives_loose (S2.out _)
          refine wpL_call (Lft.big D) (big_some w _) rfl rfl rfl rfl (by first | rfl | go_simp) rfl (fun w' hC hF => ?_) (fun v22 hv22 => ?_)
          · obtain ⟨x, rfl⟩ := hC
            go_simp
            go_at_call 50
            exact gives_loose (S10.out _ _ _ (hF 19 _ 66 rfl rfl rfl rfl (by decide)) (hF 21 _ 68 rfl rfl rfl rfl (by decide)))
          refine wpL_calm wM rfl rfl rfl rfl (fun K hK K0 hK0 => ?_)
          go_simp
          first | refine hK _ _ rfl rfl ?_ | refine hK0 _ rfl ?_
          clear hK hK0 K K0
          refine wpL_call (Lft.val (.bool nb)) (val_some wM _) rfl rfl rfl rfl (by first | rfl | go_simp) rfl (fun w' hC hF => ?_) (fun v24 hv24 => ?_)
          · obtain ⟨x, rfl⟩ := hC
            go_simp
            go_at_call 51
            exact val_loose (S11.out _ _ (hF 22 _ 69 rfl rfl rfl rfl (by decide)))
          obtain ⟨_, rfl⟩ := hv24
          refine wpL_calm wM rfl rfl rfl rfl (fun K hK K0 hK0 => ?_)
          go_simp
          first | refine hK _ _ rfl rfl ?_ | refine hK0 _ rfl ?_
          clear hK hK0 K K0
          refine wpL_calm wM rfl rfl rfl rfl (fun K hK K0 hK0 => ?_)
          go_simp
          first | refine hK _ _ rfl rfl ?_ | refine hK0 _ rfl ?_
          clear hK hK0 K K0
          refine wpL_calm wM rfl rfl rfl rfl (fun K hK K0 hK0 => ?_)
          go_simp
          first | refine hK _ _ rfl rfl ?_ | refine hK0 _ rfl ?_
          clear hK hK0 K K0
          refine wpL_calm wM rfl rfl rfl rfl (fun K hK K0 hK0 => ?_)
          go_simp
          first | refine hK _ _ rfl rfl ?_ | refine hK0 _ rfl ?_
          clear hK hK0 K K0
          refine wpL_calm wM rfl rfl rfl rfl (fun K hK K0 hK0 => ?_)
          go_simp
          first | refine hK _ _ rfl rfl ?_ | refine hK0 _ rfl ?_
          clear hK hK0 K K0
          refine wpL_call (Lft.val (.bool true)) (val_some wM _) rfl rfl rfl rfl (by first | rfl | go_simp) rfl (fun w' hC hF => ?_) (fun v30 hv30 => ?_)
          · obtain ⟨x, rfl⟩ := hC
            go_simp
            go_at_call 61
            exact val_loose (F4.out _)
          obtain ⟨_, rfl⟩ := hv30
          refine wpL_calm wM rfl rfl rfl rfl (fun K hK K0 hK0 => ?_)
          go_simp
          first | refine hK _ _ rfl rfl ?_ | refine hK0 _ rfl ?_
          clear hK hK0 K K0
          refine wpL_calm wM rfl rfl rfl rfl (fun K hK K0 hK0 => ?_)
          go_simp
          first | refine hK _ _ rfl rfl ?_ | refine hK0 _ rfl ?_
          clear hK hK0 K K0
          refine wpL_call (Lft.val (.bool true)) (val_some wM _) rfl rfl rfl rfl (by first | rfl | go_simp) rfl (fun w' hC hF => ?_) (fun v33 hv33 => ?_)
          · obtain ⟨x, rfl⟩ := hC
            go_simp
            go_at_call 49
            exact val_loose (SA.out _)
          obtain ⟨_, rfl⟩ := hv33
          refine wpL_calm wM rfl rfl rfl rfl (fun K hK K0 hK0 => ?_)
          go_simp
          first | refine hK _ _ rfl rfl ?_ | refine hK0 _ rfl ?_
          clear hK hK0 K K0
          refine wpL_calm wM rfl rfl rfl rfl (fun K hK K0 hK0 => ?_)
          go_simp
          first | refine hK _ _ rfl rfl ?_ | refine hK0 _ rfl ?_
          clear hK hK0 K K0
          refine wpL_nil (endL [] rfl (by intro q hq; cases hq) (fun w12 hb hst hap hfin => ?_))
          replace HB := Lib.hid (below_then HB.out hb)
          replace Ga := Lib.hid ((hb.block _ (lt_of_heap Ga.out)).trans Ga.out)
          replace Gb := Lib.hid ((hb.block _ (lt_of_heap Gb.out)).trans Gb.out)
          replace Gp := Lib.hid ((hb.block _ (lt_of_heap Gp.out)).trans Gp.out)
          replace Gl := Lib.hid ((hb.block _ (lt_of_heap Gl.out)).trans Gl.out)
          clear hb hst hap hfin xGa xGb xGp xGl
          go_wp2
          go_ret
          exact ⟨rfl, HB.out⟩
  · obtain ⟨k, hk⟩ : ∃ k : Nat, k = (n + 1).toNat := ⟨_, rfl⟩
    have hke : n + 1 = (k : Int) := by omega
    have hX : twoW n = M + P2 k := by unfold twoW; rw [if_neg hr, hk]
    rw [hX] at S8
    have hr1 : -1 ≤ n := by omega
    have hr2 : n ≤ 510 := by omega
    have hw : IntKind.i64.wrap (n + 1) = (k : Int) := by rw [IntWalk.i64_in _ (by omega)]; exact hke
    have hPk : P2 k < M := by rw [M_eq]; exact P2_lt (by omega)
    have S12 := Lib.hid (fun w' => power_any k (by omega) w')
    have S13 := Lib.hid (fun v v2 w' h h' => add_any v v2 M (P2 k) w' (by omega) (by omega) h h')
    obtain ⟨X, hXe⟩ : ∃ X, X = M + P2 k := ⟨_, rfl⟩
    rw [← hXe] at S13 S8
    obtain ⟨pk, hpk⟩ : ∃ X, X = P2 k := ⟨_, rfl⟩
    rw [← hpk] at S12 S13
    clear ha hb hn1 hcl hP hPB hQB h2M hTW hp hfp hQ hPe hc hD hnb hv hfv hE hX hr hk hke hPk hXe hpk
    go_enter Try.func11, Try.ntmps11
    have HB := Lib.hid (Below.refl w.heap.size w)
    have Ga := Lib.hid (alloc_new (w) (.cells (wcells a) 31))
    replace HB := Lib.hid (below_al HB.out (.cells (wcells a) 31))
    replace Ga := Lib.hid (keepAl (o' := .cells (wcells b) 31) Ga.out)
    have Gb := Lib.hid (alloc_new' (w := (w).alloc (.cells (wcells a) 31)) (n := w.heap.size + 1) (.cells (wcells b) 31) (by simp))
    replace HB := Lib.hid (below_al HB.out (.cells (wcells b) 31))
    go_upto_region 2 with fail
    obtain ⟨wL, hw⟩ : ∃ wx, wx = ((w).alloc (.cells (wcells a) 31)).alloc (.cells (wcells b) 31) := ⟨_, rfl⟩
    rw [← hw] at Ga Gb HB ⊢
    clear hw
    have xGa := ext_row (B := wL.heap.size) Ga.out (lt_of_heap Ga.out)
    have xGb := ext_row (B := wL.heap.size) Gb.out (lt_of_heap Gb.out)
    apply wp_region_loose (looseR [_, _, _, _, _, _, _, _, _, _, _, Lft.val undef, Lft.val undef, _]) (pureL [8, 9, 10, 13])
    · kernel_rfl
    · kernel_rfl
    · kernel_rfl
    · exact allocs_ok [31] rfl (by intro T hT; simp only [List.mem_cons, List.not_mem_nil, or_false] at hT; subst hT; exact makes_wide)
    · exact looseR_st _
    · change wpL _ _ _ _ _ _ _ 14 0 _ _
      refine wpL_calm wL rfl rfl rfl rfl (fun K hK K0 hK0 => ?_)
      go_simp
      first | refine hK _ _ rfl rfl ?_ | refine hK0 _ rfl ?_
      clear hK hK0 K K0
      refine wpL_call (Lft.big a) (big_some w _) rfl rfl rfl rfl (by first | rfl | go_simp) rfl (fun w' hC hF => ?_) (fun v1 hv1 => ?_)
      · obtain ⟨x, rfl⟩ := hC
        go_simp
        go_at_call 33
        exact gives_loose (S1.out _)
      refine wpL_calm wL rfl rfl rfl rfl (fun K hK K0 hK0 => ?_)
      go_simp
      first | refine hK _ _ rfl rfl ?_ | refine hK0 _ rfl ?_
      clear hK hK0 K K0
      refine wpL_call (Lft.big b) (big_some w _) rfl rfl rfl rfl (by first | rfl | go_simp) rfl (fun w' hC hF => ?_) (fun v3 hv3 => ?_)
      · obtain ⟨x, rfl⟩ := hC
        go_simp
        go_at_call 33
        exact gives_loose (S2.out _)
      refine wpL_call (Lft.big P) (big_some w _) rfl rfl rfl rfl (by first | rfl | go_simp) rfl (fun w' hC hF => ?_) (fun v4 hv4 => ?_)
      · obtain ⟨x, rfl⟩ := hC
        go_simp
        go_at_call 43
        exact gives_loose (S3.out _ _ _ (hF 1 _ 18 rfl rfl rfl rfl (by decide)) (hF 3 _ 20 rfl rfl rfl rfl (by decide)))
      refine wpL_calm wL rfl rfl rfl rfl (fun K hK K0 hK0 => ?_)
      go_simp
      first | refine hK _ _ rfl rfl ?_ | refine hK0 _ rfl ?_
      clear hK hK0 K K0
      refine wpL_call (Lft.big Q) (big_some w _) rfl rfl rfl rfl (by first | rfl | go_simp) rfl (fun w' hC hF => ?_) (fun v6 hv6 => ?_)
      · obtain ⟨x, rfl⟩ := hC
        go_simp
        go_at_call 56
        exact gives_loose (S4.out _ _ (hF 4 _ 21 rfl rfl rfl rfl (by decide)))
      refine wpL_call (Lft.val (.tuple #[wv p, .bool fp])) (val_some wL _) rfl rfl rfl rfl (by first | rfl | go_simp) rfl (fun w' hC hF => ?_) (fun v7 hv7 => ?_)
      · obtain ⟨x, rfl⟩ := hC
        go_simp
        go_at_call 55
        exact val_loose (S5.out _ _ (hF 6 _ 23 rfl rfl rfl rfl (by decide)))
      obtain ⟨_, rfl⟩ := hv7
      refine wpL_pure wL rfl rfl rfl rfl (fun K hK K0 hK0 => ?_)
      go_simp
      first | refine hK _ _ rfl rfl ?_ | refine hK0 _ rfl ?_
      clear hK hK0 K K0
      refine wpL_pure wL rfl rfl rfl rfl (fun K hK K0 hK0 => ?_)
      go_simp
      first | refine hK _ _ rfl rfl ?_ | refine hK0 _ rfl ?_
      clear hK hK0 K K0
      refine wpL_pure wL rfl rfl rfl rfl (fun K hK K0 hK0 => ?_)
      go_simp
      first | refine hK _ _ rfl rfl ?_ | refine hK0 _ rfl ?_
      clear hK hK0 K K0
      refine wpL_alloc rfl rfl rfl rfl (fun g11 hg11 => ?_)
      refine wpL_store rfl rfl ?_
      refine wpL_pure wL rfl rfl rfl rfl (fun K hK K0 hK0 => ?_)
      go_simp
      first | refine hK _ _ rfl rfl ?_ | refine hK0 _ rfl ?_
      clear hK hK0 K K0
      refine wpL_nil (endL [(31, .tmp 8, .tmp 25)] rfl (by intro q hq; simp only [List.mem_cons, List.not_mem_nil, or_false] at hq; subst hq; exact fits_wv (by kernel_rfl) _) (fun w13 hb hst hap hfin => ?_))
      have Gp : Hid (w13.heap[g11]? = some (.cells (wcells (p)) 31 (0, 0))) := Lib.hid (hst 12 _ _ _ _ g11 rfl rfl rfl)
      replace HB := Lib.hid (below_then HB.out hb)
      replace Ga := Lib.hid ((hb.block _ (lt_of_heap Ga.out)).trans Ga.out)
      replace Gb := Lib.hid ((hb.block _ (lt_of_heap Gb.out)).trans Gb.out)
      clear hb hst hap hfin xGa xGb
      have cGa := cell_row Ga.out
      have cGb := cell_row Gb.out
      have cGp := cell_row Gp.out
      go_wp2_with fail
      refine (S6.out _).mono ?_
      rintro e w14 ⟨rt, rfl, hr, hb⟩
      clear cGa cGb cGp
      replace HB := Lib.hid (below_then HB.out hb)
      replace Ga := Lib.hid ((hb.block _ (lt_of_heap Ga.out)).trans Ga.out)
      replace Gb := Lib.hid ((hb.block _ (lt_of_heap Gb.out)).trans Gb.out)
      replace Gp := Lib.hid ((hb.block _ (lt_of_heap Gp.out)).trans Gp.out)
      have Rt := Lib.hid hr
      clear hr hb
      have cGa := cell_row Ga.out
      have cGb := cell_row Gb.out
      have cGp := cell_row Gp.out
      go_wp2_with fail
      refine (S12.out _).mono ?_
      rintro e w15 ⟨rq, rfl, hr, hb⟩
      clear cGa cGb cGp
      replace HB := Lib.hid (below_then HB.out hb)
      replace Ga := Lib.hid ((hb.block _ (lt_of_heap Ga.out)).trans Ga.out)
      replace Gb := Lib.hid ((hb.block _ (lt_of_heap Gb.out)).trans Gb.out)
      replace Gp := Lib.hid ((hb.block _ (lt_of_heap Gp.out)).trans Gp.out)
      replace Rt := Lib.hid (Rt.out.below hb)
      have Rq := Lib.hid hr
      clear hr hb
      have cGa := cell_row Ga.out
      have cGb := cell_row Gb.out
      have cGp := cell_row Gp.out
      go_wp2_with fail
      refine (S13.out _ _ _ Rt.out Rq.out).mono ?_
      rintro e w16 ⟨ry, rfl, hr, hb⟩
      clear cGa cGb cGp
      replace HB := Lib.hid (below_then HB.out hb)
      replace Ga := Lib.hid ((hb.block _ (lt_of_heap Ga.out)).trans Ga.out)
      replace Gb := Lib.hid ((hb.block _ (lt_of_heap Gb.out)).trans Gb.out)
      replace Gp := Lib.hid ((hb.block _ (lt_of_heap Gp.out)).trans Gp.out)
      replace Rt := Lib.hid (Rt.out.below hb)
      replace Rq := Lib.hid (Rq.out.below hb)
      have Ry := Lib.hid hr
      clear hr hb
      have cGa := cell_row Ga.out
      have cGb := cell_row Gb.out
      have cGp := cell_row Gp.out
      go_wp2_with fail
      refine (S1.out _).mono ?_
      rintro e w17 ⟨ra, rfl, hr, hb⟩
      clear cGa cGb cGp
      replace HB := Lib.hid (below_then HB.out hb)
      replace Ga := Lib.hid ((hb.block _ (lt_of_heap Ga.out)).trans Ga.out)
      replace Gb := Lib.hid ((hb.block _ (lt_of_heap Gb.out)).trans Gb.out)
      replace Gp := Lib.hid ((hb.block _ (lt_of_heap Gp.out)).trans Gp.out)
      replace Ry := Lib.hid (Ry.out.below hb)
      have Ra := Lib.hid hr
      clear hr hb
      have cGa := cell_row Ga.out
      have cGb := cell_row Gb.out
      have cGp := cell_row Gp.out
      go_wp2_with fail
      refine (S8.out _ _ _ Ry.out Ra.out).mono ?_
      rintro e w18 ⟨rs, rfl, hr, hb⟩
      clear cGa cGb cGp
      replace HB := Lib.hid (below_then HB.out hb)
      replace Ga := Lib.hid ((hb.block _ (lt_of_heap Ga.out)).trans Ga.out)
      replace Gb := Lib.hid ((hb.block _ (lt_of_heap Gb.out)).trans Gb.out)
      replace Gp := Lib.hid ((hb.block _ (lt_of_heap Gp.out)).trans Gp.out)
      replace Ry := Lib.hid (Ry.out.below hb)
      replace Ra := Lib.hid (Ra.out.below hb)
      have Rs := Lib.hid hr
      clear hr hb
      have cGa := cell_row Ga.out
      have cGb := cell_row Gb.out
      have cGp := cell_row Gp.out
      go_wp2_with fail
      refine (S9.out _ _ Rs.out).mono ?_
      rintro e w19 ⟨rfl, hb⟩
      clear cGa cGb cGp
      replace HB := Lib.hid (below_then HB.out hb)
      replace Ga := Lib.hid ((hb.block _ (lt_of_heap Ga.out)).trans Ga.out)
      replace Gb := Lib.hid ((hb.block _ (lt_of_heap Gb.out)).trans Gb.out)
      replace Gp := Lib.hid ((hb.block _ (lt_of_heap Gp.out)).trans Gp.out)
      replace Rs := Lib.hid (Rs.out.below hb)
      clear hb
      replace Ga := Lib.hid (keepAl (o' := .cells (wcells v) 31) Ga.out)
      replace Gb := Lib.hid (keepAl (o' := .cells (wcells v) 31) Gb.out)
      replace Gp := Lib.hid (keepAl (o' := .cells (wcells v) 31) Gp.out)
      have Gl := Lib.hid (alloc_new (w19) (.cells (wcells v) 31))
      replace HB := Lib.hid (below_al HB.out (.cells (wcells v) 31))
      go_upto_region 7 with fail
      obtain ⟨wM, hw⟩ : ∃ wx, wx = (w19).alloc (.cells (wcells v) 31) := ⟨_, rfl⟩
      rw [← hw] at Ga Gb Gp Gl HB ⊢
      clear hw
      have xGa := ext_row (B := wM.heap.size) Ga.out (lt_of_heap Ga.out)
      have xGb := ext_row (B := wM.heap.size) Gb.out (lt_of_heap Gb.out)
      have xGp := ext_row (B := wM.heap.size) Gp.out (lt_of_heap Gp.out)
      have xGl := ext_row (B := wM.heap.size) Gl.out (lt_of_heap Gl.out)
      apply wp_region_loose (looseR [_, _, _, _, _, _, _, _, _, _, _, _, _, _, _, _, _, _, _, _, _, _, _, _, _, _, _, _, _, _, _, _, _, _, _, _]) (pureL [])
      · kernel_rfl
      · kernel_rfl
      · kernel_rfl
      · exact allocs_ok [] rfl (by intro T hT; cases hT)
      · exact looseR_st _
      · change wpL _ _ _ _ _ _ _ 36 0 _ _
        refine wpL_calm wM rfl rfl rfl rfl (fun K hK K0 hK0 => ?_)
        go_simp
        first | refine hK _ _ rfl rfl ?_ | refine hK0 _ rfl ?_
        clear hK hK0 K K0
        refine wpL_calm wM rfl rfl rfl rfl (fun K hK K0 hK0 => ?_)
        go_simp
        first | refine hK _ _ rfl rfl ?_ | refine hK0 _ rfl ?_
        clear hK hK0 K K0
        refine wpL_calm wM rfl rfl rfl rfl (fun K hK K0 hK0 => ?_)
        go_simp
        first | refine hK _ _ rfl rfl ?_ | refine hK0 _ rfl ?_
        clear hK hK0 K K0
        refine wpL_call (Lft.val (wv p)) (val_some wM _) rfl rfl rfl rfl (by first | rfl | go_simp) rfl (fun w' hC hF => ?_) (fun v3 hv3 => ?_)
        · obtain ⟨x, rfl⟩ := hC
          go_simp
          go_at_call 59
          exact val_loose (F1.out _)
        obtain ⟨_, rfl⟩ := hv3
        refine wpL_calm wM rfl rfl rfl rfl (fun K hK K0 hK0 => ?_)
        go_simp
        first | refine hK _ _ rfl rfl ?_ | refine hK0 _ rfl ?_
        clear hK hK0 K K0
        refine wpL_calm wM rfl rfl rfl rfl (fun K hK K0 hK0 => ?_)
        go_simp
        first | refine hK _ _ rfl rfl ?_ | refine hK0 _ rfl ?_
        clear hK hK0 K K0
        refine wpL_calm wM rfl rfl rfl rfl (fun K hK K0 hK0 => ?_)
        go_simp
        first | refine hK _ _ rfl rfl ?_ | refine hK0 _ rfl ?_
        clear hK hK0 K K0
        refine wpL_calm wM rfl rfl rfl rfl (fun K hK K0 hK0 => ?_)
        go_simp
        first | refine hK _ _ rfl rfl ?_ | refine hK0 _ rfl ?_
        clear hK hK0 K K0
        refine wpL_calm wM rfl rfl rfl rfl (fun K hK K0 hK0 => ?_)
        go_simp
        first | refine hK _ _ rfl rfl ?_ | refine hK0 _ rfl ?_
        clear hK hK0 K K0
        refine wpL_call (Lft.val (wv v)) (val_some wM _) rfl rfl rfl rfl (by first | rfl | go_simp) rfl (fun w' hC hF => ?_) (fun v9 hv9 => ?_)
        · obtain ⟨x, rfl⟩ := hC
          go_simp
          go_at_call 60
          exact val_loose (F2.out _)
        obtain ⟨_, rfl⟩ := hv9
        refine wpL_calm wM rfl rfl rfl rfl (fun K hK K0 hK0 => ?_)
        go_simp
        first | refine hK _ _ rfl rfl ?_ | refine hK0 _ rfl ?_
        clear hK hK0 K K0
        refine wpL_calm wM rfl rfl rfl rfl (fun K hK K0 hK0 => ?_)
        go_simp
        first | refine hK _ _ rfl rfl ?_ | refine hK0 _ rfl ?_
        clear hK hK0 K K0
        refine wpL_calm wM rfl rfl rfl rfl (fun K hK K0 hK0 => ?_)
        go_simp
        first | refine hK _ _ rfl rfl ?_ | refine hK0 _ rfl ?_
        clear hK hK0 K K0
        refine wpL_calm wM rfl rfl rfl rfl (fun K hK K0 hK0 => ?_)
        go_simp
        first | refine hK _ _ rfl rfl ?_ | refine hK0 _ rfl ?_
        clear hK hK0 K K0
        refine wpL_calm wM rfl rfl rfl rfl (fun K hK K0 hK0 => ?_)
        go_simp
        first | refine hK _ _ rfl rfl ?_ | refine hK0 _ rfl ?_
        clear hK hK0 K K0
        refine wpL_calm wM rfl rfl rfl rfl (fun K hK K0 hK0 => ?_)
        go_simp
        first | refine hK _ _ rfl rfl ?_ | refine hK0 _ rfl ?_
        clear hK hK0 K K0
        refine wpL_calm wM rfl rfl rfl rfl (fun K hK K0 hK0 => ?_)
        go_simp
        first | refine hK _ _ rfl rfl ?_ | refine hK0 _ rfl ?_
        clear hK hK0 K K0
        refine wpL_call (Lft.val (.bool nb)) (val_some wM _) rfl rfl rfl rfl (by first | rfl | go_simp) rfl (fun w' hC hF => ?_) (fun v17 hv17 => ?_)
        · obtain ⟨x, rfl⟩ := hC
          go_simp
          go_at_call 61
          exact val_loose (F3.out _)
        obtain ⟨_, rfl⟩ := hv17
        refine wpL_calm wM rfl rfl rfl rfl (fun K hK K0 hK0 => ?_)
        go_simp
        first | refine hK _ _ rfl rfl ?_ | refine hK0 _ rfl ?_
        clear hK hK0 K K0
        refine wpL_call (Lft.big a) (big_some w _) rfl rfl rfl rfl (by first | rfl | go_simp) rfl (fun w' hC hF => ?_) (fun v19 hv19 => ?_)
        · obtain ⟨x, rfl⟩ := hC
          go_simp
          go_at_call 33
          exact gives_loose (S1.out _)
        refine wpL_calm wM rfl rfl rfl rfl (fun K hK K0 hK0 => ?_)
        go_simp
        first | refine hK _ _ rfl rfl ?_ | refine hK0 _ rfl ?_
        clear hK hK0 K K0
        refine wpL_call (Lft.big b) (big_some w _) rfl rfl rfl rfl (by first | rfl | go_simp) rfl (fun w' hC hF => ?_) (fun v21 hv21 => ?_)
        · obtain ⟨x, rfl⟩ := hC
          go_simp
          go_at_call 33
          exact gives_loose (S2.out _)
        refine wpL_call (Lft.big D) (big_some w _) rfl rfl rfl rfl (by first | rfl | go_simp) rfl (fun w' hC hF => ?_) (fun v22 hv22 => ?_)
        · obtain ⟨x, rfl⟩ := hC
          go_simp
          go_at_call 50
          exact gives_loose (S10.out _ _ _ (hF 19 _ 66 rfl rfl rfl rfl (by decide)) (hF 21 _ 68 rfl rfl rfl rfl (by decide)))
        refine wpL_calm wM rfl rfl rfl rfl (fun K hK K0 hK0 => ?_)
        go_simp
        first | refine hK _ _ rfl rfl ?_ | refine hK0 _ rfl ?_
        clear hK hK0 K K0
        refine wpL_call (Lft.val (.bool nb)) (val_some wM _) rfl rfl rfl rfl (by first | rfl | go_simp) rfl (fun w' hC hF => ?_) (fun v24 hv24 => ?_)
        · obtain ⟨x, rfl⟩ := hC
          go_simp
          go_at_call 51
          exact val_loose (S11.out _ _ (hF 22 _ 69 rfl rfl rfl rfl (by decide)))
        obtain ⟨_, rfl⟩ := hv24
        refine wpL_calm wM rfl rfl rfl rfl (fun K hK K0 hK0 => ?_)
        go_simp
        first | refine hK _ _ rfl rfl ?_ | refine hK0 _ rfl ?_
        clear hK hK0 K K0
        refine wpL_calm wM rfl rfl rfl rfl (fun K hK K0 hK0 => ?_)
        go_simp
        first | refine hK _ _ rfl rfl ?_ | refine hK0 _ rfl ?_
        clear hK hK0 K K0
        refine wpL_calm wM rfl rfl rfl rfl (fun K hK K0 hK0 => ?_)
        go_simp
        first | refine hK _ _ rfl rfl ?_ | refine hK0 _ rfl ?_
        clear hK hK0 K K0
        refine wpL_calm wM rfl rfl rfl rfl (fun K hK K0 hK0 => ?_)
        go_simp
        first | refine hK _ _ rfl rfl ?_ | refine hK0 _ rfl ?_
        clear hK hK0 K K0
        refine wpL_calm wM rfl rfl rfl rfl (fun K hK K0 hK0 => ?_)
        go_simp
        first | refine hK _ _ rfl rfl ?_ | refine hK0 _ rfl ?_
        clear hK hK0 K K0
        refine wpL_call (Lft.val (.bool true)) (val_some wM _) rfl rfl rfl rfl (by first | rfl | go_simp) rfl (fun w' hC hF => ?_) (fun v30 hv30 => ?_)
        · obtain ⟨x, rfl⟩ := hC
          go_simp
          go_at_call 61
          exact val_loose (F4.out _)
        obtain ⟨_, rfl⟩ := hv30
        refine wpL_calm wM rfl rfl rfl rfl (fun K hK K0 hK0 => ?_)
        go_simp
        first | refine hK _ _ rfl rfl ?_ | refine hK0 _ rfl ?_
        clear hK hK0 K K0
        refine wpL_calm wM rfl rfl rfl rfl (fun K hK K0 hK0 => ?_)
        go_simp
        first | refine hK _ _ rfl rfl ?_ | refine hK0 _ rfl ?_
        clear hK hK0 K K0
        refine wpL_call (Lft.val (.bool true)) (val_some wM _) rfl rfl rfl rfl (by first | rfl | go_simp) rfl (fun w' hC hF => ?_) (fun v33 hv33 => ?_)
        · obtain ⟨x, rfl⟩ := hC
          go_simp
          go_at_call 49
          exact val_loose (SA.out _)
        obtain ⟨_, rfl⟩ := hv33
        refine wpL_calm wM rfl rfl rfl rfl (fun K hK K0 hK0 => ?_)
        go_simp
        first | refine hK _ _ rfl rfl ?_ | refine hK0 _ rfl ?_
        clear hK hK0 K K0
        refine wpL_calm wM rfl rfl rfl rfl (fun K hK K0 hK0 => ?_)
        go_simp
        first | refine hK _ _ rfl rfl ?_ | refine hK0 _ rfl ?_
        clear hK hK0 K K0
        refine wpL_nil (endL [] rfl (by intro q hq; cases hq) (fun w20 hb hst hap hfin => ?_))
        replace HB := Lib.hid (below_then HB.out hb)
        replace Ga := Lib.hid ((hb.block _ (lt_of_heap Ga.out)).trans Ga.out)
        replace Gb := Lib.hid ((hb.block _ (lt_of_heap Gb.out)).trans Gb.out)
        replace Gp := Lib.hid ((hb.block _ (lt_of_heap Gp.out)).trans Gp.out)
        replace Gl := Lib.hid ((hb.block _ (lt_of_heap Gl.out)).trans Gl.out)
        clear hb hst hap hfin xGa xGb xGp xGl
        go_wp2
        go_ret
        exact ⟨rfl, HB.out⟩
end Go.Proofs.Ytkkjbkadaofjpaa
