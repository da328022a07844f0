/- THE WALKS of package mode: what is cut off. -/
import Derived.Test.YtffengboblekpaaDoorModeN
import Derived.Test.YtffengboblekpaaDoorProd4
namespace Go.Proofs.YtffengboblekpaaDoor
open Go Go.RowKit

theorem mode_is (m : Int) (w : World) : Calls Tryd.prog 19 #[.int .i64 m] w fun e w' => e = .returned (.bool (isMode m)) ∧ Below w.heap.size w w' := by
  by_cases h : 1 ≤ m
  · by_cases h2 : m < 6
    · have HV := Lib.hid (show isMode m = true from decide_eq_true ⟨h, by omega⟩)
      go_enter Tryd.func19, Tryd.ntmps19
      go_wp2
      go_ret
      exact ⟨ret_bool HV.out.symm, Below.refl _ _⟩
    · have HV := Lib.hid (show isMode m = false from decide_eq_false (by omega))
      go_enter Tryd.func19, Tryd.ntmps19
      go_wp2
      go_ret
      exact ⟨ret_bool HV.out.symm, Below.refl _ _⟩
  · have HV := Lib.hid (show isMode m = false from decide_eq_false (by omega))
    go_enter Tryd.func19, Tryd.ntmps19
    go_wp2
    go_ret
    exact ⟨ret_bool HV.out.symm, Below.refl _ _⟩
theorem rmode_is (m : Int) (w : World) : Calls Tryd.prog 17 #[.int .i64 m] w fun e w' => e = .returned (.bool (isMode m)) ∧ Below w.heap.size w w' := by
  by_cases h : 1 ≤ m
  · by_cases h2 : m ≤ 5
    · have HV := Lib.hid (show isMode m = true from decide_eq_true ⟨h, by omega⟩)
      go_enter Tryd.func17, Tryd.ntmps17
      go_wp2
      go_ret
      exact ⟨ret_bool HV.out.symm, Below.refl _ _⟩
    · have HV := Lib.hid (show isMode m = false from decide_eq_false (by omega))
      go_enter Tryd.func17, Tryd.ntmps17
      go_wp2
      go_ret
      exact ⟨ret_bool HV.out.symm, Below.refl _ _⟩
  · have HV := Lib.hid (show isMode m = false from decide_eq_false (by omega))
    go_enter Tryd.func17, Tryd.ntmps17
    go_wp2
    go_ret
    exact ⟨ret_bool HV.out.symm, Below.refl _ _⟩

attribute [local go_sem ↓] Go.wp_at_zero Go.wp_at_succ
set_option maxRecDepth 100000 in
set_option maxHeartbeats 4000000 in
theorem rest_w (a : Nat) (n : Int) (more : Bool) (w : World) (ha : a < M) (h1 : -9223372036854775808 ≤ n) (h2 : n ≤ 9223372036854775807) :
    Calls Tryd.prog 80 #[wv a, .int .i64 n, .bool more] w fun e w' => e = .returned (.int .i64 (restN a n more)) ∧ Below w.heap.size w w' := by
  by_cases h0 : n ≤ 0
  · have HV := Lib.hid (restN_neg a h0 more)
    cases more
    all_goals
      go_enter Tryd.func80, Tryd.ntmps80
      have HB := Lib.hid (Below.refl w.heap.size w)
      have Ga := Lib.hid (alloc_new (w) (.cells (wcells a) 24))
      replace HB := Lib.hid (below_al HB.out (.cells (wcells a) 24))
      go_wp2
      go_ret
      exact ⟨ret_i64 HV.out.symm, HB.out⟩
  · by_cases h5 : 512 < n
    · have HV := Lib.hid (restN_hi ha h5 more)
      have h512 : ¬ n < 512 := by omega
      cases more
      · by_cases hz : a = 0
        · have hzz := isZ_yes hz
          rw [decide_eq_true hz] at HV
          clear hz ha
          go_enter Tryd.func80, Tryd.ntmps80
          have HB := Lib.hid (Below.refl w.heap.size w)
          have Ga := Lib.hid (alloc_new (w) (.cells (wcells a) 24))
          replace HB := Lib.hid (below_al HB.out (.cells (wcells a) 24))
          replace Ga := Lib.hid (keepAl (o' := .cells (wcells a) 24) Ga.out)
          have Gl := Lib.hid (alloc_new' (w := (w).alloc (.cells (wcells a) 24)) (n := w.heap.size + 1) (.cells (wcells a) 24) (by simp))
          replace HB := Lib.hid (below_al HB.out (.cells (wcells a) 24))
          have cGa := cell_row Ga.out
          have cGl := cell_row Gl.out
          go_wp2
          go_ret
          exact ⟨ret_i64 HV.out.symm, HB.out⟩
        · have hzz := isZ_no ha hz
          rw [decide_eq_false hz] at HV
          clear hz ha
          go_enter Tryd.func80, Tryd.ntmps80
          have HB := Lib.hid (Below.refl w.heap.size w)
          have Ga := Lib.hid (alloc_new (w) (.cells (wcells a) 24))
          replace HB := Lib.hid (below_al HB.out (.cells (wcells a) 24))
          replace Ga := Lib.hid (keepAl (o' := .cells (wcells a) 24) Ga.out)
          have Gl := Lib.hid (alloc_new' (w := (w).alloc (.cells (wcells a) 24)) (n := w.heap.size + 1) (.cells (wcells a) 24) (by simp))
          replace HB := Lib.hid (below_al HB.out (.cells (wcells a) 24))
          have cGa := cell_row Ga.out
          have cGl := cell_row Gl.out
          go_wp2
          go_ret
          exact ⟨ret_i64 HV.out.symm, HB.out⟩
      · skip
        go_enter Tryd.func80, Tryd.ntmps80
        have HB := Lib.hid (Below.refl w.heap.size w)
        have Ga := Lib.hid (alloc_new (w) (.cells (wcells a) 24))
        replace HB := Lib.hid (below_al HB.out (.cells (wcells a) 24))
        replace Ga := Lib.hid (keepAl (o' := .cells (wcells a) 24) Ga.out)
        have Gl := Lib.hid (alloc_new' (w := (w).alloc (.cells (wcells a) 24)) (n := w.heap.size + 1) (.cells (wcells a) 24) (by simp))
        replace HB := Lib.hid (below_al HB.out (.cells (wcells a) 24))
        have cGa := cell_row Ga.out
        have cGl := cell_row Gl.out
        go_wp2
        go_ret
        exact ⟨ret_i64 HV.out.symm, HB.out⟩
    · obtain ⟨k, rfl⟩ := Int.eq_ofNat_of_zero_le (show 0 ≤ n by omega)
      have HV := Lib.hid (restN_mid a k (by omega) (by omega) more)
      have hlM : a % P2 k < M := Nat.lt_of_le_of_lt (Nat.mod_le _ _) ha
      have hpM : P2 (k - 1) < M := by rw [M_eq]; exact P2_lt (by omega)
      have SP : Hid (∀ w' : World, Calls Tryd.prog 98 #[.int .i64 ((k : Int) - 1)] w' fun e w'' => e = .returned (wv (P2 (k - 1))) ∧ Below w'.heap.size w' w'') := Lib.hid fun w' => by
        have := power_w ((k - 1 : Nat) : Int) w' (by omega) (by omega)
        rw [powerN_at (k - 1) (by omega), show ((k - 1 : Nat) : Int) = (k : Int) - 1 by omega] at this
        exact this
      have SC := Lib.hid (fun w' => cmp_w (a % P2 k) (P2 (k - 1)) hlM hpM w')
      have HLZ := Lib.hid (fun h => isZ_yes (a := a % P2 k) h)
      have HLN := Lib.hid (fun h => isZ_no hlM h)
      have HC0 := Lib.hid (fun h => cmpN_lt (a := a % P2 k) (b := P2 (k - 1)) h)
      have HC1 := Lib.hid (fun h => cmpN_eq (a := a % P2 k) (b := P2 (k - 1)) h)
      have HC2 := Lib.hid (fun h => cmpN_gt (a := a % P2 k) (b := P2 (k - 1)) h)
      -- what is cut off, as the code reckons it
      have HL : Hid (k < 512 → ∀ w' : World, (Calls Tryd.prog 39 #[wv a, .int .i64 k] w' fun e w'' => e = .returned (.tuple #[wv (a / P2 k), .bool (decide (a % P2 k ≠ 0))]) ∧ Below w'.heap.size w' w'') ∧ (Calls Tryd.prog 40 #[wv (a / P2 k), .int .i64 k] w' fun e w'' => e = .returned (wv (a / P2 k * P2 k)) ∧ Below w'.heap.size w' w'') ∧ (Calls Tryd.prog 37 #[wv a, wv (a / P2 k * P2 k)] w' fun e w'' => e = .returned (.tuple #[wv (a % P2 k), .bool false]) ∧ Below w'.heap.size w' w'')) := Lib.hid fun hk w' => by
        have hdl : a / P2 k * P2 k ≤ a := Nat.div_mul_le_self _ _
        have hmd := Nat.div_add_mod a (P2 k)
        rw [Nat.mul_comm] at hmd
        refine ⟨?_, ?_, ?_⟩
        · have := shr_any a ha k w' (by omega) (by omega)
          rwa [clampN_at (by omega)] at this
        · have := shl_any (a / P2 k) k w' (by omega) (by omega)
          rwa [clampN_at (by omega), Nat.mod_eq_of_lt (show a / P2 k * P2 k < M by omega)] at this
        · have := sub_w a (a / P2 k * P2 k) ha (by omega) w'
          rwa [show subN a (a / P2 k * P2 k) = a % P2 k by unfold subN; rw [show a + M - a / P2 k * P2 k = a % P2 k + M by omega, Nat.add_mod_right, Nat.mod_eq_of_lt hlM], decide_eq_false (show ¬ a < a / P2 k * P2 k by omega)] at this
      have HE := Lib.hid (fun (h : k = 512) => show a % P2 k = a by rw [h, ← M_eq]; exact Nat.mod_eq_of_lt ha)
      obtain ⟨l, hl⟩ : ∃ l, l = a % P2 k := ⟨_, rfl⟩
      obtain ⟨h, hh⟩ : ∃ h, h = P2 (k - 1) := ⟨_, rfl⟩
      rw [← hl] at HV SC HLZ HLN HC0 HC1 HC2 HL HE
      rw [← hh] at HV SP SC HC0 HC1 HC2
      obtain ⟨C, hC⟩ : ∃ C, C = cmpN l h := ⟨_, rfl⟩
      rw [← hC] at SC HC0 HC1 HC2
      have hk1 : (k : Int) ≤ 512 := by omega
      have hk0 : 0 < (k : Int) := by omega
      have HA := Lib.hid ha
      clear ha hlM hpM hl hh hC h1 h2
      by_cases hk5 : k = 512
      · obtain rfl : a = l := (HE.out hk5).symm
        have e5 : ¬ (k : Int) < 512 := by omega
        clear hk5 HE HL
        rcases Nat.lt_trichotomy a h with hlt | heq | hgt
        · rw [if_neg (by omega), if_neg (by omega)] at HV
          rw [HC0.out hlt] at SC
          cases more
          · by_cases hz : a = 0
            · have hzz := HLZ.out hz
              rw [decide_eq_true hz] at HV
              clear hz hlt
              go_enter Tryd.func80, Tryd.ntmps80
              have HB := Lib.hid (Below.refl w.heap.size w)
              have Ga := Lib.hid (alloc_new (w) (.cells (wcells a) 24))
              replace HB := Lib.hid (below_al HB.out (.cells (wcells a) 24))
              replace Ga := Lib.hid (keepAl (o' := .cells (wcells a) 24) Ga.out)
              have Gl := Lib.hid (alloc_new' (w := (w).alloc (.cells (wcells a) 24)) (n := w.heap.size + 1) (.cells (wcells a) 24) (by simp))
              replace HB := Lib.hid (below_al HB.out (.cells (wcells a) 24))
              have cGa := cell_row Ga.out
              have cGl := cell_row Gl.out
              go_upto_region 13 with fail
              clear cGa cGl
              obtain ⟨w1, hw⟩ : ∃ wx, wx = ((w).alloc (.cells (wcells a) 24)).alloc (.cells (wcells a) 24) := ⟨_, rfl⟩
              rw [← hw] at Ga Gl HB ⊢
              clear hw
              have xGa := ext_row (B := w1.heap.size) Ga.out (lt_of_heap Ga.out)
              have xGl := ext_row (B := w1.heap.size) Gl.out (lt_of_heap Gl.out)
              refine wp_region_ext w1.heap.size (by kernel_rfl) (by kernel_rfl) ?_
              repeat (go_big_quiet_step (first | (go_at_call 98; with_reducible exact Calls.quiet_ext (Nat.le_refl _) (SP.out _)) | (go_at_call 63; with_reducible exact Calls.quiet_ext (Nat.le_refl _) (SC.out _))))
              refine wpQuiet_nil ?_
              intro w2 hb
              clear xGa xGl
              replace HB := Lib.hid (below_then HB.out hb)
              replace Ga := Lib.hid ((hb.block _ (lt_of_heap Ga.out)).trans Ga.out)
              replace Gl := Lib.hid ((hb.block _ (lt_of_heap Gl.out)).trans Gl.out)
              clear hb
              have cGa := cell_row Ga.out
              have cGl := cell_row Gl.out
              go_wp2
              go_ret
              exact ⟨ret_i64 HV.out.symm, HB.out⟩
            · have hzz := HLN.out hz
              rw [decide_eq_false hz] at HV
              clear hz hlt
              go_enter Tryd.func80, Tryd.ntmps80
              have HB := Lib.hid (Below.refl w.heap.size w)
              have Ga := Lib.hid (alloc_new (w) (.cells (wcells a) 24))
              replace HB := Lib.hid (below_al HB.out (.cells (wcells a) 24))
              replace Ga := Lib.hid (keepAl (o' := .cells (wcells a) 24) Ga.out)
              have Gl := Lib.hid (alloc_new' (w := (w).alloc (.cells (wcells a) 24)) (n := w.heap.size + 1) (.cells (wcells a) 24) (by simp))
              replace HB := Lib.hid (below_al HB.out (.cells (wcells a) 24))
              have cGa := cell_row Ga.out
              have cGl := cell_row Gl.out
              go_upto_region 13 with fail
              clear cGa cGl
              obtain ⟨w3, hw⟩ : ∃ wx, wx = ((w).alloc (.cells (wcells a) 24)).alloc (.cells (wcells a) 24) := ⟨_, rfl⟩
              rw [← hw] at Ga Gl HB ⊢
              clear hw
              have xGa := ext_row (B := w3.heap.size) Ga.out (lt_of_heap Ga.out)
              have xGl := ext_row (B := w3.heap.size) Gl.out (lt_of_heap Gl.out)
              refine wp_region_ext w3.heap.size (by kernel_rfl) (by kernel_rfl) ?_
              repeat (go_big_quiet_step (first | (go_at_call 98; with_reducible exact Calls.quiet_ext (Nat.le_refl _) (SP.out _)) | (go_at_call 63; with_reducible exact Calls.quiet_ext (Nat.le_refl _) (SC.out _))))
              refine wpQuiet_nil ?_
              intro w4 hb
              clear xGa xGl
              replace HB := Lib.hid (below_then HB.out hb)
              replace Ga := Lib.hid ((hb.block _ (lt_of_heap Ga.out)).trans Ga.out)
              replace Gl := Lib.hid ((hb.block _ (lt_of_heap Gl.out)).trans Gl.out)
              clear hb
              have cGa := cell_row Ga.out
              have cGl := cell_row Gl.out
              go_wp2
              go_ret
              exact ⟨ret_i64 HV.out.symm, HB.out⟩
          · clear hlt
            go_enter Tryd.func80, Tryd.ntmps80
            have HB := Lib.hid (Below.refl w.heap.size w)
            have Ga := Lib.hid (alloc_new (w) (.cells (wcells a) 24))
            replace HB := Lib.hid (below_al HB.out (.cells (wcells a) 24))
            replace Ga := Lib.hid (keepAl (o' := .cells (wcells a) 24) Ga.out)
            have Gl := Lib.hid (alloc_new' (w := (w).alloc (.cells (wcells a) 24)) (n := w.heap.size + 1) (.cells (wcells a) 24) (by simp))
            replace HB := Lib.hid (below_al HB.out (.cells (wcells a) 24))
            have cGa := cell_row Ga.out
            have cGl := cell_row Gl.out
            go_upto_region 13 with fail
            clear cGa cGl
            obtain ⟨w5, hw⟩ : ∃ wx, wx = ((w).alloc (.cells (wcells a) 24)).alloc (.cells (wcells a) 24) := ⟨_, rfl⟩
            rw [← hw] at Ga Gl HB ⊢
            clear hw
            have xGa := ext_row (B := w5.heap.size) Ga.out (lt_of_heap Ga.out)
            have xGl := ext_row (B := w5.heap.size) Gl.out (lt_of_heap Gl.out)
            refine wp_region_ext w5.heap.size (by kernel_rfl) (by kernel_rfl) ?_
            repeat (go_big_quiet_step (first | (go_at_call 98; with_reducible exact Calls.quiet_ext (Nat.le_refl _) (SP.out _)) | (go_at_call 63; with_reducible exact Calls.quiet_ext (Nat.le_refl _) (SC.out _))))
            refine wpQuiet_nil ?_
            intro w6 hb
            clear xGa xGl
            replace HB := Lib.hid (below_then HB.out hb)
            replace Ga := Lib.hid ((hb.block _ (lt_of_heap Ga.out)).trans Ga.out)
            replace Gl := Lib.hid ((hb.block _ (lt_of_heap Gl.out)).trans Gl.out)
            clear hb
            have cGa := cell_row Ga.out
            have cGl := cell_row Gl.out
            go_wp2
            go_ret
            exact ⟨ret_i64 HV.out.symm, HB.out⟩
        · rw [if_neg (by omega), if_pos heq] at HV
          rw [HC1.out heq] at SC
          clear heq
          cases more
          · skip
            go_enter Tryd.func80, Tryd.ntmps80
            have HB := Lib.hid (Below.refl w.heap.size w)
            have Ga := Lib.hid (alloc_new (w) (.cells (wcells a) 24))
            replace HB := Lib.hid (below_al HB.out (.cells (wcells a) 24))
            replace Ga := Lib.hid (keepAl (o' := .cells (wcells a) 24) Ga.out)
            have Gl := Lib.hid (alloc_new' (w := (w).alloc (.cells (wcells a) 24)) (n := w.heap.size + 1) (.cells (wcells a) 24) (by simp))
            replace HB := Lib.hid (below_al HB.out (.cells (wcells a) 24))
            have cGa := cell_row Ga.out
            have cGl := cell_row Gl.out
            go_upto_region 13 with fail
            clear cGa cGl
            obtain ⟨w7, hw⟩ : ∃ wx, wx = ((w).alloc (.cells (wcells a) 24)).alloc (.cells (wcells a) 24) := ⟨_, rfl⟩
            rw [← hw] at Ga Gl HB ⊢
            clear hw
            have xGa := ext_row (B := w7.heap.size) Ga.out (lt_of_heap Ga.out)
            have xGl := ext_row (B := w7.heap.size) Gl.out (lt_of_heap Gl.out)
            refine wp_region_ext w7.heap.size (by kernel_rfl) (by kernel_rfl) ?_
            repeat (go_big_quiet_step (first | (go_at_call 98; with_reducible exact Calls.quiet_ext (Nat.le_refl _) (SP.out _)) | (go_at_call 63; with_reducible exact Calls.quiet_ext (Nat.le_refl _) (SC.out _))))
            refine wpQuiet_nil ?_
            intro w8 hb
            clear xGa xGl
            replace HB := Lib.hid (below_then HB.out hb)
            replace Ga := Lib.hid ((hb.block _ (lt_of_heap Ga.out)).trans Ga.out)
            replace Gl := Lib.hid ((hb.block _ (lt_of_heap Gl.out)).trans Gl.out)
            clear hb
            have cGa := cell_row Ga.out
            have cGl := cell_row Gl.out
            go_wp2
            go_ret
            exact ⟨ret_i64 HV.out.symm, HB.out⟩
          · skip
            go_enter Tryd.func80, Tryd.ntmps80
            have HB := Lib.hid (Below.refl w.heap.size w)
            have Ga := Lib.hid (alloc_new (w) (.cells (wcells a) 24))
            replace HB := Lib.hid (below_al HB.out (.cells (wcells a) 24))
            replace Ga := Lib.hid (keepAl (o' := .cells (wcells a) 24) Ga.out)
            have Gl := Lib.hid (alloc_new' (w := (w).alloc (.cells (wcells a) 24)) (n := w.heap.size + 1) (.cells (wcells a) 24) (by simp))
            replace HB := Lib.hid (below_al HB.out (.cells (wcells a) 24))
            have cGa := cell_row Ga.out
            have cGl := cell_row Gl.out
            go_upto_region 13 with fail
            clear cGa cGl
            obtain ⟨w9, hw⟩ : ∃ wx, wx = ((w).alloc (.cells (wcells a) 24)).alloc (.cells (wcells a) 24) := ⟨_, rfl⟩
            rw [← hw] at Ga Gl HB ⊢
            clear hw
            have xGa := ext_row (B := w9.heap.size) Ga.out (lt_of_heap Ga.out)
            have xGl := ext_row (B := w9.heap.size) Gl.out (lt_of_heap Gl.out)
            refine wp_region_ext w9.heap.size (by kernel_rfl) (by kernel_rfl) ?_
            repeat (go_big_quiet_step (first | (go_at_call 98; with_reducible exact Calls.quiet_ext (Nat.le_refl _) (SP.out _)) | (go_at_call 63; with_reducible exact Calls.quiet_ext (Nat.le_refl _) (SC.out _))))
            refine wpQuiet_nil ?_
            intro w10 hb
            clear xGa xGl
            replace HB := Lib.hid (below_then HB.out hb)
            replace Ga := Lib.hid ((hb.block _ (lt_of_heap Ga.out)).trans Ga.out)
            replace Gl := Lib.hid ((hb.block _ (lt_of_heap Gl.out)).trans Gl.out)
            clear hb
            have cGa := cell_row Ga.out
            have cGl := cell_row Gl.out
            go_wp2
            go_ret
            exact ⟨ret_i64 HV.out.symm, HB.out⟩
        · rw [if_pos hgt] at HV
          rw [HC2.out hgt] at SC
          clear hgt
          go_enter Tryd.func80, Tryd.ntmps80
          have HB := Lib.hid (Below.refl w.heap.size w)
          have Ga := Lib.hid (alloc_new (w) (.cells (wcells a) 24))
          replace HB := Lib.hid (below_al HB.out (.cells (wcells a) 24))
          replace Ga := Lib.hid (keepAl (o' := .cells (wcells a) 24) Ga.out)
          have Gl := Lib.hid (alloc_new' (w := (w).alloc (.cells (wcells a) 24)) (n := w.heap.size + 1) (.cells (wcells a) 24) (by simp))
          replace HB := Lib.hid (below_al HB.out (.cells (wcells a) 24))
          have cGa := cell_row Ga.out
          have cGl := cell_row Gl.out
          go_upto_region 13 with fail
          clear cGa cGl
          obtain ⟨w11, hw⟩ : ∃ wx, wx = ((w).alloc (.cells (wcells a) 24)).alloc (.cells (wcells a) 24) := ⟨_, rfl⟩
          rw [← hw] at Ga Gl HB ⊢
          clear hw
          have xGa := ext_row (B := w11.heap.size) Ga.out (lt_of_heap Ga.out)
          have xGl := ext_row (B := w11.heap.size) Gl.out (lt_of_heap Gl.out)
          refine wp_region_ext w11.heap.size (by kernel_rfl) (by kernel_rfl) ?_
          repeat (go_big_quiet_step (first | (go_at_call 98; with_reducible exact Calls.quiet_ext (Nat.le_refl _) (SP.out _)) | (go_at_call 63; with_reducible exact Calls.quiet_ext (Nat.le_refl _) (SC.out _))))
          refine wpQuiet_nil ?_
          intro w12 hb
          clear xGa xGl
          replace HB := Lib.hid (below_then HB.out hb)
          replace Ga := Lib.hid ((hb.block _ (lt_of_heap Ga.out)).trans Ga.out)
          replace Gl := Lib.hid ((hb.block _ (lt_of_heap Gl.out)).trans Gl.out)
          clear hb
          have cGa := cell_row Ga.out
          have cGl := cell_row Gl.out
          go_wp2
          go_ret
          exact ⟨ret_i64 HV.out.symm, HB.out⟩
      · have e5 : (k : Int) < 512 := by omega
        have S1 := Lib.hid (fun w' => (HL.out (by omega) w').1)
        have S2 := Lib.hid (fun w' => (HL.out (by omega) w').2.1)
        have S3 := Lib.hid (fun w' => (HL.out (by omega) w').2.2)
        obtain ⟨hi, e1⟩ : ∃ x, x = a / P2 k := ⟨_, rfl⟩
        rw [← e1] at S1 S2 S3
        obtain ⟨bk, e2⟩ : ∃ x, x = hi * P2 k := ⟨_, rfl⟩
        rw [← e2] at S2 S3
        obtain ⟨f, e3⟩ : ∃ x, x = decide (l ≠ 0) := ⟨_, rfl⟩
        rw [← e3] at S1
        clear hk5 HE HL e1 e2 e3
        rcases Nat.lt_trichotomy l h with hlt | heq | hgt
        · rw [if_neg (by omega), if_neg (by omega)] at HV
          rw [HC0.out hlt] at SC
          cases more
          · by_cases hz : l = 0
            · have hzz := HLZ.out hz
              rw [decide_eq_true hz] at HV
              clear hz hlt
              go_enter Tryd.func80, Tryd.ntmps80
              have HB := Lib.hid (Below.refl w.heap.size w)
              have Ga := Lib.hid (alloc_new (w) (.cells (wcells a) 24))
              replace HB := Lib.hid (below_al HB.out (.cells (wcells a) 24))
              replace Ga := Lib.hid (keepAl (o' := .cells (wcells a) 24) Ga.out)
              have Gl := Lib.hid (alloc_new' (w := (w).alloc (.cells (wcells a) 24)) (n := w.heap.size + 1) (.cells (wcells a) 24) (by simp))
              replace HB := Lib.hid (below_al HB.out (.cells (wcells a) 24))
              have cGa := cell_row Ga.out
              have cGl := cell_row Gl.out
              go_wp2_with fail
              refine (S1.out _).mono ?_
              rintro e w13 ⟨rfl, hb⟩
              clear cGa cGl
              replace HB := Lib.hid (below_then HB.out hb)
              replace Ga := Lib.hid ((hb.block _ (lt_of_heap Ga.out)).trans Ga.out)
              replace Gl := Lib.hid ((hb.block _ (lt_of_heap Gl.out)).trans Gl.out)
              clear hb
              have HZ := Lib.hid (lt_of_heap Gl.out)
              replace Ga := Lib.hid (keepAl (o' := .cells (wcells hi) 24) Ga.out)
              replace Gl := Lib.hid (keepAl (o' := .cells (wcells hi) 24) Gl.out)
              have Gh := Lib.hid (alloc_new (w13) (.cells (wcells hi) 24))
              replace HB := Lib.hid (below_al HB.out (.cells (wcells hi) 24))
              have cGa := cell_row Ga.out
              have cGl := cell_row Gl.out
              have cGh := cell_row Gh.out
              go_upto_region 8 with fail
              clear cGa cGl cGh
              obtain ⟨wR, hw⟩ : ∃ wx, wx = (w13).alloc (.cells (wcells hi) 24) := ⟨_, rfl⟩
              rw [← hw] at Ga Gl Gh HB ⊢
              clear hw
              refine wp_region_store [⟨w.heap.size + 1, 24, .tmp 29⟩] (by kernel_rfl) (by kernel_rfl) (by kernel_rfl) rfl (List.pairwise_singleton _ _) ?_ ?_
              · intro r hr
                simp only [List.mem_cons, List.not_mem_nil, or_false] at hr
                subst hr
                exact ⟨_, Gl.out, by kernel_rfl⟩
              have xGa := extR_row (B := wR.heap.size) (R := [⟨w.heap.size + 1, 24, .tmp 29⟩]) Ga.out (lt_of_heap Ga.out) (by intro r hr; simp only [List.mem_cons, List.not_mem_nil, or_false] at hr; subst hr <;> dsimp only <;> (have := HZ.out; omega))
              have xGh := extR_row (B := wR.heap.size) (R := [⟨w.heap.size + 1, 24, .tmp 29⟩]) Gh.out (lt_of_heap Gh.out) (by intro r hr; simp only [List.mem_cons, List.not_mem_nil, or_false] at hr; subst hr <;> dsimp only <;> (have := HZ.out; omega))
              repeat (refine wpCalm_step (fun K hK => ?_); go_simp; first | (refine hK _ ?_; clear hK K) | (apply Exists.intro; refine ⟨fun _ => ?_, hK _ ?_⟩; (first | with_reducible exact S2.out _ | with_reducible exact S3.out _ | exact S2.out _ | exact S3.out _); clear hK K))
              refine wpCalm_nil ⟨?_, fun x hx => ?_⟩
              · intro r hr
                simp only [List.mem_cons, List.not_mem_nil, or_false] at hr
                subst hr <;> exact fits_wv (by kernel_rfl) _
              replace Gl : Hid (x.val.heap[w.heap.size + 1]? = some (.cells (wcells (l)) 24 (0, 0))) := Lib.hid (hx ⟨w.heap.size + 1, 24, .tmp 29⟩ (by simp))
              replace Ga := Lib.hid (extR_block x Ga.out (lt_of_heap Ga.out) (by intro r hr; simp only [List.mem_cons, List.not_mem_nil, or_false] at hr; subst hr <;> dsimp only <;> (have := HZ.out; omega)))
              replace Gh := Lib.hid (extR_block x Gh.out (lt_of_heap Gh.out) (by intro r hr; simp only [List.mem_cons, List.not_mem_nil, or_false] at hr; subst hr <;> dsimp only <;> (have := HZ.out; omega)))
              replace HB := Lib.hid (extR_below x HB.out HB.out.size (by intro r hr; simp only [List.mem_cons, List.not_mem_nil, or_false] at hr; subst hr <;> dsimp only <;> (have := HZ.out; omega)))
              clear hx xGa xGh
              obtain ⟨w14, hw⟩ : ∃ wx, wx = x.val := ⟨_, rfl⟩
              rw [← hw] at Ga Gl Gh HB ⊢
              clear hw x
              have cGa := cell_row Ga.out
              have cGl := cell_row Gl.out
              go_upto_region 13 with fail
              clear cGa cGl
              have xGa := ext_row (B := w14.heap.size) Ga.out (lt_of_heap Ga.out)
              have xGl := ext_row (B := w14.heap.size) Gl.out (lt_of_heap Gl.out)
              refine wp_region_ext w14.heap.size (by kernel_rfl) (by kernel_rfl) ?_
              repeat (go_big_quiet_step (first | (go_at_call 98; with_reducible exact Calls.quiet_ext (Nat.le_refl _) (SP.out _)) | (go_at_call 63; with_reducible exact Calls.quiet_ext (Nat.le_refl _) (SC.out _))))
              refine wpQuiet_nil ?_
              intro w15 hb
              clear xGa xGl
              replace HB := Lib.hid (below_then HB.out hb)
              replace Ga := Lib.hid ((hb.block _ (lt_of_heap Ga.out)).trans Ga.out)
              replace Gl := Lib.hid ((hb.block _ (lt_of_heap Gl.out)).trans Gl.out)
              clear hb
              have cGa := cell_row Ga.out
              have cGl := cell_row Gl.out
              go_wp2
              go_ret
              exact ⟨ret_i64 HV.out.symm, HB.out⟩
            · have hzz := HLN.out hz
              rw [decide_eq_false hz] at HV
              clear hz hlt
              go_enter Tryd.func80, Tryd.ntmps80
              have HB := Lib.hid (Below.refl w.heap.size w)
              have Ga := Lib.hid (alloc_new (w) (.cells (wcells a) 24))
              replace HB := Lib.hid (below_al HB.out (.cells (wcells a) 24))
              replace Ga := Lib.hid (keepAl (o' := .cells (wcells a) 24) Ga.out)
              have Gl := Lib.hid (alloc_new' (w := (w).alloc (.cells (wcells a) 24)) (n := w.heap.size + 1) (.cells (wcells a) 24) (by simp))
              replace HB := Lib.hid (below_al HB.out (.cells (wcells a) 24))
              have cGa := cell_row Ga.out
              have cGl := cell_row Gl.out
              go_wp2_with fail
              refine (S1.out _).mono ?_
              rintro e w16 ⟨rfl, hb⟩
              clear cGa cGl
              replace HB := Lib.hid (below_then HB.out hb)
              replace Ga := Lib.hid ((hb.block _ (lt_of_heap Ga.out)).trans Ga.out)
              replace Gl := Lib.hid ((hb.block _ (lt_of_heap Gl.out)).trans Gl.out)
              clear hb
              have HZ := Lib.hid (lt_of_heap Gl.out)
              replace Ga := Lib.hid (keepAl (o' := .cells (wcells hi) 24) Ga.out)
              replace Gl := Lib.hid (keepAl (o' := .cells (wcells hi) 24) Gl.out)
              have Gh := Lib.hid (alloc_new (w16) (.cells (wcells hi) 24))
              replace HB := Lib.hid (below_al HB.out (.cells (wcells hi) 24))
              have cGa := cell_row Ga.out
              have cGl := cell_row Gl.out
              have cGh := cell_row Gh.out
              go_upto_region 8 with fail
              clear cGa cGl cGh
              obtain ⟨wR, hw⟩ : ∃ wx, wx = (w16).alloc (.cells (wcells hi) 24) := ⟨_, rfl⟩
              rw [← hw] at Ga Gl Gh HB ⊢
              clear hw
              refine wp_region_store [⟨w.heap.size + 1, 24, .tmp 29⟩] (by kernel_rfl) (by kernel_rfl) (by kernel_rfl) rfl (List.pairwise_singleton _ _) ?_ ?_
              · intro r hr
                simp only [List.mem_cons, List.not_mem_nil, or_false] at hr
                subst hr
                exact ⟨_, Gl.out, by kernel_rfl⟩
              have xGa := extR_row (B := wR.heap.size) (R := [⟨w.heap.size + 1, 24, .tmp 29⟩]) Ga.out (lt_of_heap Ga.out) (by intro r hr; simp only [List.mem_cons, List.not_mem_nil, or_false] at hr; subst hr <;> dsimp only <;> (have := HZ.out; omega))
              have xGh := extR_row (B := wR.heap.size) (R := [⟨w.heap.size + 1, 24, .tmp 29⟩]) Gh.out (lt_of_heap Gh.out) (by intro r hr; simp only [List.mem_cons, List.not_mem_nil, or_false] at hr; subst hr <;> dsimp only <;> (have := HZ.out; omega))
              repeat (refine wpCalm_step (fun K hK => ?_); go_simp; first | (refine hK _ ?_; clear hK K) | (apply Exists.intro; refine ⟨fun _ => ?_, hK _ ?_⟩; (first | with_reducible exact S2.out _ | with_reducible exact S3.out _ | exact S2.out _ | exact S3.out _); clear hK K))
              refine wpCalm_nil ⟨?_, fun x hx => ?_⟩
              · intro r hr
                simp only [List.mem_cons, List.not_mem_nil, or_false] at hr
                subst hr <;> exact fits_wv (by kernel_rfl) _
              replace Gl : Hid (x.val.heap[w.heap.size + 1]? = some (.cells (wcells (l)) 24 (0, 0))) := Lib.hid (hx ⟨w.heap.size + 1, 24, .tmp 29⟩ (by simp))
              replace Ga := Lib.hid (extR_block x Ga.out (lt_of_heap Ga.out) (by intro r hr; simp only [List.mem_cons, List.not_mem_nil, or_false] at hr; subst hr <;> dsimp only <;> (have := HZ.out; omega)))
              replace Gh := Lib.hid (extR_block x Gh.out (lt_of_heap Gh.out) (by intro r hr; simp only [List.mem_cons, List.not_mem_nil, or_false] at hr; subst hr <;> dsimp only <;> (have := HZ.out; omega)))
              replace HB := Lib.hid (extR_below x HB.out HB.out.size (by intro r hr; simp only [List.mem_cons, List.not_mem_nil, or_false] at hr; subst hr <;> dsimp only <;> (have := HZ.out; omega)))
              clear hx xGa xGh
              obtain ⟨w17, hw⟩ : ∃ wx, wx = x.val := ⟨_, rfl⟩
              rw [← hw] at Ga Gl Gh HB ⊢
              clear hw x
              have cGa := cell_row Ga.out
              have cGl := cell_row Gl.out
              go_upto_region 13 with fail
              clear cGa cGl
              have xGa := ext_row (B := w17.heap.size) Ga.out (lt_of_heap Ga.out)
              have xGl := ext_row (B := w17.heap.size) Gl.out (lt_of_heap Gl.out)
              refine wp_region_ext w17.heap.size (by kernel_rfl) (by kernel_rfl) ?_
              repeat (go_big_quiet_step (first | (go_at_call 98; with_reducible exact Calls.quiet_ext (Nat.le_refl _) (SP.out _)) | (go_at_call 63; with_reducible exact Calls.quiet_ext (Nat.le_refl _) (SC.out _))))
              refine wpQuiet_nil ?_
              intro w18 hb
              clear xGa xGl
              replace HB := Lib.hid (below_then HB.out hb)
              replace Ga := Lib.hid ((hb.block _ (lt_of_heap Ga.out)).trans Ga.out)
              replace Gl := Lib.hid ((hb.block _ (lt_of_heap Gl.out)).trans Gl.out)
              clear hb
              have cGa := cell_row Ga.out
              have cGl := cell_row Gl.out
              go_wp2
              go_ret
              exact ⟨ret_i64 HV.out.symm, HB.out⟩
          · clear hlt
            go_enter Tryd.func80, Tryd.ntmps80
            have HB := Lib.hid (Below.refl w.heap.size w)
            have Ga := Lib.hid (alloc_new (w) (.cells (wcells a) 24))
            replace HB := Lib.hid (below_al HB.out (.cells (wcells a) 24))
            replace Ga := Lib.hid (keepAl (o' := .cells (wcells a) 24) Ga.out)
            have Gl := Lib.hid (alloc_new' (w := (w).alloc (.cells (wcells a) 24)) (n := w.heap.size + 1) (.cells (wcells a) 24) (by simp))
            replace HB := Lib.hid (below_al HB.out (.cells (wcells a) 24))
            have cGa := cell_row Ga.out
            have cGl := cell_row Gl.out
            go_wp2_with fail
            refine (S1.out _).mono ?_
            rintro e w19 ⟨rfl, hb⟩
            clear cGa cGl
            replace HB := Lib.hid (below_then HB.out hb)
            replace Ga := Lib.hid ((hb.block _ (lt_of_heap Ga.out)).trans Ga.out)
            replace Gl := Lib.hid ((hb.block _ (lt_of_heap Gl.out)).trans Gl.out)
            clear hb
            have HZ := Lib.hid (lt_of_heap Gl.out)
            replace Ga := Lib.hid (keepAl (o' := .cells (wcells hi) 24) Ga.out)
            replace Gl := Lib.hid (keepAl (o' := .cells (wcells hi) 24) Gl.out)
            have Gh := Lib.hid (alloc_new (w19) (.cells (wcells hi) 24))
            replace HB := Lib.hid (below_al HB.out (.cells (wcells hi) 24))
            have cGa := cell_row Ga.out
            have cGl := cell_row Gl.out
            have cGh := cell_row Gh.out
            go_upto_region 8 with fail
            clear cGa cGl cGh
            obtain ⟨wR, hw⟩ : ∃ wx, wx = (w19).alloc (.cells (wcells hi) 24) := ⟨_, rfl⟩
            rw [← hw] at Ga Gl Gh HB ⊢
            clear hw
            refine wp_region_store [⟨w.heap.size + 1, 24, .tmp 29⟩] (by kernel_rfl) (by kernel_rfl) (by kernel_rfl) rfl (List.pairwise_singleton _ _) ?_ ?_
            · intro r hr
              simp only [List.mem_cons, List.not_mem_nil, or_false] at hr
              subst hr
              exact ⟨_, Gl.out, by kernel_rfl⟩
            have xGa := extR_row (B := wR.heap.size) (R := [⟨w.heap.size + 1, 24, .tmp 29⟩]) Ga.out (lt_of_heap Ga.out) (by intro r hr; simp only [List.mem_cons, List.not_mem_nil, or_false] at hr; subst hr <;> dsimp only <;> (have := HZ.out; omega))
            have xGh := extR_row (B := wR.heap.size) (R := [⟨w.heap.size + 1, 24, .tmp 29⟩]) Gh.out (lt_of_heap Gh.out) (by intro r hr; simp only [List.mem_cons, List.not_mem_nil, or_false] at hr; subst hr <;> dsimp only <;> (have := HZ.out; omega))
            repeat (refine wpCalm_step (fun K hK => ?_); go_simp; first | (refine hK _ ?_; clear hK K) | (apply Exists.intro; refine ⟨fun _ => ?_, hK _ ?_⟩; (first | with_reducible exact S2.out _ | with_reducible exact S3.out _ | exact S2.out _ | exact S3.out _); clear hK K))
            refine wpCalm_nil ⟨?_, fun x hx => ?_⟩
            · intro r hr
              simp only [List.mem_cons, List.not_mem_nil, or_false] at hr
              subst hr <;> exact fits_wv (by kernel_rfl) _
            replace Gl : Hid (x.val.heap[w.heap.size + 1]? = some (.cells (wcells (l)) 24 (0, 0))) := Lib.hid (hx ⟨w.heap.size + 1, 24, .tmp 29⟩ (by simp))
            replace Ga := Lib.hid (extR_block x Ga.out (lt_of_heap Ga.out) (by intro r hr; simp only [List.mem_cons, List.not_mem_nil, or_false] at hr; subst hr <;> dsimp only <;> (have := HZ.out; omega)))
            replace Gh := Lib.hid (extR_block x Gh.out (lt_of_heap Gh.out) (by intro r hr; simp only [List.mem_cons, List.not_mem_nil, or_false] at hr; subst hr <;> dsimp only <;> (have := HZ.out; omega)))
            replace HB := Lib.hid (extR_below x HB.out HB.out.size (by intro r hr; simp only [List.mem_cons, List.not_mem_nil, or_false] at hr; subst hr <;> dsimp only <;> (have := HZ.out; omega)))
            clear hx xGa xGh
            obtain ⟨w20, hw⟩ : ∃ wx, wx = x.val := ⟨_, rfl⟩
            rw [← hw] at Ga Gl Gh HB ⊢
            clear hw x
            have cGa := cell_row Ga.out
            have cGl := cell_row Gl.out
            go_upto_region 13 with fail
            clear cGa cGl
            have xGa := ext_row (B := w20.heap.size) Ga.out (lt_of_heap Ga.out)
            have xGl := ext_row (B := w20.heap.size) Gl.out (lt_of_heap Gl.out)
            refine wp_region_ext w20.heap.size (by kernel_rfl) (by kernel_rfl) ?_
            repeat (go_big_quiet_step (first | (go_at_call 98; with_reducible exact Calls.quiet_ext (Nat.le_refl _) (SP.out _)) | (go_at_call 63; with_reducible exact Calls.quiet_ext (Nat.le_refl _) (SC.out _))))
            refine wpQuiet_nil ?_
            intro w21 hb
            clear xGa xGl
            replace HB := Lib.hid (below_then HB.out hb)
            replace Ga := Lib.hid ((hb.block _ (lt_of_heap Ga.out)).trans Ga.out)
            replace Gl := Lib.hid ((hb.block _ (lt_of_heap Gl.out)).trans Gl.out)
            clear hb
            have cGa := cell_row Ga.out
            have cGl := cell_row Gl.out
            go_wp2
            go_ret
            exact ⟨ret_i64 HV.out.symm, HB.out⟩
        · rw [if_neg (by omega), if_pos heq] at HV
          rw [HC1.out heq] at SC
          clear heq
          cases more
          · skip
            go_enter Tryd.func80, Tryd.ntmps80
            have HB := Lib.hid (Below.refl w.heap.size w)
            have Ga := Lib.hid (alloc_new (w) (.cells (wcells a) 24))
            replace HB := Lib.hid (below_al HB.out (.cells (wcells a) 24))
            replace Ga := Lib.hid (keepAl (o' := .cells (wcells a) 24) Ga.out)
            have Gl := Lib.hid (alloc_new' (w := (w).alloc (.cells (wcells a) 24)) (n := w.heap.size + 1) (.cells (wcells a) 24) (by simp))
            replace HB := Lib.hid (below_al HB.out (.cells (wcells a) 24))
            have cGa := cell_row Ga.out
            have cGl := cell_row Gl.out
            go_wp2_with fail
            refine (S1.out _).mono ?_
            rintro e w22 ⟨rfl, hb⟩
            clear cGa cGl
            replace HB := Lib.hid (below_then HB.out hb)
            replace Ga := Lib.hid ((hb.block _ (lt_of_heap Ga.out)).trans Ga.out)
            replace Gl := Lib.hid ((hb.block _ (lt_of_heap Gl.out)).trans Gl.out)
            clear hb
            have HZ := Lib.hid (lt_of_heap Gl.out)
            replace Ga := Lib.hid (keepAl (o' := .cells (wcells hi) 24) Ga.out)
            replace Gl := Lib.hid (keepAl (o' := .cells (wcells hi) 24) Gl.out)
            have Gh := Lib.hid (alloc_new (w22) (.cells (wcells hi) 24))
            replace HB := Lib.hid (below_al HB.out (.cells (wcells hi) 24))
            have cGa := cell_row Ga.out
            have cGl := cell_row Gl.out
            have cGh := cell_row Gh.out
            go_upto_region 8 with fail
            clear cGa cGl cGh
            obtain ⟨wR, hw⟩ : ∃ wx, wx = (w22).alloc (.cells (wcells hi) 24) := ⟨_, rfl⟩
            rw [← hw] at Ga Gl Gh HB ⊢
            clear hw
            refine wp_region_store [⟨w.heap.size + 1, 24, .tmp 29⟩] (by kernel_rfl) (by kernel_rfl) (by kernel_rfl) rfl (List.pairwise_singleton _ _) ?_ ?_
            · intro r hr
              simp only [List.mem_cons, List.not_mem_nil, or_false] at hr
              subst hr
              exact ⟨_, Gl.out, by kernel_rfl⟩
            have xGa := extR_row (B := wR.heap.size) (R := [⟨w.heap.size + 1, 24, .tmp 29⟩]) Ga.out (lt_of_heap Ga.out) (by intro r hr; simp only [List.mem_cons, List.not_mem_nil, or_false] at hr; subst hr <;> dsimp only <;> (have := HZ.out; omega))
            have xGh := extR_row (B := wR.heap.size) (R := [⟨w.heap.size + 1, 24, .tmp 29⟩]) Gh.out (lt_of_heap Gh.out) (by intro r hr; simp only [List.mem_cons, List.not_mem_nil, or_false] at hr; subst hr <;> dsimp only <;> (have := HZ.out; omega))
            repeat (refine wpCalm_step (fun K hK => ?_); go_simp; first | (refine hK _ ?_; clear hK K) | (apply Exists.intro; refine ⟨fun _ => ?_, hK _ ?_⟩; (first | with_reducible exact S2.out _ | with_reducible exact S3.out _ | exact S2.out _ | exact S3.out _); clear hK K))
            refine wpCalm_nil ⟨?_, fun x hx => ?_⟩
            · intro r hr
              simp only [List.mem_cons, List.not_mem_nil, or_false] at hr
              subst hr <;> exact fits_wv (by kernel_rfl) _
            replace Gl : Hid (x.val.heap[w.heap.size + 1]? = some (.cells (wcells (l)) 24 (0, 0))) := Lib.hid (hx ⟨w.heap.size + 1, 24, .tmp 29⟩ (by simp))
            replace Ga := Lib.hid (extR_block x Ga.out (lt_of_heap Ga.out) (by intro r hr; simp only [List.mem_cons, List.not_mem_nil, or_false] at hr; subst hr <;> dsimp only <;> (have := HZ.out; omega)))
            replace Gh := Lib.hid (extR_block x Gh.out (lt_of_heap Gh.out) (by intro r hr; simp only [List.mem_cons, List.not_mem_nil, or_false] at hr; subst hr <;> dsimp only <;> (have := HZ.out; omega)))
            replace HB := Lib.hid (extR_below x HB.out HB.out.size (by intro r hr; simp only [List.mem_cons, List.not_mem_nil, or_false] at hr; subst hr <;> dsimp only <;> (have := HZ.out; omega)))
            clear hx xGa xGh
            obtain ⟨w23, hw⟩ : ∃ wx, wx = x.val := ⟨_, rfl⟩
            rw [← hw] at Ga Gl Gh HB ⊢
            clear hw x
            have cGa := cell_row Ga.out
            have cGl := cell_row Gl.out
            go_upto_region 13 with fail
            clear cGa cGl
            have xGa := ext_row (B := w23.heap.size) Ga.out (lt_of_heap Ga.out)
            have xGl := ext_row (B := w23.heap.size) Gl.out (lt_of_heap Gl.out)
            refine wp_region_ext w23.heap.size (by kernel_rfl) (by kernel_rfl) ?_
            repeat (go_big_quiet_step (first | (go_at_call 98; with_reducible exact Calls.quiet_ext (Nat.le_refl _) (SP.out _)) | (go_at_call 63; with_reducible exact Calls.quiet_ext (Nat.le_refl _) (SC.out _))))
            refine wpQuiet_nil ?_
            intro w24 hb
            clear xGa xGl
            replace HB := Lib.hid (below_then HB.out hb)
            replace Ga := Lib.hid ((hb.block _ (lt_of_heap Ga.out)).trans Ga.out)
            replace Gl := Lib.hid ((hb.block _ (lt_of_heap Gl.out)).trans Gl.out)
            clear hb
            have cGa := cell_row Ga.out
            have cGl := cell_row Gl.out
            go_wp2
            go_ret
            exact ⟨ret_i64 HV.out.symm, HB.out⟩
          · skip
            go_enter Tryd.func80, Tryd.ntmps80
            have HB := Lib.hid (Below.refl w.heap.size w)
            have Ga := Lib.hid (alloc_new (w) (.cells (wcells a) 24))
            replace HB := Lib.hid (below_al HB.out (.cells (wcells a) 24))
            replace Ga := Lib.hid (keepAl (o' := .cells (wcells a) 24) Ga.out)
            have Gl := Lib.hid (alloc_new' (w := (w).alloc (.cells (wcells a) 24)) (n := w.heap.size + 1) (.cells (wcells a) 24) (by simp))
            replace HB := Lib.hid (below_al HB.out (.cells (wcells a) 24))
            have cGa := cell_row Ga.out
            have cGl := cell_row Gl.out
            go_wp2_with fail
            refine (S1.out _).mono ?_
            rintro e w25 ⟨rfl, hb⟩
            clear cGa cGl
            replace HB := Lib.hid (below_then HB.out hb)
            replace Ga := Lib.hid ((hb.block _ (lt_of_heap Ga.out)).trans Ga.out)
            replace Gl := Lib.hid ((hb.block _ (lt_of_heap Gl.out)).trans Gl.out)
            clear hb
            have HZ := Lib.hid (lt_of_heap Gl.out)
            replace Ga := Lib.hid (keepAl (o' := .cells (wcells hi) 24) Ga.out)
            replace Gl := Lib.hid (keepAl (o' := .cells (wcells hi) 24) Gl.out)
            have Gh := Lib.hid (alloc_new (w25) (.cells (wcells hi) 24))
            replace HB := Lib.hid (below_al HB.out (.cells (wcells hi) 24))
            have cGa := cell_row Ga.out
            have cGl := cell_row Gl.out
            have cGh := cell_row Gh.out
            go_upto_region 8 with fail
            clear cGa cGl cGh
            obtain ⟨wR, hw⟩ : ∃ wx, wx = (w25).alloc (.cells (wcells hi) 24) := ⟨_, rfl⟩
            rw [← hw] at Ga Gl Gh HB ⊢
            clear hw
            refine wp_region_store [⟨w.heap.size + 1, 24, .tmp 29⟩] (by kernel_rfl) (by kernel_rfl) (by kernel_rfl) rfl (List.pairwise_singleton _ _) ?_ ?_
            · intro r hr
              simp only [List.mem_cons, List.not_mem_nil, or_false] at hr
              subst hr
              exact ⟨_, Gl.out, by kernel_rfl⟩
            have xGa := extR_row (B := wR.heap.size) (R := [⟨w.heap.size + 1, 24, .tmp 29⟩]) Ga.out (lt_of_heap Ga.out) (by intro r hr; simp only [List.mem_cons, List.not_mem_nil, or_false] at hr; subst hr <;> dsimp only <;> (have := HZ.out; omega))
            have xGh := extR_row (B := wR.heap.size) (R := [⟨w.heap.size + 1, 24, .tmp 29⟩]) Gh.out (lt_of_heap Gh.out) (by intro r hr; simp only [List.mem_cons, List.not_mem_nil, or_false] at hr; subst hr <;> dsimp only <;> (have := HZ.out; omega))
            repeat (refine wpCalm_step (fun K hK => ?_); go_simp; first | (refine hK _ ?_; clear hK K) | (apply Exists.intro; refine ⟨fun _ => ?_, hK _ ?_⟩; (first | with_reducible exact S2.out _ | with_reducible exact S3.out _ | exact S2.out _ | exact S3.out _); clear hK K))
            refine wpCalm_nil ⟨?_, fun x hx => ?_⟩
            · intro r hr
              simp only [List.mem_cons, List.not_mem_nil, or_false] at hr
              subst hr <;> exact fits_wv (by kernel_rfl) _
            replace Gl : Hid (x.val.heap[w.heap.size + 1]? = some (.cells (wcells (l)) 24 (0, 0))) := Lib.hid (hx ⟨w.heap.size + 1, 24, .tmp 29⟩ (by simp))
            replace Ga := Lib.hid (extR_block x Ga.out (lt_of_heap Ga.out) (by intro r hr; simp only [List.mem_cons, List.not_mem_nil, or_false] at hr; subst hr <;> dsimp only <;> (have := HZ.out; omega)))
            replace Gh := Lib.hid (extR_block x Gh.out (lt_of_heap Gh.out) (by intro r hr; simp only [List.mem_cons, List.not_mem_nil, or_false] at hr; subst hr <;> dsimp only <;> (have := HZ.out; omega)))
            replace HB := Lib.hid (extR_below x HB.out HB.out.size (by intro r hr; simp only [List.mem_cons, List.not_mem_nil, or_false] at hr; subst hr <;> dsimp only <;> (have := HZ.out; omega)))
            clear hx xGa xGh
            obtain ⟨w26, hw⟩ : ∃ wx, wx = x.val := ⟨_, rfl⟩
            rw [← hw] at Ga Gl Gh HB ⊢
            clear hw x
            have cGa := cell_row Ga.out
            have cGl := cell_row Gl.out
            go_upto_region 13 with fail
            clear cGa cGl
            have xGa := ext_row (B := w26.heap.size) Ga.out (lt_of_heap Ga.out)
            have xGl := ext_row (B := w26.heap.size) Gl.out (lt_of_heap Gl.out)
            refine wp_region_ext w26.heap.size (by kernel_rfl) (by kernel_rfl) ?_
            repeat (go_big_quiet_step (first | (go_at_call 98; with_reducible exact Calls.quiet_ext (Nat.le_refl _) (SP.out _)) | (go_at_call 63; with_reducible exact Calls.quiet_ext (Nat.le_refl _) (SC.out _))))
            refine wpQuiet_nil ?_
            intro w27 hb
            clear xGa xGl
            replace HB := Lib.hid (below_then HB.out hb)
            replace Ga := Lib.hid ((hb.block _ (lt_of_heap Ga.out)).trans Ga.out)
            replace Gl := Lib.hid ((hb.block _ (lt_of_heap Gl.out)).trans Gl.out)
            clear hb
            have cGa := cell_row Ga.out
            have cGl := cell_row Gl.out
            go_wp2
            go_ret
            exact ⟨ret_i64 HV.out.symm, HB.out⟩
        · rw [if_pos hgt] at HV
          rw [HC2.out hgt] at SC
          clear hgt
          go_enter Tryd.func80, Tryd.ntmps80
          have HB := Lib.hid (Below.refl w.heap.size w)
          have Ga := Lib.hid (alloc_new (w) (.cells (wcells a) 24))
          replace HB := Lib.hid (below_al HB.out (.cells (wcells a) 24))
          replace Ga := Lib.hid (keepAl (o' := .cells (wcells a) 24) Ga.out)
          have Gl := Lib.hid (alloc_new' (w := (w).alloc (.cells (wcells a) 24)) (n := w.heap.size + 1) (.cells (wcells a) 24) (by simp))
          replace HB := Lib.hid (below_al HB.out (.cells (wcells a) 24))
          have cGa := cell_row Ga.out
          have cGl := cell_row Gl.out
          go_wp2_with fail
          refine (S1.out _).mono ?_
          rintro e w28 ⟨rfl, hb⟩
          clear cGa cGl
          replace HB := Lib.hid (below_then HB.out hb)
          replace Ga := Lib.hid ((hb.block _ (lt_of_heap Ga.out)).trans Ga.out)
          replace Gl := Lib.hid ((hb.block _ (lt_of_heap Gl.out)).trans Gl.out)
          clear hb
          have HZ := Lib.hid (lt_of_heap Gl.out)
          replace Ga := Lib.hid (keepAl (o' := .cells (wcells hi) 24) Ga.out)
          replace Gl := Lib.hid (keepAl (o' := .cells (wcells hi) 24) Gl.out)
          have Gh := Lib.hid (alloc_new (w28) (.cells (wcells hi) 24))
          replace HB := Lib.hid (below_al HB.out (.cells (wcells hi) 24))
          have cGa := cell_row Ga.out
          have cGl := cell_row Gl.out
          have cGh := cell_row Gh.out
          go_upto_region 8 with fail
          clear cGa cGl cGh
          obtain ⟨wR, hw⟩ : ∃ wx, wx = (w28).alloc (.cells (wcells hi) 24) := ⟨_, rfl⟩
          rw [← hw] at Ga Gl Gh HB ⊢
          clear hw
          refine wp_region_store [⟨w.heap.size + 1, 24, .tmp 29⟩] (by kernel_rfl) (by kernel_rfl) (by kernel_rfl) rfl (List.pairwise_singleton _ _) ?_ ?_
          · intro r hr
            simp only [List.mem_cons, List.not_mem_nil, or_false] at hr
            subst hr
            exact ⟨_, Gl.out, by kernel_rfl⟩
          have xGa := extR_row (B := wR.heap.size) (R := [⟨w.heap.size + 1, 24, .tmp 29⟩]) Ga.out (lt_of_heap Ga.out) (by intro r hr; simp only [List.mem_cons, List.not_mem_nil, or_false] at hr; subst hr <;> dsimp only <;> (have := HZ.out; omega))
          have xGh := extR_row (B := wR.heap.size) (R := [⟨w.heap.size + 1, 24, .tmp 29⟩]) Gh.out (lt_of_heap Gh.out) (by intro r hr; simp only [List.mem_cons, List.not_mem_nil, or_false] at hr; subst hr <;> dsimp only <;> (have := HZ.out; omega))
          repeat (refine wpCalm_step (fun K hK => ?_); go_simp; first | (refine hK _ ?_; clear hK K) | (apply Exists.intro; refine ⟨fun _ => ?_, hK _ ?_⟩; (first | with_reducible exact S2.out _ | with_reducible exact S3.out _ | exact S2.out _ | exact S3.out _); clear hK K))
          refine wpCalm_nil ⟨?_, fun x hx => ?_⟩
          · intro r hr
            simp only [List.mem_cons, List.not_mem_nil, or_false] at hr
            subst hr <;> exact fits_wv (by kernel_rfl) _
          replace Gl : Hid (x.val.heap[w.heap.size + 1]? = some (.cells (wcells (l)) 24 (0, 0))) := Lib.hid (hx ⟨w.heap.size + 1, 24, .tmp 29⟩ (by simp))
          replace Ga := Lib.hid (extR_block x Ga.out (lt_of_heap Ga.out) (by intro r hr; simp only [List.mem_cons, List.not_mem_nil, or_false] at hr; subst hr <;> dsimp only <;> (have := HZ.out; omega)))
          replace Gh := Lib.hid (extR_block x Gh.out (lt_of_heap Gh.out) (by intro r hr; simp only [List.mem_cons, List.not_mem_nil, or_false] at hr; subst hr <;> dsimp only <;> (have := HZ.out; omega)))
          replace HB := Lib.hid (extR_below x HB.out HB.out.size (by intro r hr; simp only [List.mem_cons, List.not_mem_nil, or_false] at hr; subst hr <;> dsimp only <;> (have := HZ.out; omega)))
          clear hx xGa xGh
          obtain ⟨w29, hw⟩ : ∃ wx, wx = x.val := ⟨_, rfl⟩
          rw [← hw] at Ga Gl Gh HB ⊢
          clear hw x
          have cGa := cell_row Ga.out
          have cGl := cell_row Gl.out
          go_upto_region 13 with fail
          clear cGa cGl
          have xGa := ext_row (B := w29.heap.size) Ga.out (lt_of_heap Ga.out)
          have xGl := ext_row (B := w29.heap.size) Gl.out (lt_of_heap Gl.out)
          refine wp_region_ext w29.heap.size (by kernel_rfl) (by kernel_rfl) ?_
          repeat (go_big_quiet_step (first | (go_at_call 98; with_reducible exact Calls.quiet_ext (Nat.le_refl _) (SP.out _)) | (go_at_call 63; with_reducible exact Calls.quiet_ext (Nat.le_refl _) (SC.out _))))
          refine wpQuiet_nil ?_
          intro w30 hb
          clear xGa xGl
          replace HB := Lib.hid (below_then HB.out hb)
          replace Ga := Lib.hid ((hb.block _ (lt_of_heap Ga.out)).trans Ga.out)
          replace Gl := Lib.hid ((hb.block _ (lt_of_heap Gl.out)).trans Gl.out)
          clear hb
          have cGa := cell_row Ga.out
          have cGl := cell_row Gl.out
          go_wp2
          go_ret
          exact ⟨ret_i64 HV.out.symm, HB.out⟩
end Go.Proofs.YtffengboblekpaaDoor
