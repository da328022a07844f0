/- THE WALK of root2's nearest number. -/
import Derived.Test.YtenkaobgoknlhaaRt2b
import Derived.Deep.RegionWith
namespace Go.Proofs.Ytenkaobgoknlhaa
open Go Go.RowKit

/-- The number nearest to a root. -/
def rdV (n : Nat) : Nat := if n < P2 256 then (if rtN 2 n < n - rtN 2 n * rtN 2 n then rtN 2 n + 1 else rtN 2 n) else 0

attribute [local go_sem ↓] Go.wp_at_zero Go.wp_at_succ
set_option maxRecDepth 100000 in
set_option maxHeartbeats 2000000 in
theorem round_w (n : Nat) (hn : n < M) (w : World) :
    Calls Try.prog 103 #[wv n] w fun e w' => e = .returned (.tuple #[wv (rdV n), .int .i64 (rsE n)]) ∧ Below w.heap.size w w' := by
  have S1 := Lib.hid (fun w' => root_w n hn w')
  by_cases hm : n < P2 256
  · obtain ⟨e1, e2, e3⟩ := rs_yes hm
    rw [e1, e2, e3] at S1
    rw [e3]
    have hS := rt_lt hm
    have h128 : P2 128 < M := by rw [M_eq]; exact P2_lt (by omega)
    have h1M : 1 < M := by have : P2 0 < M := by rw [M_eq]; exact P2_lt (by omega)
                           rwa [P2_0] at this
    have SC := Lib.hid (fun w' => cmp_w (n - rtN 2 n * rtN 2 n) (rtN 2 n) (by omega) (by omega) w')
    have SA : Hid (∀ w' : World, Calls Try.prog 63 #[wv (rtN 2 n), wv 1] w' fun e w'' => e = .returned (.tuple #[wv (rtN 2 n + 1), .bool false]) ∧ Below w'.heap.size w' w'') := Lib.hid fun w' => by
      have := add_w (rtN 2 n) 1 (by omega) h1M w'
      rw [Nat.mod_eq_of_lt (by omega), decide_eq_false (by omega)] at this
      exact this
    have SO : Hid (∀ (w' : World) (p : Nat), w'.heap[p]? = some (.cells #[.int .u64 1] 24 (0, 0)) → Calls Try.prog 31 #[.slice (some ⟨p, 0, none⟩) 1 1] w' fun e w'' => e = .returned (wv 1) ∧ Below w'.heap.size w' w'') := Lib.hid fun w' p h => of_one 1 (by omega) w' p h
    have hV : rdV n = if rtN 2 n < n - rtN 2 n * rtN 2 n then rtN 2 n + 1 else rtN 2 n := by unfold rdV; rw [if_pos hm]
    rw [hV]
    obtain ⟨H, hH⟩ : ∃ S, S = rtN 2 n := ⟨_, rfl⟩
    rw [← hH] at S1 SC SA ⊢
    obtain ⟨R, hR⟩ : ∃ R, R = n - H * H := ⟨_, rfl⟩
    rw [← hR] at S1 SC ⊢
    have hcmp : (0 < cmpN R H) ↔ H < R := by unfold cmpN; split <;> (try split) <;> omega
    obtain ⟨C, hC⟩ : ∃ m, m = cmpN R H := ⟨_, rfl⟩
    rw [← hC] at SC hcmp
    obtain ⟨H1, hH1⟩ : ∃ S, S = H + 1 := ⟨_, rfl⟩
    rw [← hH1] at SA ⊢
    by_cases hc : 0 < C
    · rw [if_pos (hcmp.1 hc)]
      clear hn hm e1 e2 e3 hS h128 h1M hV hH hR hcmp hC hH1
      go_enter Try.func103, Try.ntmps103
      have HB := Lib.hid (Below.refl w.heap.size w)
      have Gn := Lib.hid (alloc_new (w) (.cells (wcells n) 26))
      replace HB := Lib.hid (below_al HB.out (.cells (wcells n) 26))
      replace Gn := Lib.hid (keepAl (o' := .cells (wcells 0) 26) Gn.out)
      have Gz := Lib.hid (alloc_new' (w := (w).alloc (.cells (wcells n) 26)) (n := w.heap.size + 1) (.cells (wcells 0) 26) (by simp))
      replace HB := Lib.hid (below_al HB.out (.cells (wcells 0) 26))
      have cGn := cell_row Gn.out
      have cGz := cell_row Gz.out
      go_wp2_with fail
      refine (S1.out _).mono ?_
      rintro e w1 ⟨rfl, hb⟩
      clear cGn cGz
      replace HB := Lib.hid (below_then HB.out hb)
      replace Gn := Lib.hid ((hb.block _ (lt_of_heap Gn.out)).trans Gn.out)
      replace Gz := Lib.hid ((hb.block _ (lt_of_heap Gz.out)).trans Gz.out)
      clear hb
      have HZ := Lib.hid (lt_of_heap Gz.out)
      replace Gn := Lib.hid (keepAl (o' := .cells (wcells H) 26) Gn.out)
      replace Gz := Lib.hid (keepAl (o' := .cells (wcells H) 26) Gz.out)
      have Go := Lib.hid (alloc_new (w1) (.cells (wcells H) 26))
      replace HB := Lib.hid (below_al HB.out (.cells (wcells H) 26))
      replace Gn := Lib.hid (keepAl (o' := .cells (wcells R) 26) Gn.out)
      replace Gz := Lib.hid (keepAl (o' := .cells (wcells R) 26) Gz.out)
      replace Go := Lib.hid (keepAl (o' := .cells (wcells R) 26) Go.out)
      have Gr := Lib.hid (alloc_new' (w := (w1).alloc (.cells (wcells H) 26)) (n := w1.heap.size + 1) (.cells (wcells R) 26) (by simp))
      replace HB := Lib.hid (below_al HB.out (.cells (wcells R) 26))
      have cGn := cell_row Gn.out
      have cGz := cell_row Gz.out
      have cGo := cell_row Go.out
      have cGr := cell_row Gr.out
      go_wp2_with fail
      refine (SC.out _).mono ?_
      rintro e w2 ⟨rfl, hb⟩
      clear cGn cGz cGo cGr
      replace HB := Lib.hid (below_then HB.out hb)
      replace Gn := Lib.hid ((hb.block _ (lt_of_heap Gn.out)).trans Gn.out)
      replace Gz := Lib.hid ((hb.block _ (lt_of_heap Gz.out)).trans Gz.out)
      replace Go := Lib.hid ((hb.block _ (lt_of_heap Go.out)).trans Go.out)
      replace Gr := Lib.hid ((hb.block _ (lt_of_heap Gr.out)).trans Gr.out)
      clear hb
      have cGn := cell_row Gn.out
      have cGz := cell_row Gz.out
      have cGo := cell_row Go.out
      have cGr := cell_row Gr.out
      go_upto_region 3 with fail
      clear cGn cGz cGo cGr
      obtain ⟨wL, hw⟩ : ∃ wx, wx = w2 := ⟨_, rfl⟩
      rw [← hw] at Gn Gz Go Gr HB ⊢
      clear hw
      go_cut [] (fun wx => wx.heap[w.heap.size + 1]? = some (.cells (wcells 0) 26 (0, 0)) ∧ wx.heap[w1.heap.size]? = some (.cells (wcells H1) 26 (0, 0)) ∧ Below w.heap.size w wx)
      case first =>
        have k0 : ∀ j, wL.drew.cell? ⟨w1.heap.size, j, none⟩ = (wcells H)[j]? := cell_row Go.out
        have k1 : ∀ j, (wL.alloc (.cells #[.int .u64 1] 24)).drew.cell? ⟨w1.heap.size, j, none⟩ = (wcells H)[j]? := keepRowAl (w := wL) k0
        have kn := Lib.hid (show (wL.alloc (.cells #[.int .u64 1] 24)).drew.heap[wL.heap.size]? = some (.cells #[.int .u64 1] 24 (0, 0)) from alloc_new wL _)
        have hz := HZ.out
        go_region_with
          (first
            | (go_at_call 31
               refine (SO.out _ _ kn.out).mono ?_
               rintro e wA ⟨rfl, hb⟩
               have HB1 := Lib.hid (below_then (below_al HB.out _).drew hb)
               have GZ1 := Lib.hid ((hb.block _ (lt_of_heap (keepAl (o' := .cells #[.int .u64 1] 24 (0, 0)) Gz.out))).trans (keepAl (o' := .cells #[.int .u64 1] 24 (0, 0)) Gz.out))
               have GO1 := Lib.hid ((hb.block _ (lt_of_heap (keepAl (o' := .cells #[.int .u64 1] 24 (0, 0)) Go.out))).trans (keepAl (o' := .cells #[.int .u64 1] 24 (0, 0)) Go.out))
               have cA := cell_row GO1.out
               clear hb)
            | (go_at_call 63
               refine (SA.out _).mono ?_
               rintro e wB ⟨rfl, hb⟩
               have HB2 := Lib.hid (below_then HB1.out hb)
               have GZ2 := Lib.hid ((hb.block _ (lt_of_heap GZ1.out)).trans GZ1.out)
               have GO2 := Lib.hid ((hb.block _ (lt_of_heap GO1.out)).trans GO1.out)
               have st := st_row (P := Try.prog) GO2.out rfl H1
               clear hb))
        all_goals
          go_wp2
          go_meet
          exact ⟨(setRow_other _ _ _ _ (by omega)).trans GZ2.out, setRow_heap _ _ _ _ _ _ GO2.out, below_setRow' HB2.out (by omega) _⟩
      case rest =>
        obtain ⟨hg1, hg2, hbw⟩ := hcut
        replace Gz := Lib.hid hg1; replace Go := Lib.hid hg2; replace HB := Lib.hid hbw
        clear hg1 hg2 hbw
        have cz := cell_row Go.out
        have stz := st_row (P := Try.prog) Gz.out rfl (H1)
        replace Go := Lib.hid ((setRow_other (wc) (w.heap.size + 1) _ (wcells (H1)) (by (have := HZ.out; omega))).trans Go.out)
        replace Gz := Lib.hid (setRow_heap (wc) (w.heap.size + 1) _ (wcells (H1)) _ _ Gz.out)
        replace HB := Lib.hid (below_setRow' HB.out (show _ ≤ w.heap.size + 1 by (have := HZ.out; omega)) (wcells (H1)))
        have c1 := cell_row Gz.out
        go_wp2
        exact bodyPost_ret (v := .tuple #[wv H1, .int .i64 0]) (by simp [results, Try.results103, go_sem, c1]) rfl ⟨rfl, HB.out⟩
    · rw [if_neg (fun h => hc (hcmp.2 h))]
      clear hn hm e1 e2 e3 hS h128 h1M hV hH hR hcmp hC hH1
      go_enter Try.func103, Try.ntmps103
      have HB := Lib.hid (Below.refl w.heap.size w)
      have Gn := Lib.hid (alloc_new (w) (.cells (wcells n) 26))
      replace HB := Lib.hid (below_al HB.out (.cells (wcells n) 26))
      replace Gn := Lib.hid (keepAl (o' := .cells (wcells 0) 26) Gn.out)
      have Gz := Lib.hid (alloc_new' (w := (w).alloc (.cells (wcells n) 26)) (n := w.heap.size + 1) (.cells (wcells 0) 26) (by simp))
      replace HB := Lib.hid (below_al HB.out (.cells (wcells 0) 26))
      have cGn := cell_row Gn.out
      have cGz := cell_row Gz.out
      go_wp2_with fail
      refine (S1.out _).mono ?_
      rintro e w3 ⟨rfl, hb⟩
      clear cGn cGz
      replace HB := Lib.hid (below_then HB.out hb)
      replace Gn := Lib.hid ((hb.block _ (lt_of_heap Gn.out)).trans Gn.out)
      replace Gz := Lib.hid ((hb.block _ (lt_of_heap Gz.out)).trans Gz.out)
      clear hb
      have HZ := Lib.hid (lt_of_heap Gz.out)
      replace Gn := Lib.hid (keepAl (o' := .cells (wcells H) 26) Gn.out)
      replace Gz := Lib.hid (keepAl (o' := .cells (wcells H) 26) Gz.out)
      have Go := Lib.hid (alloc_new (w3) (.cells (wcells H) 26))
      replace HB := Lib.hid (below_al HB.out (.cells (wcells H) 26))
      replace Gn := Lib.hid (keepAl (o' := .cells (wcells R) 26) Gn.out)
      replace Gz := Lib.hid (keepAl (o' := .cells (wcells R) 26) Gz.out)
      replace Go := Lib.hid (keepAl (o' := .cells (wcells R) 26) Go.out)
      have Gr := Lib.hid (alloc_new' (w := (w3).alloc (.cells (wcells H) 26)) (n := w3.heap.size + 1) (.cells (wcells R) 26) (by simp))
      replace HB := Lib.hid (below_al HB.out (.cells (wcells R) 26))
      have cGn := cell_row Gn.out
      have cGz := cell_row Gz.out
      have cGo := cell_row Go.out
      have cGr := cell_row Gr.out
      go_wp2_with fail
      refine (SC.out _).mono ?_
      rintro e w4 ⟨rfl, hb⟩
      clear cGn cGz cGo cGr
      replace HB := Lib.hid (below_then HB.out hb)
      replace Gn := Lib.hid ((hb.block _ (lt_of_heap Gn.out)).trans Gn.out)
      replace Gz := Lib.hid ((hb.block _ (lt_of_heap Gz.out)).trans Gz.out)
      replace Go := Lib.hid ((hb.block _ (lt_of_heap Go.out)).trans Go.out)
      replace Gr := Lib.hid ((hb.block _ (lt_of_heap Gr.out)).trans Gr.out)
      clear hb
      have cz := cell_row Go.out
      have HZ2 := HZ
      have stz := st_row (P := Try.prog) Gz.out rfl (H)
      replace Gn := Lib.hid ((setRow_other (w4) (w.heap.size + 1) _ (wcells (H)) (by (have := HZ.out; have := HB.out.size; omega))).trans Gn.out)
      replace Go := Lib.hid ((setRow_other (w4) (w.heap.size + 1) _ (wcells (H)) (by (have := HZ.out; have := HB.out.size; omega))).trans Go.out)
      replace Gr := Lib.hid ((setRow_other (w4) (w.heap.size + 1) _ (wcells (H)) (by (have := HZ.out; have := HB.out.size; omega))).trans Gr.out)
      replace Gz := Lib.hid (setRow_heap (w4) (w.heap.size + 1) _ (wcells (H)) _ _ Gz.out)
      replace HB := Lib.hid (below_setRow' HB.out (show _ ≤ w.heap.size + 1 by (have := HZ.out; have := HB.out.size; omega)) (wcells (H)))
      have c1 := cell_row Gz.out
      go_wp2
      exact bodyPost_ret (v := .tuple #[wv H, .int .i64 0]) (by simp [results, Try.results103, go_sem, c1]) rfl ⟨rfl, HB.out⟩
  · obtain ⟨e1, e2, e3⟩ := rs_no hm
    rw [e1, e2, e3] at S1
    rw [e3, show rdV n = 0 by unfold rdV; rw [if_neg hm]]
    clear hn hm e1 e2 e3
    go_enter Try.func103, Try.ntmps103
    have HB := Lib.hid (Below.refl w.heap.size w)
    have Gn := Lib.hid (alloc_new (w) (.cells (wcells n) 26))
    replace HB := Lib.hid (below_al HB.out (.cells (wcells n) 26))
    replace Gn := Lib.hid (keepAl (o' := .cells (wcells 0) 26) Gn.out)
    have Gz := Lib.hid (alloc_new' (w := (w).alloc (.cells (wcells n) 26)) (n := w.heap.size + 1) (.cells (wcells 0) 26) (by simp))
    replace HB := Lib.hid (below_al HB.out (.cells (wcells 0) 26))
    have cGn := cell_row Gn.out
    have cGz := cell_row Gz.out
    go_wp2_with fail
    refine (S1.out _).mono ?_
    rintro e w5 ⟨rfl, hb⟩
    clear cGn cGz
    replace HB := Lib.hid (below_then HB.out hb)
    replace Gn := Lib.hid ((hb.block _ (lt_of_heap Gn.out)).trans Gn.out)
    replace Gz := Lib.hid ((hb.block _ (lt_of_heap Gz.out)).trans Gz.out)
    clear hb
    have HZ := Lib.hid (lt_of_heap Gz.out)
    replace Gn := Lib.hid (keepAl (o' := .cells (wcells 0) 26) Gn.out)
    replace Gz := Lib.hid (keepAl (o' := .cells (wcells 0) 26) Gz.out)
    have Go := Lib.hid (alloc_new (w5) (.cells (wcells 0) 26))
    replace HB := Lib.hid (below_al HB.out (.cells (wcells 0) 26))
    replace Gn := Lib.hid (keepAl (o' := .cells (wcells 0) 26) Gn.out)
    replace Gz := Lib.hid (keepAl (o' := .cells (wcells 0) 26) Gz.out)
    replace Go := Lib.hid (keepAl (o' := .cells (wcells 0) 26) Go.out)
    have Gr := Lib.hid (alloc_new' (w := (w5).alloc (.cells (wcells 0) 26)) (n := w5.heap.size + 1) (.cells (wcells 0) 26) (by simp))
    replace HB := Lib.hid (below_al HB.out (.cells (wcells 0) 26))
    have cz := cell_row Go.out
    have stz := st_row (P := Try.prog) Gz.out rfl (0)
    replace Gn := Lib.hid ((setRow_other (((w5).alloc (.cells (wcells 0) 26)).alloc (.cells (wcells 0) 26)) (w.heap.size + 1) _ (wcells (0)) (by (have := HZ.out; omega))).trans Gn.out)
    replace Go := Lib.hid ((setRow_other (((w5).alloc (.cells (wcells 0) 26)).alloc (.cells (wcells 0) 26)) (w.heap.size + 1) _ (wcells (0)) (by (have := HZ.out; omega))).trans Go.out)
    replace Gr := Lib.hid ((setRow_other (((w5).alloc (.cells (wcells 0) 26)).alloc (.cells (wcells 0) 26)) (w.heap.size + 1) _ (wcells (0)) (by (have := HZ.out; omega))).trans Gr.out)
    replace Gz := Lib.hid (setRow_heap (((w5).alloc (.cells (wcells 0) 26)).alloc (.cells (wcells 0) 26)) (w.heap.size + 1) _ (wcells (0)) _ _ Gz.out)
    replace HB := Lib.hid (below_setRow' HB.out (show _ ≤ w.heap.size + 1 by (have := HZ.out; omega)) (wcells (0)))
    have c1 := cell_row Gz.out
    go_wp2
    exact bodyPost_ret (v := .tuple #[wv 0, .int .i64 4]) (by simp [results, Try.results103, go_sem, c1]) rfl ⟨rfl, HB.out⟩
end Go.Proofs.Ytenkaobgoknlhaa
