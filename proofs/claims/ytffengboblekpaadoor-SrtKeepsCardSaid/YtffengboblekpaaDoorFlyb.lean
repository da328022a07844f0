/- THE WALKS of package fly, going on: a digit further. -/
import Derived.Test.YtffengboblekpaaDoorFly
import Derived.Test.YtffengboblekpaaDoorK17
namespace Go.Proofs.YtffengboblekpaaDoor
open Go Go.RowKit

theorem aggS : Agg Tryd.prog 86 16 := ⟨_, Tryd.underlying86, rfl, by kernel_rfl⟩
attribute [local go_sem ↓] Go.wp_at_zero Go.wp_at_succ
set_option maxRecDepth 100000 in
set_option maxHeartbeats 1000000 in
theorem next_no (q l : Nat) (d : Int) (hd : isDig d = false) (w : World) : Calls Tryd.prog 52 #[.agg (fc q l), .int .i64 d] w fun e w' => e = .returned (.tuple #[.agg (fc q l), .bool false]) ∧ Below w.heap.size w w' := by
  have SI := Lib.hid (fun w' => isF_any d w')
  rw [hd] at SI
  clear hd
  go_enter Tryd.func52, Tryd.ntmps52
  have HB := Lib.hid (Below.refl w.heap.size w)
  have Gs := Lib.hid (alloc_new (w) (.cells (fc q l) 86))
  replace HB := Lib.hid (below_al HB.out (.cells (fc q l) 86))
  replace Gs := Lib.hid (keepAl (o' := .cells (fc 0 0) 86) Gs.out)
  have Go := Lib.hid (alloc_new' (w := (w).alloc (.cells (fc q l) 86)) (n := w.heap.size + 1) (.cells (fc 0 0) 86) (by simp))
  replace HB := Lib.hid (below_al HB.out (.cells (fc 0 0) 86))
  have cGs := cell_row Gs.out
  have cGo := cell_row Go.out
  go_wp2_with fail
  refine (SI.out _).mono ?_
  rintro e w1 ⟨rfl, rfl⟩
  clear cGs cGo
  have cs := cell_row Gs.out
  have sto := st_16 (P := Tryd.prog) Go.out rfl (q) (l)
  replace Gs := Lib.hid ((setRow_other (((w).alloc (.cells (fc q l) 86)).alloc (.cells (fc 0 0) 86)) (w.heap.size + 1) _ (fc (q) (l)) (by (omega))).trans Gs.out)
  replace Go := Lib.hid (setRow_heap (((w).alloc (.cells (fc q l) 86)).alloc (.cells (fc 0 0) 86)) (w.heap.size + 1) _ (fc (q) (l)) _ _ Go.out)
  replace HB := Lib.hid (below_setRow' HB.out (show _ ≤ w.heap.size + 1 by (omega)) (fc (q) (l)))
  have cGs := cell_row Gs.out
  have cGo := cell_row Go.out
  go_wp2
  exact bodyPost_ret (v := .tuple #[.agg (fc q l), .bool false]) (res_ct Tryd.results52 _ _ _ _ _ _ _ rfl rfl Go.out aggS) rfl ⟨rfl, HB.out⟩
set_option maxRecDepth 100000 in
set_option maxHeartbeats 2000000 in
theorem next_w (z d : Int) (hd : isDig d = true) (w : World) : Calls Tryd.prog 52 #[.agg (fc (toW z) (toW (z - 1))), .int .i64 d] w fun e w' => e = .returned (.tuple #[.agg (fc (toW (4 * z + d)) (toW (4 * z + d - 1))), .bool true]) ∧ Below w.heap.size w w' := by
  have SI := Lib.hid (fun w' => isF_any d w')
  rw [hd] at SI
  obtain ⟨h1, h2⟩ := isDig_iff.1 hd
  rcases (show 0 < d ∨ d = 0 ∨ d < 0 by omega) with h0 | h0 | h0
  · obtain ⟨D, rfl⟩ := Int.eq_ofNat_of_zero_le (show 0 ≤ d by omega)
    have J1 := Lib.hid (fun w' => join_w (toW z) D (by omega) w')
    have J2 := Lib.hid (fun w' => join_w (toW z) (D - 1) (by omega) w')
    rw [join_toW z D (by omega)] at J1
    rw [join_toW z (D - 1) (by omega), show ((D - 1 : Nat) : Int) = (D : Int) - 1 by omega, ← Int.add_sub_assoc] at J2
    have hw : IntKind.i64.wrap ((D : Int) - 1) = (D : Int) - 1 := IntWalk.i64_in _ (by omega)
    obtain ⟨A, hA⟩ : ∃ x, x = toW (4 * z + (D : Int)) := ⟨_, rfl⟩
    obtain ⟨B, hB⟩ : ∃ x, x = toW (4 * z + (D : Int) - 1) := ⟨_, rfl⟩
    obtain ⟨Q, hQ⟩ : ∃ x, x = toW z := ⟨_, rfl⟩
    obtain ⟨L, hL⟩ : ∃ x, x = toW (z - 1) := ⟨_, rfl⟩
    rw [← hA] at J1 ⊢
    rw [← hB] at J2 ⊢
    rw [← hQ] at J1
    rw [← hQ] at J2
    rw [← hL, ← hQ]
    have e0 : (0 : Int) < (D : Int) := h0
    clear h0
    clear hA hB hQ hL h1 h2 hd
    go_enter Tryd.func52, Tryd.ntmps52
    have HB := Lib.hid (Below.refl w.heap.size w)
    have Gs := Lib.hid (alloc_new (w) (.cells (fc Q L) 86))
    replace HB := Lib.hid (below_al HB.out (.cells (fc Q L) 86))
    replace Gs := Lib.hid (keepAl (o' := .cells (fc 0 0) 86) Gs.out)
    have Go := Lib.hid (alloc_new' (w := (w).alloc (.cells (fc Q L) 86)) (n := w.heap.size + 1) (.cells (fc 0 0) 86) (by simp))
    replace HB := Lib.hid (below_al HB.out (.cells (fc 0 0) 86))
    have cGs := cell_row Gs.out
    have cGo := cell_row Go.out
    go_wp2_with fail
    refine (SI.out _).mono ?_
    rintro e w2 ⟨rfl, rfl⟩
    clear cGs cGo
    have cGs := cell_row Gs.out
    have cGo := cell_row Go.out
    go_upto_region 4 with fail
    clear cGs cGo
    obtain ⟨w3, hw⟩ : ∃ wx, wx = ((w).alloc (.cells (fc Q L) 86)).alloc (.cells (fc 0 0) 86) := ⟨_, rfl⟩
    rw [← hw] at Gs Go HB ⊢
    clear hw
    refine wp_region_store [⟨w.heap.size + 1, 86, .tmp 23⟩] (by kernel_rfl) (by kernel_rfl) (by kernel_rfl) rfl (List.pairwise_singleton _ _) ?_ ?_
    · intro r hr
      simp only [List.mem_cons, List.not_mem_nil, or_false] at hr
      subst hr
      exact ⟨_, Go.out, by kernel_rfl⟩
    have xGs := extR_row (B := w3.heap.size) (R := [⟨w.heap.size + 1, 86, .tmp 23⟩]) Gs.out (lt_of_heap Gs.out) (by intro r hr; simp only [List.mem_cons, List.not_mem_nil, or_false] at hr; subst hr <;> dsimp only <;> (omega))
    repeat (refine wpCalm_step (fun K hK => ?_); go_simp; first | (refine hK _ ?_; clear hK K) | (apply Exists.intro; refine ⟨fun _ => ?_, hK _ ?_⟩; (first | with_reducible exact J1.out _ | with_reducible exact J2.out _ | exact J1.out _ | exact J2.out _); clear hK K))
    refine wpCalm_nil ⟨?_, fun x hx => ?_⟩
    · intro r hr
      simp only [List.mem_cons, List.not_mem_nil, or_false] at hr
      subst hr <;> first | exact fits_wv (by kernel_rfl) _ | exact fits_16 (by kernel_rfl) _ _
    replace Go : Hid (x.val.heap[w.heap.size + 1]? = some (.cells (fc (A) (B)) 86 (0, 0))) := Lib.hid (hx ⟨w.heap.size + 1, 86, .tmp 23⟩ (by simp))
    replace Gs := Lib.hid (extR_block x Gs.out (lt_of_heap Gs.out) (by intro r hr; simp only [List.mem_cons, List.not_mem_nil, or_false] at hr; subst hr <;> dsimp only <;> (omega)))
    replace HB := Lib.hid (extR_below x HB.out HB.out.size (by intro r hr; simp only [List.mem_cons, List.not_mem_nil, or_false] at hr; subst hr <;> dsimp only <;> (omega)))
    clear hx xGs
    obtain ⟨w4, hw⟩ : ∃ wx, wx = x.val := ⟨_, rfl⟩
    rw [← hw] at Gs Go HB ⊢
    clear hw x
    have cGs := cell_row Gs.out
    have cGo := cell_row Go.out
    go_wp2
    exact bodyPost_ret (v := .tuple #[.agg (fc A B), .bool true]) (res_ct Tryd.results52 _ _ _ _ _ _ _ rfl rfl Go.out aggS) rfl ⟨rfl, HB.out⟩
  · subst h0
    have J1 : Hid (∀ w' : World, Calls Tryd.prog 86 #[wv (toW z), .int .i64 0] w' fun e w'' => e = .returned (wv (toW (4 * z + 0))) ∧ Below w'.heap.size w' w'') := Lib.hid fun w' => by
      have := join_w (toW z) 0 (by omega) w'
      rw [join_toW z 0 (by omega)] at this
      exact this
    have J2 : Hid (∀ w' : World, Calls Tryd.prog 86 #[wv (toW (z - 1)), .int .i64 3] w' fun e w'' => e = .returned (wv (toW (4 * z + 0 - 1))) ∧ Below w'.heap.size w' w'') := Lib.hid fun w' => by
      have := join_w (toW (z - 1)) 3 (by omega) w'
      rw [join_toW (z - 1) 3 (by omega), show 4 * (z - 1) + ((3 : Nat) : Int) = 4 * z + 0 - 1 by omega] at this
      exact this
    obtain ⟨A, hA⟩ : ∃ x, x = toW (4 * z + 0) := ⟨_, rfl⟩
    obtain ⟨B, hB⟩ : ∃ x, x = toW (4 * z + 0 - 1) := ⟨_, rfl⟩
    obtain ⟨Q, hQ⟩ : ∃ x, x = toW z := ⟨_, rfl⟩
    obtain ⟨L, hL⟩ : ∃ x, x = toW (z - 1) := ⟨_, rfl⟩
    rw [← hA] at J1 ⊢
    rw [← hB] at J2 ⊢
    rw [← hQ] at J1
    rw [← hL] at J2
    rw [← hL, ← hQ]
    clear hA hB hQ hL h1 h2 hd
    go_enter Tryd.func52, Tryd.ntmps52
    have HB := Lib.hid (Below.refl w.heap.size w)
    have Gs := Lib.hid (alloc_new (w) (.cells (fc Q L) 86))
    replace HB := Lib.hid (below_al HB.out (.cells (fc Q L) 86))
    replace Gs := Lib.hid (keepAl (o' := .cells (fc 0 0) 86) Gs.out)
    have Go := Lib.hid (alloc_new' (w := (w).alloc (.cells (fc Q L) 86)) (n := w.heap.size + 1) (.cells (fc 0 0) 86) (by simp))
    replace HB := Lib.hid (below_al HB.out (.cells (fc 0 0) 86))
    have cGs := cell_row Gs.out
    have cGo := cell_row Go.out
    go_wp2_with fail
    refine (SI.out _).mono ?_
    rintro e w5 ⟨rfl, rfl⟩
    clear cGs cGo
    have cGs := cell_row Gs.out
    have cGo := cell_row Go.out
    go_upto_region 6 with fail
    clear cGs cGo
    obtain ⟨w6, hw⟩ : ∃ wx, wx = ((w).alloc (.cells (fc Q L) 86)).alloc (.cells (fc 0 0) 86) := ⟨_, rfl⟩
    rw [← hw] at Gs Go HB ⊢
    clear hw
    refine wp_region_store [⟨w.heap.size + 1, 86, .tmp 33⟩] (by kernel_rfl) (by kernel_rfl) (by kernel_rfl) rfl (List.pairwise_singleton _ _) ?_ ?_
    · intro r hr
      simp only [List.mem_cons, List.not_mem_nil, or_false] at hr
      subst hr
      exact ⟨_, Go.out, by kernel_rfl⟩
    have xGs := extR_row (B := w6.heap.size) (R := [⟨w.heap.size + 1, 86, .tmp 33⟩]) Gs.out (lt_of_heap Gs.out) (by intro r hr; simp only [List.mem_cons, List.not_mem_nil, or_false] at hr; subst hr <;> dsimp only <;> (omega))
    repeat (refine wpCalm_step (fun K hK => ?_); go_simp; first | (refine hK _ ?_; clear hK K) | (apply Exists.intro; refine ⟨fun _ => ?_, hK _ ?_⟩; (first | with_reducible exact J1.out _ | with_reducible exact J2.out _ | exact J1.out _ | exact J2.out _); clear hK K))
    refine wpCalm_nil ⟨?_, fun x hx => ?_⟩
    · intro r hr
      simp only [List.mem_cons, List.not_mem_nil, or_false] at hr
      subst hr <;> first | exact fits_wv (by kernel_rfl) _ | exact fits_16 (by kernel_rfl) _ _
    replace Go : Hid (x.val.heap[w.heap.size + 1]? = some (.cells (fc (A) (B)) 86 (0, 0))) := Lib.hid (hx ⟨w.heap.size + 1, 86, .tmp 33⟩ (by simp))
    replace Gs := Lib.hid (extR_block x Gs.out (lt_of_heap Gs.out) (by intro r hr; simp only [List.mem_cons, List.not_mem_nil, or_false] at hr; subst hr <;> dsimp only <;> (omega)))
    replace HB := Lib.hid (extR_below x HB.out HB.out.size (by intro r hr; simp only [List.mem_cons, List.not_mem_nil, or_false] at hr; subst hr <;> dsimp only <;> (omega)))
    clear hx xGs
    obtain ⟨w7, hw⟩ : ∃ wx, wx = x.val := ⟨_, rfl⟩
    rw [← hw] at Gs Go HB ⊢
    clear hw x
    have cGs := cell_row Gs.out
    have cGo := cell_row Go.out
    go_wp2
    exact bodyPost_ret (v := .tuple #[.agg (fc A B), .bool true]) (res_ct Tryd.results52 _ _ _ _ _ _ _ rfl rfl Go.out aggS) rfl ⟨rfl, HB.out⟩
  · have hj : ∀ (x : Nat) (y : Int), x ≤ 3 → (x : Int) = y → ∀ w' : World, Calls Tryd.prog 86 #[wv (toW (z - 1)), .int .i64 y] w' fun e w'' => e = .returned (wv (toW (4 * z - 4 + y))) ∧ Below w'.heap.size w' w'' := fun x y hx hy w' => by
      have := join_w (toW (z - 1)) x hx w'
      rw [join_toW (z - 1) x hx, hy, show 4 * (z - 1) + y = 4 * z - 4 + y by omega] at this
      exact this
    have J1 := Lib.hid (hj (4 + d).toNat (4 + d) (by omega) (by omega))
    have J2 := Lib.hid (hj (3 + d).toNat (3 + d) (by omega) (by omega))
    rw [show 4 * z - 4 + (4 + d) = 4 * z + d by omega] at J1
    rw [show 4 * z - 4 + (3 + d) = 4 * z + d - 1 by omega] at J2
    have hw1 : IntKind.i64.wrap (4 + d) = 4 + d := IntWalk.i64_in _ (by omega)
    have hw2 : IntKind.i64.wrap (3 + d) = 3 + d := IntWalk.i64_in _ (by omega)
    obtain ⟨A, hA⟩ : ∃ x, x = toW (4 * z + d) := ⟨_, rfl⟩
    obtain ⟨B, hB⟩ : ∃ x, x = toW (4 * z + d - 1) := ⟨_, rfl⟩
    obtain ⟨Q, hQ⟩ : ∃ x, x = toW z := ⟨_, rfl⟩
    obtain ⟨L, hL⟩ : ∃ x, x = toW (z - 1) := ⟨_, rfl⟩
    rw [← hA] at J1 ⊢
    rw [← hB] at J2 ⊢
    rw [← hL] at J1
    rw [← hL] at J2
    rw [← hL, ← hQ]
    have e0 : ¬ (0 : Int) < d := by omega
    have e1 : ¬ d = 0 := by omega
    have e2 : (d == 0) = false := by simp [e1]
    clear h0 hj e1
    clear hA hB hQ hL h1 h2 hd
    go_enter Tryd.func52, Tryd.ntmps52
    have HB := Lib.hid (Below.refl w.heap.size w)
    have Gs := Lib.hid (alloc_new (w) (.cells (fc Q L) 86))
    replace HB := Lib.hid (below_al HB.out (.cells (fc Q L) 86))
    replace Gs := Lib.hid (keepAl (o' := .cells (fc 0 0) 86) Gs.out)
    have Go := Lib.hid (alloc_new' (w := (w).alloc (.cells (fc Q L) 86)) (n := w.heap.size + 1) (.cells (fc 0 0) 86) (by simp))
    replace HB := Lib.hid (below_al HB.out (.cells (fc 0 0) 86))
    have cGs := cell_row Gs.out
    have cGo := cell_row Go.out
    go_wp2_with fail
    refine (SI.out _).mono ?_
    rintro e w8 ⟨rfl, rfl⟩
    clear cGs cGo
    have cGs := cell_row Gs.out
    have cGo := cell_row Go.out
    go_upto_region 7 with fail
    clear cGs cGo
    obtain ⟨w9, hw⟩ : ∃ wx, wx = ((w).alloc (.cells (fc Q L) 86)).alloc (.cells (fc 0 0) 86) := ⟨_, rfl⟩
    rw [← hw] at Gs Go HB ⊢
    clear hw
    refine wp_region_store [⟨w.heap.size + 1, 86, .tmp 44⟩] (by kernel_rfl) (by kernel_rfl) (by kernel_rfl) rfl (List.pairwise_singleton _ _) ?_ ?_
    · intro r hr
      simp only [List.mem_cons, List.not_mem_nil, or_false] at hr
      subst hr
      exact ⟨_, Go.out, by kernel_rfl⟩
    have xGs := extR_row (B := w9.heap.size) (R := [⟨w.heap.size + 1, 86, .tmp 44⟩]) Gs.out (lt_of_heap Gs.out) (by intro r hr; simp only [List.mem_cons, List.not_mem_nil, or_false] at hr; subst hr <;> dsimp only <;> (omega))
    repeat (refine wpCalm_step (fun K hK => ?_); go_simp; first | (refine hK _ ?_; clear hK K) | (apply Exists.intro; refine ⟨fun _ => ?_, hK _ ?_⟩; (first | with_reducible exact J1.out _ | with_reducible exact J2.out _ | exact J1.out _ | exact J2.out _); clear hK K))
    refine wpCalm_nil ⟨?_, fun x hx => ?_⟩
    · intro r hr
      simp only [List.mem_cons, List.not_mem_nil, or_false] at hr
      subst hr <;> first | exact fits_wv (by kernel_rfl) _ | exact fits_16 (by kernel_rfl) _ _
    replace Go : Hid (x.val.heap[w.heap.size + 1]? = some (.cells (fc (A) (B)) 86 (0, 0))) := Lib.hid (hx ⟨w.heap.size + 1, 86, .tmp 44⟩ (by simp))
    replace Gs := Lib.hid (extR_block x Gs.out (lt_of_heap Gs.out) (by intro r hr; simp only [List.mem_cons, List.not_mem_nil, or_false] at hr; subst hr <;> dsimp only <;> (omega)))
    replace HB := Lib.hid (extR_below x HB.out HB.out.size (by intro r hr; simp only [List.mem_cons, List.not_mem_nil, or_false] at hr; subst hr <;> dsimp only <;> (omega)))
    clear hx xGs
    obtain ⟨w10, hw⟩ : ∃ wx, wx = x.val := ⟨_, rfl⟩
    rw [← hw] at Gs Go HB ⊢
    clear hw x
    have cGs := cell_row Gs.out
    have cGo := cell_row Go.out
    go_wp2
    exact bodyPost_ret (v := .tuple #[.agg (fc A B), .bool true]) (res_ct Tryd.results52 _ _ _ _ _ _ _ rfl rfl Go.out aggS) rfl ⟨rfl, HB.out⟩
end Go.Proofs.YtffengboblekpaaDoor
