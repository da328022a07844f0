/- THE WALKS of package mode's reference, and of its laws' example. -/
import Derived.Test.YtenkaobgoknlhaaMode3
namespace Go.Proofs.Ytenkaobgoknlhaa
open Go Go.RowKit

attribute [local go_sem ↓] Go.wp_at_zero Go.wp_at_succ
set_option maxRecDepth 100000 in
set_option maxHeartbeats 4000000 in
theorem rcut_any (a : Nat) (n : Int) (more : Bool) (m : Int) (neg : Bool) (w : World) (ha : a < M) :
    Calls Try.prog 88 #[wv a, .int .i64 n, .bool more, .int .i64 m, .bool neg] w fun e w' => e = .returned (.tuple #[wv (cutV a n more m neg), .bool (cutB a n more m)]) ∧ Below w.heap.size w w' := by
  have SI := Lib.hid (fun w' => rmode_is m w')
  by_cases hm : isMode m = true
  · have hhM := hiN_lt ha n
    have hMM : M < BIG := M_small
    have SR := Lib.hid (fun w' => rrest_any a n more w' ha)
    have S1 := Lib.hid (fun w' => big_any a ha w')
    have S2 : Hid (∀ (v : Value) (w' : World), IsBig w' v a → Calls Try.prog 34 #[v, .int .i64 (min (max n 0) 700)] w' (GivesBig (hiN a n) w')) := Lib.hid fun v w' h => by
      rw [clamp7_eq]
      exact rshr_any v a (clamp7 n) w' (small_M ha) (by have := clamp7_le n; omega) h
    have S3 := Lib.hid (fun v w' h => odd_any v (hiN a n) w' (small_M hhM) h)
    have S4 := Lib.hid (fun w' => rgrows_any m neg ((hiN a n).testBit 0) (restN a n more) w')
    have S5 := Lib.hid (fun w' => small_any 1 w' (by omega))
    have S6 := Lib.hid (fun v v2 w' h h' => add_any v v2 (hiN a n) 1 w' (small_M hhM) one_small h h')
    have S7 := Lib.hid (fun v w' h => wide_any v (hiN a n) w' (small_M hhM) h)
    rw [Nat.mod_eq_of_lt hhM] at S7
    have S8 := Lib.hid (fun v w' h => wide_any v (hiN a n + 1) w' (by omega) h)
    have HV : Hid (cutV a n more m neg = if upN a n more m neg then (hiN a n + 1) % M else hiN a n) := Lib.hid (by unfold cutV; rw [if_pos hm])
    have hrr := restN_range a n more
    have HB2 : Hid (cutB a n more m = decide (0 < restN a n more)) := Lib.hid (by
      unfold cutB; rw [hm, Bool.true_and]
      by_cases h : restN a n more = 0
      · rw [h]; rfl
      · rw [decide_eq_true (by omega)]; simp [h])
    rw [hm] at SI
    have HUP : Hid (growsN m neg ((hiN a n).testBit 0) (restN a n more) = upN a n more m neg) := Lib.hid rfl
    rw [HUP.out] at S4
    obtain ⟨R, hR⟩ : ∃ R, R = restN a n more := ⟨_, rfl⟩
    rw [← hR] at SR S4 HB2
    obtain ⟨H, hH⟩ : ∃ H, H = hiN a n := ⟨_, rfl⟩
    rw [← hH] at S2 S3 S4 S6 S7 S8 HV
    obtain ⟨bt, hb⟩ : ∃ b, b = H.testBit 0 := ⟨_, rfl⟩
    rw [← hb] at S3 S4
    obtain ⟨U, hU⟩ : ∃ U, U = upN a n more m neg := ⟨_, rfl⟩
    rw [← hU] at S4 HV
    obtain ⟨f1, hf⟩ : ∃ b, b = decide (M ≤ H) := ⟨_, rfl⟩
    rw [← hf] at S7
    obtain ⟨f2, hf2⟩ : ∃ b, b = decide (M ≤ H + 1) := ⟨_, rfl⟩
    rw [← hf2] at S8
    obtain ⟨H1, hH1⟩ : ∃ b, b = (H + 1) % M := ⟨_, rfl⟩
    rw [← hH1] at S8 HV
    obtain ⟨HP, hHP⟩ : ∃ b, b = H + 1 := ⟨_, rfl⟩
    rw [← hHP] at S6 S8
    clear hR hH hb hU hf hf2 hH1 hHP HUP ha hm hrr hhM hMM
    cases U
    · rw [if_neg Bool.false_ne_true] at HV
      go_enter Try.func88, Try.ntmps88
      have HB := Lib.hid (Below.refl w.heap.size w)
      have Ga := Lib.hid (alloc_new (w) (.cells (wcells a) 26))
      replace HB := Lib.hid (below_al HB.out (.cells (wcells a) 26))
      replace Ga := Lib.hid (keepAl (o' := .cells (wcells 0) 26) Ga.out)
      have Gz := Lib.hid (alloc_new' (w := (w).alloc (.cells (wcells a) 26)) (n := w.heap.size + 1) (.cells (wcells 0) 26) (by simp))
      replace HB := Lib.hid (below_al HB.out (.cells (wcells 0) 26))
      have cGa := cell_row Ga.out
      have cGz := cell_row Gz.out
      go_wp2_with fail
      refine (SI.out _).mono ?_
      rintro e w1 ⟨rfl, hb⟩
      clear cGa cGz
      replace HB := Lib.hid (below_then HB.out hb)
      replace Ga := Lib.hid ((hb.block _ (lt_of_heap Ga.out)).trans Ga.out)
      replace Gz := Lib.hid ((hb.block _ (lt_of_heap Gz.out)).trans Gz.out)
      clear hb
      have cGa := cell_row Ga.out
      have cGz := cell_row Gz.out
      go_wp2_with fail
      refine (SR.out _).mono ?_
      rintro e w2 ⟨rfl, hb⟩
      clear cGa cGz
      replace HB := Lib.hid (below_then HB.out hb)
      replace Ga := Lib.hid ((hb.block _ (lt_of_heap Ga.out)).trans Ga.out)
      replace Gz := Lib.hid ((hb.block _ (lt_of_heap Gz.out)).trans Gz.out)
      clear hb
      have cGa := cell_row Ga.out
      have cGz := cell_row Gz.out
      go_wp2_with fail
      refine (S1.out _).mono ?_
      rintro e w3 ⟨ra, rfl, hr, hb⟩
      clear cGa cGz
      replace HB := Lib.hid (below_then HB.out hb)
      replace Ga := Lib.hid ((hb.block _ (lt_of_heap Ga.out)).trans Ga.out)
      replace Gz := Lib.hid ((hb.block _ (lt_of_heap Gz.out)).trans Gz.out)
      have Ra := Lib.hid hr
      clear hr hb
      have cGa := cell_row Ga.out
      have cGz := cell_row Gz.out
      go_wp2_with fail
      refine (S2.out _ _ Ra.out).mono ?_
      rintro e w4 ⟨rh, rfl, hr, hb⟩
      clear cGa cGz
      replace HB := Lib.hid (below_then HB.out hb)
      replace Ga := Lib.hid ((hb.block _ (lt_of_heap Ga.out)).trans Ga.out)
      replace Gz := Lib.hid ((hb.block _ (lt_of_heap Gz.out)).trans Gz.out)
      replace Ra := Lib.hid (Ra.out.below hb)
      have Rh := Lib.hid hr
      clear hr hb
      have cGa := cell_row Ga.out
      have cGz := cell_row Gz.out
      go_wp2_with fail
      refine (S3.out _ _ Rh.out).mono ?_
      rintro e w5 ⟨rfl, hb⟩
      clear cGa cGz
      replace HB := Lib.hid (below_then HB.out hb)
      replace Ga := Lib.hid ((hb.block _ (lt_of_heap Ga.out)).trans Ga.out)
      replace Gz := Lib.hid ((hb.block _ (lt_of_heap Gz.out)).trans Gz.out)
      replace Rh := Lib.hid (Rh.out.below hb)
      clear hb
      have cGa := cell_row Ga.out
      have cGz := cell_row Gz.out
      go_wp2_with fail
      refine (S4.out _).mono ?_
      rintro e w6 ⟨rfl, hb⟩
      clear cGa cGz
      replace HB := Lib.hid (below_then HB.out hb)
      replace Ga := Lib.hid ((hb.block _ (lt_of_heap Ga.out)).trans Ga.out)
      replace Gz := Lib.hid ((hb.block _ (lt_of_heap Gz.out)).trans Gz.out)
      replace Rh := Lib.hid (Rh.out.below hb)
      clear hb
      have cGa := cell_row Ga.out
      have cGz := cell_row Gz.out
      go_wp2_with fail
      refine (S7.out _ _ Rh.out).mono ?_
      rintro e w7 ⟨rfl, hb⟩
      clear cGa cGz
      replace HB := Lib.hid (below_then HB.out hb)
      replace Ga := Lib.hid ((hb.block _ (lt_of_heap Ga.out)).trans Ga.out)
      replace Gz := Lib.hid ((hb.block _ (lt_of_heap Gz.out)).trans Gz.out)
      replace Rh := Lib.hid (Rh.out.below hb)
      clear hb
      have HZ := Lib.hid (lt_of_heap Gz.out)
      replace Ga := Lib.hid (keepAl (o' := .cells (wcells H) 26) Ga.out)
      replace Gz := Lib.hid (keepAl (o' := .cells (wcells H) 26) Gz.out)
      have Go := Lib.hid (alloc_new (w7) (.cells (wcells H) 26))
      replace HB := Lib.hid (below_al HB.out (.cells (wcells H) 26))
      have cz := cell_row Go.out
      have stz := st_row (P := Try.prog) Gz.out rfl (H)
      replace Ga := Lib.hid ((setRow_other ((w7).alloc (.cells (wcells H) 26)) (w.heap.size + 1) _ (wcells (H)) (by (have := HZ.out; omega))).trans Ga.out)
      replace Go := Lib.hid ((setRow_other ((w7).alloc (.cells (wcells H) 26)) (w.heap.size + 1) _ (wcells (H)) (by (have := HZ.out; omega))).trans Go.out)
      replace Gz := Lib.hid (setRow_heap ((w7).alloc (.cells (wcells H) 26)) (w.heap.size + 1) _ (wcells (H)) _ _ Gz.out)
      replace HB := Lib.hid (below_setRow' HB.out (show _ ≤ w.heap.size + 1 by (have := HZ.out; omega)) (wcells (H)))
      have c1 := cell_row Gz.out
      go_wp2
      exact bodyPost_ret (v := .tuple #[wv (H), .bool (decide (0 < R))]) (by simp [results, Try.results88, go_sem, c1]) rfl ⟨by rw [HV.out, HB2.out], HB.out⟩
    · rw [if_pos rfl] at HV
      go_enter Try.func88, Try.ntmps88
      have HB := Lib.hid (Below.refl w.heap.size w)
      have Ga := Lib.hid (alloc_new (w) (.cells (wcells a) 26))
      replace HB := Lib.hid (below_al HB.out (.cells (wcells a) 26))
      replace Ga := Lib.hid (keepAl (o' := .cells (wcells 0) 26) Ga.out)
      have Gz := Lib.hid (alloc_new' (w := (w).alloc (.cells (wcells a) 26)) (n := w.heap.size + 1) (.cells (wcells 0) 26) (by simp))
      replace HB := Lib.hid (below_al HB.out (.cells (wcells 0) 26))
      have cGa := cell_row Ga.out
      have cGz := cell_row Gz.out
      go_wp2_with fail
      refine (SI.out _).mono ?_
      rintro e w8 ⟨rfl, hb⟩
      clear cGa cGz
      replace HB := Lib.hid (below_then HB.out hb)
      replace Ga := Lib.hid ((hb.block _ (lt_of_heap Ga.out)).trans Ga.out)
      replace Gz := Lib.hid ((hb.block _ (lt_of_heap Gz.out)).trans Gz.out)
      clear hb
      have cGa := cell_row Ga.out
      have cGz := cell_row Gz.out
      go_wp2_with fail
      refine (SR.out _).mono ?_
      rintro e w9 ⟨rfl, hb⟩
      clear cGa cGz
      replace HB := Lib.hid (below_then HB.out hb)
      replace Ga := Lib.hid ((hb.block _ (lt_of_heap Ga.out)).trans Ga.out)
      replace Gz := Lib.hid ((hb.block _ (lt_of_heap Gz.out)).trans Gz.out)
      clear hb
      have cGa := cell_row Ga.out
      have cGz := cell_row Gz.out
      go_wp2_with fail
      refine (S1.out _).mono ?_
      rintro e w10 ⟨ra, rfl, hr, hb⟩
      clear cGa cGz
      replace HB := Lib.hid (below_then HB.out hb)
      replace Ga := Lib.hid ((hb.block _ (lt_of_heap Ga.out)).trans Ga.out)
      replace Gz := Lib.hid ((hb.block _ (lt_of_heap Gz.out)).trans Gz.out)
      have Ra := Lib.hid hr
      clear hr hb
      have cGa := cell_row Ga.out
      have cGz := cell_row Gz.out
      go_wp2_with fail
      refine (S2.out _ _ Ra.out).mono ?_
      rintro e w11 ⟨rh, rfl, hr, hb⟩
      clear cGa cGz
      replace HB := Lib.hid (below_then HB.out hb)
      replace Ga := Lib.hid ((hb.block _ (lt_of_heap Ga.out)).trans Ga.out)
      replace Gz := Lib.hid ((hb.block _ (lt_of_heap Gz.out)).trans Gz.out)
      replace Ra := Lib.hid (Ra.out.below hb)
      have Rh := Lib.hid hr
      clear hr hb
      have cGa := cell_row Ga.out
      have cGz := cell_row Gz.out
      go_wp2_with fail
      refine (S3.out _ _ Rh.out).mono ?_
      rintro e w12 ⟨rfl, hb⟩
      clear cGa cGz
      replace HB := Lib.hid (below_then HB.out hb)
      replace Ga := Lib.hid ((hb.block _ (lt_of_heap Ga.out)).trans Ga.out)
      replace Gz := Lib.hid ((hb.block _ (lt_of_heap Gz.out)).trans Gz.out)
      replace Rh := Lib.hid (Rh.out.below hb)
      clear hb
      have cGa := cell_row Ga.out
      have cGz := cell_row Gz.out
      go_wp2_with fail
      refine (S4.out _).mono ?_
      rintro e w13 ⟨rfl, hb⟩
      clear cGa cGz
      replace HB := Lib.hid (below_then HB.out hb)
      replace Ga := Lib.hid ((hb.block _ (lt_of_heap Ga.out)).trans Ga.out)
      replace Gz := Lib.hid ((hb.block _ (lt_of_heap Gz.out)).trans Gz.out)
      replace Rh := Lib.hid (Rh.out.below hb)
      clear hb
      have cGa := cell_row Ga.out
      have cGz := cell_row Gz.out
      go_wp2_with fail
      refine (S5.out _).mono ?_
      rintro e w14 ⟨ro, rfl, hr, hb⟩
      clear cGa cGz
      replace HB := Lib.hid (below_then HB.out hb)
      replace Ga := Lib.hid ((hb.block _ (lt_of_heap Ga.out)).trans Ga.out)
      replace Gz := Lib.hid ((hb.block _ (lt_of_heap Gz.out)).trans Gz.out)
      replace Rh := Lib.hid (Rh.out.below hb)
      have Ro := Lib.hid hr
      clear hr hb
      have cGa := cell_row Ga.out
      have cGz := cell_row Gz.out
      go_wp2_with fail
      refine (S6.out _ _ _ Rh.out Ro.out).mono ?_
      rintro e w15 ⟨rp, rfl, hr, hb⟩
      clear cGa cGz
      replace HB := Lib.hid (below_then HB.out hb)
      replace Ga := Lib.hid ((hb.block _ (lt_of_heap Ga.out)).trans Ga.out)
      replace Gz := Lib.hid ((hb.block _ (lt_of_heap Gz.out)).trans Gz.out)
      replace Rh := Lib.hid (Rh.out.below hb)
      replace Ro := Lib.hid (Ro.out.below hb)
      have Rp := Lib.hid hr
      clear hr hb
      have cGa := cell_row Ga.out
      have cGz := cell_row Gz.out
      go_wp2_with fail
      refine (S8.out _ _ Rp.out).mono ?_
      rintro e w16 ⟨rfl, hb⟩
      clear cGa cGz
      replace HB := Lib.hid (below_then HB.out hb)
      replace Ga := Lib.hid ((hb.block _ (lt_of_heap Ga.out)).trans Ga.out)
      replace Gz := Lib.hid ((hb.block _ (lt_of_heap Gz.out)).trans Gz.out)
      replace Rp := Lib.hid (Rp.out.below hb)
      clear hb
      have HZ := Lib.hid (lt_of_heap Gz.out)
      replace Ga := Lib.hid (keepAl (o' := .cells (wcells H1) 26) Ga.out)
      replace Gz := Lib.hid (keepAl (o' := .cells (wcells H1) 26) Gz.out)
      have Go := Lib.hid (alloc_new (w16) (.cells (wcells H1) 26))
      replace HB := Lib.hid (below_al HB.out (.cells (wcells H1) 26))
      have cz := cell_row Go.out
      have stz := st_row (P := Try.prog) Gz.out rfl (H1)
      replace Ga := Lib.hid ((setRow_other ((w16).alloc (.cells (wcells H1) 26)) (w.heap.size + 1) _ (wcells (H1)) (by (have := HZ.out; omega))).trans Ga.out)
      replace Go := Lib.hid ((setRow_other ((w16).alloc (.cells (wcells H1) 26)) (w.heap.size + 1) _ (wcells (H1)) (by (have := HZ.out; omega))).trans Go.out)
      replace Gz := Lib.hid (setRow_heap ((w16).alloc (.cells (wcells H1) 26)) (w.heap.size + 1) _ (wcells (H1)) _ _ Gz.out)
      replace HB := Lib.hid (below_setRow' HB.out (show _ ≤ w.heap.size + 1 by (have := HZ.out; omega)) (wcells (H1)))
      have c1 := cell_row Gz.out
      go_wp2
      exact bodyPost_ret (v := .tuple #[wv (H1), .bool (decide (0 < R))]) (by simp [results, Try.results88, go_sem, c1]) rfl ⟨by rw [HV.out, HB2.out], HB.out⟩
  · have hm' : isMode m = false := by simpa using hm
    have HV : Hid (cutV a n more m neg = 0) := Lib.hid (by unfold cutV; rw [hm']; rfl)
    have HB2 : Hid (cutB a n more m = false) := Lib.hid (by unfold cutB; rw [hm']; rfl)
    rw [hm'] at SI
    clear hm hm' ha
    go_enter Try.func88, Try.ntmps88
    have HB := Lib.hid (Below.refl w.heap.size w)
    have Ga := Lib.hid (alloc_new (w) (.cells (wcells a) 26))
    replace HB := Lib.hid (below_al HB.out (.cells (wcells a) 26))
    replace Ga := Lib.hid (keepAl (o' := .cells (wcells 0) 26) Ga.out)
    have Gz := Lib.hid (alloc_new' (w := (w).alloc (.cells (wcells a) 26)) (n := w.heap.size + 1) (.cells (wcells 0) 26) (by simp))
    replace HB := Lib.hid (below_al HB.out (.cells (wcells 0) 26))
    have cGa := cell_row Ga.out
    have cGz := cell_row Gz.out
    go_wp2_with fail
    refine (SI.out _).mono ?_
    rintro e w17 ⟨rfl, hb⟩
    clear cGa cGz
    replace HB := Lib.hid (below_then HB.out hb)
    replace Ga := Lib.hid ((hb.block _ (lt_of_heap Ga.out)).trans Ga.out)
    replace Gz := Lib.hid ((hb.block _ (lt_of_heap Gz.out)).trans Gz.out)
    clear hb
    have stz := st_row (P := Try.prog) Gz.out rfl (0)
    replace Ga := Lib.hid ((setRow_other (w17) (w.heap.size + 1) _ (wcells (0)) (by (omega))).trans Ga.out)
    replace Gz := Lib.hid (setRow_heap (w17) (w.heap.size + 1) _ (wcells (0)) _ _ Gz.out)
    replace HB := Lib.hid (below_setRow' HB.out (show _ ≤ w.heap.size + 1 by (omega)) (wcells (0)))
    have c1 := cell_row Gz.out
    go_wp2
    exact bodyPost_ret (v := .tuple #[wv 0, .bool false]) (by simp [results, Try.results88, go_sem, c1]) rfl ⟨by rw [HV.out, HB2.out], HB.out⟩

theorem lit_M (x : Nat) (h : x ≤ 1000) : x < M := by
  rw [M_eq]; exact Nat.lt_of_lt_of_le (show x < P2 64 by rw [P2_64]; omega) (P2_le (by omega))
theorem clamp7_2 : clamp7 2 = 2 := rfl
theorem P2_2 : P2 2 = 4 := by rw [P2_eq]
theorem cut_6 : cutV 6 2 false 1 false = 2 ∧ cutB 6 2 false 1 = true ∧ cutV 6 2 false 3 false = 1 ∧ cutV 2 2 false 2 false = 1 := by
  have h6 : restN 6 2 false = 2 := by
    have := restN_mid 6 2 (by decide) (by decide) false
    rw [P2_2, P2_1] at this
    exact this
  have h2 : restN 2 2 false = 2 := by
    have := restN_mid 2 2 (by decide) (by decide) false
    rw [P2_2, P2_1] at this
    exact this
  have hh6 : hiN 6 2 = 1 := by unfold hiN; rw [clamp7_2, P2_2]
  have hh2 : hiN 2 2 = 0 := by unfold hiN; rw [clamp7_2, P2_2]
  have u1 : upN 6 2 false 1 false = true := by unfold upN; rw [hh6, h6]; rfl
  have u2 : upN 6 2 false 3 false = false := by unfold upN; rw [hh6, h6]; rfl
  have u3 : upN 2 2 false 2 false = true := by unfold upN; rw [hh2, h2]; rfl
  refine ⟨?_, ?_, ?_, ?_⟩
  · unfold cutV; rw [u1, hh6, if_pos (by rfl), if_pos rfl, Nat.mod_eq_of_lt (lit_M _ (by decide))]
  · unfold cutB; rw [h6]; rfl
  · unfold cutV; rw [u2, hh6]; rfl
  · unfold cutV; rw [u3, hh2, if_pos (by rfl), if_pos rfl, Nat.mod_eq_of_lt (lit_M _ (by decide))]

set_option maxRecDepth 100000 in
set_option maxHeartbeats 1000000 in
theorem awake08_any (w : World) : Calls Try.prog 86 #[] w fun e w' => e = .returned (.bool true) ∧ Below w.heap.size w w' := by
  obtain ⟨e1, e2, e3, e4⟩ := cut_6
  have S1 := Lib.hid (fun w' => cut_w 6 2 false 1 false w' (lit_M _ (by decide)) (by decide) (by decide))
  rw [e1, e2] at S1
  have S2 := Lib.hid (fun w' => cut_w 6 2 false 3 false w' (lit_M _ (by decide)) (by decide) (by decide))
  rw [e3] at S2
  have S3 := Lib.hid (fun w' => cut_w 2 2 false 2 false w' (lit_M _ (by decide)) (by decide) (by decide))
  rw [e4] at S3
  obtain ⟨f2, hf2⟩ : ∃ b, b = cutB 6 2 false 3 := ⟨_, rfl⟩
  rw [← hf2] at S2
  obtain ⟨f3, hf3⟩ : ∃ b, b = cutB 2 2 false 2 := ⟨_, rfl⟩
  rw [← hf3] at S3
  have E6 : (#[.int .u64 6, .int .u64 0, .int .u64 0, .int .u64 0, .int .u64 0, .int .u64 0, .int .u64 0, .int .u64 0] : Array Value) = wcells 6 := lit_cells 6 (by decide)
  have E2 : (#[.int .u64 2, .int .u64 0, .int .u64 0, .int .u64 0, .int .u64 0, .int .u64 0, .int .u64 0, .int .u64 0] : Array Value) = wcells 2 := lit_cells 2 (by decide)
  have E1 : (#[.int .u64 1, .int .u64 0, .int .u64 0, .int .u64 0, .int .u64 0, .int .u64 0, .int .u64 0, .int .u64 0] : Array Value) = wcells 1 := lit_cells 1 (by decide)
  clear e1 e2 e3 e4 hf2 hf3
  go_enter Try.func86, Try.ntmps86
  have HB := Lib.hid (Below.refl w.heap.size w)
  go_wp2_with fail
  refine (S1.out _).mono ?_
  rintro e w18 ⟨rfl, hb⟩
  replace HB := Lib.hid (below_then HB.out hb)
  clear hb
  have Ga := Lib.hid (alloc_new (w18) (.cells (wcells 2) 26))
  replace HB := Lib.hid (below_al HB.out (.cells (wcells 2) 26))
  have cGa := cell_row Ga.out
  go_wp2_with fail
  refine (S2.out _).mono ?_
  rintro e w19 ⟨rfl, hb⟩
  clear cGa
  replace HB := Lib.hid (below_then HB.out hb)
  replace Ga := Lib.hid ((hb.block _ (lt_of_heap Ga.out)).trans Ga.out)
  clear hb
  replace Ga := Lib.hid (keepAl (o' := .cells (wcells 1) 26) Ga.out)
  have Gb := Lib.hid (alloc_new (w19) (.cells (wcells 1) 26))
  replace HB := Lib.hid (below_al HB.out (.cells (wcells 1) 26))
  have cGa := cell_row Ga.out
  have cGb := cell_row Gb.out
  go_wp2_with fail
  refine (S3.out _).mono ?_
  rintro e w20 ⟨rfl, hb⟩
  clear cGa cGb
  replace HB := Lib.hid (below_then HB.out hb)
  replace Ga := Lib.hid ((hb.block _ (lt_of_heap Ga.out)).trans Ga.out)
  replace Gb := Lib.hid ((hb.block _ (lt_of_heap Gb.out)).trans Gb.out)
  clear hb
  replace Ga := Lib.hid (keepAl (o' := .cells (wcells 1) 26) Ga.out)
  replace Gb := Lib.hid (keepAl (o' := .cells (wcells 1) 26) Gb.out)
  have Gc := Lib.hid (alloc_new (w20) (.cells (wcells 1) 26))
  replace HB := Lib.hid (below_al HB.out (.cells (wcells 1) 26))
  have cGa := cell_row Ga.out
  have cGb := cell_row Gb.out
  have cGc := cell_row Gc.out
  go_wp2
  go_ret
  exact ⟨rfl, HB.out⟩
end Go.Proofs.Ytenkaobgoknlhaa
