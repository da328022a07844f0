/- THE WALKS of package fix, going on: roots by a guess. -/
import Derived.Test.YtegmmaaapdgocaaGreatK23
import Derived.Test.YtegmmaaapdgocaaGreatK30
namespace Go.Proofs.YtegmmaaapdgocaaGreat
open Go Go.RowKit

attribute [local go_sem ↓] Go.wp_at_zero Go.wp_at_succ
set_option maxHeartbeats 2000000 in
theorem squareF_any (x : Nat) (hx : x < M) (w : World) : Calls Tryz.prog 87 #[wv x] w fun e w' => e = .returned (wv (x * x % M)) ∧ Below w.heap.size w w' := by
  have S1 := Lib.hid (fun w' => square_w x hx w')
  obtain ⟨q, hq⟩ : ∃ q, q = x * x % M := ⟨_, rfl⟩
  obtain ⟨f, hf⟩ : ∃ q, q = decide (x * x < M) := ⟨_, rfl⟩
  rw [← hq, ← hf] at S1
  rw [← hq]
  clear hx hq hf
  go_enter Tryz.func87, Tryz.ntmps87
  have HB := Lib.hid (Below.refl w.heap.size w)
  have Gx := Lib.hid (alloc_new (w) (.cells (wcells x) 24))
  replace HB := Lib.hid (below_al HB.out (.cells (wcells x) 24))
  replace Gx := Lib.hid (keepAl (o' := .cells (wcells 0) 24) Gx.out)
  have Go := Lib.hid (alloc_new' (w := (w).alloc (.cells (wcells x) 24)) (n := w.heap.size + 1) (.cells (wcells 0) 24) (by simp))
  replace HB := Lib.hid (below_al HB.out (.cells (wcells 0) 24))
  have cGx := cell_row Gx.out
  have cGo := cell_row Go.out
  go_wp2_with fail
  refine (S1.out _).mono ?_
  rintro e w1 ⟨rfl, hb⟩
  clear cGx cGo
  replace HB := Lib.hid (below_then HB.out hb)
  replace Gx := Lib.hid ((hb.block _ (lt_of_heap Gx.out)).trans Gx.out)
  replace Go := Lib.hid ((hb.block _ (lt_of_heap Go.out)).trans Go.out)
  clear hb
  have HZ := Lib.hid (lt_of_heap Go.out)
  replace Go := Lib.hid (keepAl (o' := .cells (wcells q) 24) Go.out)
  have Gp := Lib.hid (alloc_new (w1) (.cells (wcells q) 24))
  replace HB := Lib.hid (below_al HB.out (.cells (wcells q) 24))
  have cp := cell_row Gp.out
  have sto := st_row (P := Tryz.prog) Go.out rfl (q)
  replace Go := Lib.hid (setRow_heap ((w1).alloc (.cells (wcells q) 24)) (w.heap.size + 1) _ (wcells (q)) _ _ Go.out)
  replace HB := Lib.hid (below_setRow' HB.out (show _ ≤ w.heap.size + 1 by (omega)) (wcells (q)))
  have cGo := cell_row Go.out
  go_wp2
  exact bodyPost_ret (v := wv q) (res_c Tryz.results87 _ _ _ _ _ _ rfl Go.out aggW) rfl ⟨rfl, HB.out⟩
theorem enters_squareF : Enters Tryz.prog 87 := fun args w => by simp [go_sem]
theorem enters_aboveR : Enters Tryz.prog 89 := fun args w => by simp [go_sem]
theorem enters_leftR : Enters Tryz.prog 91 := fun args w => by simp [go_sem]

set_option maxRecDepth 100000 in
set_option maxHeartbeats 2000000 in
theorem aboveR_any (x n pt pn : Nat) (hx : x < M) (hn : n < M) (hxd : x * x < M) (w : World) (hpn : w.heap[pn]? = some (.cells (wcells n) 24 (0, 0))) {T : TypeId}
    (hpt : w.heap[pt]? = some (.cells (fcell 87 #[]) T (0, 0))) :
    Calls Tryz.prog 89 #[wv x, .pointer (some ⟨pt, 0, none⟩), .pointer (some ⟨pn, 0, none⟩)] w fun e w' => e = .returned (.bool (decide (n < x * x))) ∧ Below w.heap.size w w' := by
  have S1 : Hid (∀ w' : World, Calls Tryz.prog 87 #[wv x] w' fun e w'' => e = .returned (wv (x * x)) ∧ Below w'.heap.size w' w'') := Lib.hid fun w' => by
    have := squareF_any x hx w'
    rwa [Nat.mod_eq_of_lt hxd] at this
  have S2 := Lib.hid (fun w' => cmp_w (x * x) n hxd hn w')
  have HC := Lib.hid (cmp_pos (x * x) n)
  obtain ⟨y, hy⟩ : ∃ y, y = x * x := ⟨_, rfl⟩
  rw [← hy] at S1 S2 HC ⊢
  obtain ⟨c, hc⟩ : ∃ c, c = cmpN y n := ⟨_, rfl⟩
  rw [← hc] at S2 HC
  have Gn := Lib.hid hpn; have Gt := Lib.hid hpt
  clear hx hn hxd hpn hpt hy hc
  go_enter Tryz.func89, Tryz.ntmps89
  have HB := Lib.hid (Below.refl w.heap.size w)
  replace Gn := Lib.hid (keepAl (o' := .cells (wcells x) 24) Gn.out)
  replace Gt := Lib.hid (keepAl (o' := .cells (wcells x) 24) Gt.out)
  have Gx := Lib.hid (alloc_new (w) (.cells (wcells x) 24))
  replace HB := Lib.hid (below_al HB.out (.cells (wcells x) 24))
  go_upto_region 1 with fail
  obtain ⟨wL, hw⟩ : ∃ wx, wx = (w).alloc (.cells (wcells x) 24) := ⟨_, rfl⟩
  rw [← hw] at Gn Gt Gx HB ⊢
  clear hw
  have xGn := ext_row (B := wL.heap.size) Gn.out (lt_of_heap Gn.out)
  have xGt := ext_row (B := wL.heap.size) Gt.out (lt_of_heap Gt.out)
  have xGx := ext_row (B := wL.heap.size) Gx.out (lt_of_heap Gx.out)
  refine wp_region_ext wL.heap.size (by kernel_rfl) (by kernel_rfl) ?_
  repeat (go_big_quiet_step (first | (go_at_call 87; with_reducible exact Calls.quiet_ext (Nat.le_refl _) (S1.out _)) | (go_at_call 90; with_reducible exact Calls.quiet_ext (Nat.le_refl _) (S2.out _))))
  refine wpQuiet_nil ?_
  intro w2 hb
  clear xGn xGt xGx
  replace HB := Lib.hid (below_then HB.out hb)
  replace Gn := Lib.hid ((hb.block _ (lt_of_heap Gn.out)).trans Gn.out)
  replace Gt := Lib.hid ((hb.block _ (lt_of_heap Gt.out)).trans Gt.out)
  replace Gx := Lib.hid ((hb.block _ (lt_of_heap Gx.out)).trans Gx.out)
  clear hb
  go_wp2
  go_ret
  exact ⟨ret_bool HC.out, HB.out⟩

set_option maxRecDepth 100000 in
set_option maxHeartbeats 2000000 in
theorem leftR_any (q n pt pn : Nat) (hq : q < M) (hn : n < M) (hqd : q * q ≤ n) (w : World) (hpn : w.heap[pn]? = some (.cells (wcells n) 24 (0, 0))) {T : TypeId}
    (hpt : w.heap[pt]? = some (.cells (fcell 87 #[]) T (0, 0))) :
    Calls Tryz.prog 91 #[wv q, .pointer (some ⟨pn, 0, none⟩), .pointer (some ⟨pt, 0, none⟩)] w fun e w' => e = .returned (wv (n - q * q)) ∧ Below w.heap.size w w' := by
  have S1 : Hid (∀ w' : World, Calls Tryz.prog 87 #[wv q] w' fun e w'' => e = .returned (wv (q * q)) ∧ Below w'.heap.size w' w'') := Lib.hid fun w' => by
    have := squareF_any q hq w'
    rwa [Nat.mod_eq_of_lt (show q * q < M by omega)] at this
  have S2 := Lib.hid (fun w' => without_w n (q * q) hn (by omega) w')
  have hr : subN n (q * q) = n - q * q := by
    unfold subN
    rw [show n + M - q * q = (n - q * q) + M by omega, Nat.add_mod_right, Nat.mod_eq_of_lt (by omega)]
  rw [hr] at S2
  obtain ⟨r, hr'⟩ : ∃ r, r = n - q * q := ⟨_, rfl⟩
  rw [← hr'] at S2 ⊢
  obtain ⟨y, hy⟩ : ∃ y, y = q * q := ⟨_, rfl⟩
  rw [← hy] at S1 S2
  have Gn := Lib.hid hpn; have Gt := Lib.hid hpt
  clear hq hn hqd hpn hpt hy hr hr'
  go_enter Tryz.func91, Tryz.ntmps91
  have HB := Lib.hid (Below.refl w.heap.size w)
  have hz2 := lt_of_heap Gn.out
  have hz3 := lt_of_heap Gt.out
  replace Gn := Lib.hid (keepAl (o' := .cells (wcells q) 24) Gn.out)
  replace Gt := Lib.hid (keepAl (o' := .cells (wcells q) 24) Gt.out)
  have Gx := Lib.hid (alloc_new (w) (.cells (wcells q) 24))
  replace HB := Lib.hid (below_al HB.out (.cells (wcells q) 24))
  replace Gn := Lib.hid (keepAl (o' := .cells (wcells 0) 24) Gn.out)
  replace Gt := Lib.hid (keepAl (o' := .cells (wcells 0) 24) Gt.out)
  replace Gx := Lib.hid (keepAl (o' := .cells (wcells 0) 24) Gx.out)
  have Go := Lib.hid (alloc_new' (w := (w).alloc (.cells (wcells q) 24)) (n := w.heap.size + 1) (.cells (wcells 0) 24) (by simp))
  replace HB := Lib.hid (below_al HB.out (.cells (wcells 0) 24))
  go_upto_region 1 with fail
  obtain ⟨wL, hw⟩ : ∃ wx, wx = ((w).alloc (.cells (wcells q) 24)).alloc (.cells (wcells 0) 24) := ⟨_, rfl⟩
  rw [← hw] at Gn Gt Gx Go HB ⊢
  clear hw
  refine wp_region_store [⟨w.heap.size + 1, 24, .tmp 9⟩] (by kernel_rfl) (by kernel_rfl) (by kernel_rfl) rfl (List.pairwise_singleton _ _) ?_ ?_
  · intro r hr
    simp only [List.mem_cons, List.not_mem_nil, or_false] at hr
    subst hr
    exact ⟨_, Go.out, by kernel_rfl⟩
  have xGn := extR_row (B := wL.heap.size) (R := [⟨w.heap.size + 1, 24, .tmp 9⟩]) Gn.out (lt_of_heap Gn.out) (by intro r hr; simp only [List.mem_cons, List.not_mem_nil, or_false] at hr; subst hr <;> dsimp only <;> (omega))
  have xGt := extR_row (B := wL.heap.size) (R := [⟨w.heap.size + 1, 24, .tmp 9⟩]) Gt.out (lt_of_heap Gt.out) (by intro r hr; simp only [List.mem_cons, List.not_mem_nil, or_false] at hr; subst hr <;> dsimp only <;> (omega))
  have xGx := extR_row (B := wL.heap.size) (R := [⟨w.heap.size + 1, 24, .tmp 9⟩]) Gx.out (lt_of_heap Gx.out) (by intro r hr; simp only [List.mem_cons, List.not_mem_nil, or_false] at hr; subst hr <;> dsimp only <;> (omega))
  repeat (refine wpCalm_step (fun K hK => ?_); go_simp; first | (refine hK _ ?_; clear hK K) | (apply Exists.intro; refine ⟨fun _ => ?_, hK _ ?_⟩; (first | with_reducible exact S1.out _ | with_reducible exact S2.out _ | exact S1.out _ | exact S2.out _); clear hK K))
  refine wpCalm_nil ⟨?_, fun x hx => ?_⟩
  · intro r hr
    simp only [List.mem_cons, List.not_mem_nil, or_false] at hr
    subst hr <;> exact fits_wv (by kernel_rfl) _
  replace Go : Hid (x.val.heap[w.heap.size + 1]? = some (.cells (wcells (r)) 24 (0, 0))) := Lib.hid (hx ⟨w.heap.size + 1, 24, .tmp 9⟩ (by simp))
  replace Gn := Lib.hid (extR_block x Gn.out (lt_of_heap Gn.out) (by intro r hr; simp only [List.mem_cons, List.not_mem_nil, or_false] at hr; subst hr <;> dsimp only <;> (omega)))
  replace Gt := Lib.hid (extR_block x Gt.out (lt_of_heap Gt.out) (by intro r hr; simp only [List.mem_cons, List.not_mem_nil, or_false] at hr; subst hr <;> dsimp only <;> (omega)))
  replace Gx := Lib.hid (extR_block x Gx.out (lt_of_heap Gx.out) (by intro r hr; simp only [List.mem_cons, List.not_mem_nil, or_false] at hr; subst hr <;> dsimp only <;> (omega)))
  replace HB := Lib.hid (extR_below x HB.out HB.out.size (by intro r hr; simp only [List.mem_cons, List.not_mem_nil, or_false] at hr; subst hr <;> dsimp only <;> (omega)))
  clear hx xGn xGt xGx
  obtain ⟨w3, hw⟩ : ∃ wx, wx = x.val := ⟨_, rfl⟩
  rw [← hw] at Gn Gt Gx Go HB ⊢
  clear hw x
  have cGn := cell_row Gn.out
  have cGt := cell_row Gt.out
  have cGx := cell_row Gx.out
  have cGo := cell_row Go.out
  go_wp2
  exact bodyPost_ret (v := wv r) (res_c Tryz.results91 _ _ _ _ _ _ rfl Go.out aggW) rfl ⟨rfl, HB.out⟩

theorem rt_above (n x : Nat) : decide (n < x * x) = decide (rtN 2 n < x) := by
  rw [decide_eq_decide]
  have := sq_le n x
  omega
theorem above_R (n pt pn : Nat) (hn : n < M) (w : World) (hpn : w.heap[pn]? = some (.cells (wcells n) 24 (0, 0))) {T : TypeId} (hpt : w.heap[pt]? = some (.cells (fcell 87 #[]) T (0, 0))) :
    Above Tryz.prog 89 #[.pointer (some ⟨pt, 0, none⟩), .pointer (some ⟨pn, 0, none⟩)] w (rtN 2 n) := by
  intro x w' hx hb
  have hxM : x < M := by have := P2_201.2.1; omega
  have hxd : x * x < M := by
    have := Nat.mul_lt_mul'' hx hx
    rw [← P2_add] at this
    rw [M_eq]
    exact Nat.lt_of_lt_of_le this (P2_le (by omega))
  have := aboveR_any x n pt pn hxM hn hxd w' ((hb.block _ (lt_of_heap hpn)).trans hpn) ((hb.block _ (lt_of_heap hpt)).trans hpt)
  rw [rt_above] at this
  exact this
theorem left_R (n pt pn : Nat) (hn : n < P2 256) (w : World) (hpn : w.heap[pn]? = some (.cells (wcells n) 24 (0, 0))) {T : TypeId} (hpt : w.heap[pt]? = some (.cells (fcell 87 #[]) T (0, 0))) :
    LeftOf Tryz.prog 91 #[.pointer (some ⟨pn, 0, none⟩), .pointer (some ⟨pt, 0, none⟩)] w (rtN 2 n) (n - rtN 2 n * rtN 2 n) := by
  intro w' hb
  have hnM : n < M := Nat.lt_trans hn (by rw [M_eq]; exact P2_lt (by omega))
  have hq := rt_lt hn
  have h128 : P2 128 < M := by rw [M_eq]; exact P2_lt (by omega)
  exact leftR_any (rtN 2 n) n pt pn (by omega) hnM ((sq_le n _).1 (Nat.le_refl _)) w' ((hb.block _ (lt_of_heap hpn)).trans hpn) ((hb.block _ (lt_of_heap hpt)).trans hpt)

set_option maxRecDepth 100000 in
set_option maxHeartbeats 2000000 in
theorem fixroot_yes (n g m : Nat) (hn : n < P2 256) (hg : g < P2 200) (hm : m ≤ 100) (hdist : (g - rtN 2 n) + (rtN 2 n - g) ≤ m) (w : World) :
    Calls Tryz.prog 62 #[wv n, wv g, .int .i64 (m : Int)] w fun e w' => e = .returned (.tuple #[wv (rtN 2 n), wv (n - rtN 2 n * rtN 2 n), .int .i64 (((g - rtN 2 n) + (rtN 2 n - g) : Nat) : Int), .int .i64 0]) ∧ Below w.heap.size w w' := by
  have hnM : n < M := Nat.lt_trans hn (by rw [M_eq]; exact P2_lt (by omega))
  have h201 : P2 200 < P2 201 := P2_lt (by omega)
  have hgM : g < M := by have := P2_201.2.1; have := P2_201.1; omega
  have hq : rtN 2 n < P2 201 := Nat.lt_trans (rt_lt hn) (P2_lt (by omega))
  have SN := Lib.hid (fun w' => len_w n hnM w')
  have hl0 := blen_le_of hn
  have hl0' : ¬ (256 : Int) < (blen n : Nat) := by omega
  have SL := Lib.hid (fun w' => len_w g hgM w')
  have hl := blen_le_of hg
  have hl' : ¬ (200 : Int) < (blen g : Nat) := by omega
  obtain ⟨l, hle⟩ : ∃ l, l = blen g := ⟨_, rfl⟩
  rw [← hle] at SL hl'
  obtain ⟨k, hke⟩ : ∃ l, l = blen n := ⟨_, rfl⟩
  rw [← hke] at SN hl0'
  have hm' : (m : Int) ≤ 100 := by omega
  have ST := Lib.hid (fun (pt pn : Nat) (w' : World) (T : TypeId) hpn hpt => told_yes 89 91 #[.pointer (some ⟨pt, 0, none⟩), .pointer (some ⟨pn, 0, none⟩)] #[.pointer (some ⟨pn, 0, none⟩), .pointer (some ⟨pt, 0, none⟩)] g (rtN 2 n) (n - rtN 2 n * rtN 2 n) m w' (by omega) hq hm hdist enters_aboveR enters_leftR
    (above_R n pt pn hnM w' hpn (T := T) hpt) (left_R n pt pn hn w' hpn (T := T) hpt))
  obtain ⟨a, ha⟩ : ∃ a, a = (g - rtN 2 n) + (rtN 2 n - g) := ⟨_, rfl⟩
  rw [← ha] at ST ⊢
  obtain ⟨q, hqe⟩ : ∃ q, q = rtN 2 n := ⟨_, rfl⟩
  rw [← hqe] at ST ⊢
  obtain ⟨r, hre⟩ : ∃ r, r = n - q * q := ⟨_, rfl⟩
  rw [← hre] at ST ⊢
  clear hn hg hm hdist hnM h201 hgM hq hl0 hl hle hke ha hqe hre
  go_enter Tryz.func62, Tryz.ntmps62
  have HB := Lib.hid (Below.refl w.heap.size w)
  have Gn := Lib.hid (alloc_new (w) (.cells (wcells n) 24))
  replace HB := Lib.hid (below_al HB.out (.cells (wcells n) 24))
  replace Gn := Lib.hid (keepAl (o' := .cells (wcells g) 24) Gn.out)
  have Gg := Lib.hid (alloc_new' (w := (w).alloc (.cells (wcells n) 24)) (n := w.heap.size + 1) (.cells (wcells g) 24) (by simp))
  replace HB := Lib.hid (below_al HB.out (.cells (wcells g) 24))
  replace Gn := Lib.hid (keepAl (o' := .cells (wcells 0) 24) Gn.out)
  replace Gg := Lib.hid (keepAl (o' := .cells (wcells 0) 24) Gg.out)
  have Gx := Lib.hid (alloc_new' (w := ((w).alloc (.cells (wcells n) 24)).alloc (.cells (wcells g) 24)) (n := w.heap.size + 1 + 1) (.cells (wcells 0) 24) (by simp))
  replace HB := Lib.hid (below_al HB.out (.cells (wcells 0) 24))
  replace Gn := Lib.hid (keepAl (o' := .cells (wcells 0) 24) Gn.out)
  replace Gg := Lib.hid (keepAl (o' := .cells (wcells 0) 24) Gg.out)
  replace Gx := Lib.hid (keepAl (o' := .cells (wcells 0) 24) Gx.out)
  have Gy := Lib.hid (alloc_new' (w := (((w).alloc (.cells (wcells n) 24)).alloc (.cells (wcells g) 24)).alloc (.cells (wcells 0) 24)) (n := w.heap.size + 1 + 1 + 1) (.cells (wcells 0) 24) (by simp))
  replace HB := Lib.hid (below_al HB.out (.cells (wcells 0) 24))
  have cGn := cell_row Gn.out
  have cGg := cell_row Gg.out
  have cGx := cell_row Gx.out
  have cGy := cell_row Gy.out
  go_wp2_with fail
  refine (SN.out _).mono ?_
  rintro e w4 ⟨rfl, hb⟩
  clear cGn cGg cGx cGy
  replace HB := Lib.hid (below_then HB.out hb)
  replace Gn := Lib.hid ((hb.block _ (lt_of_heap Gn.out)).trans Gn.out)
  replace Gg := Lib.hid ((hb.block _ (lt_of_heap Gg.out)).trans Gg.out)
  replace Gx := Lib.hid ((hb.block _ (lt_of_heap Gx.out)).trans Gx.out)
  replace Gy := Lib.hid ((hb.block _ (lt_of_heap Gy.out)).trans Gy.out)
  clear hb
  have cGn := cell_row Gn.out
  have cGg := cell_row Gg.out
  have cGx := cell_row Gx.out
  have cGy := cell_row Gy.out
  go_wp2_with fail
  refine (SL.out _).mono ?_
  rintro e w5 ⟨rfl, hb⟩
  clear cGn cGg cGx cGy
  replace HB := Lib.hid (below_then HB.out hb)
  replace Gn := Lib.hid ((hb.block _ (lt_of_heap Gn.out)).trans Gn.out)
  replace Gg := Lib.hid ((hb.block _ (lt_of_heap Gg.out)).trans Gg.out)
  replace Gx := Lib.hid ((hb.block _ (lt_of_heap Gx.out)).trans Gx.out)
  replace Gy := Lib.hid ((hb.block _ (lt_of_heap Gy.out)).trans Gy.out)
  clear hb
  have HZ := Lib.hid (lt_of_heap Gy.out)
  have cGn := cell_row Gn.out
  have cGg := cell_row Gg.out
  have cGx := cell_row Gx.out
  have cGy := cell_row Gy.out
  go_upto_region 6 with fail
  clear cGn cGg cGx cGy
  replace Gn := Lib.hid (keepAl (o' := .cells (fcell 87 #[]) 101) Gn.out)
  replace Gg := Lib.hid (keepAl (o' := .cells (fcell 87 #[]) 101) Gg.out)
  replace Gx := Lib.hid (keepAl (o' := .cells (fcell 87 #[]) 101) Gx.out)
  replace Gy := Lib.hid (keepAl (o' := .cells (fcell 87 #[]) 101) Gy.out)
  have Gt := Lib.hid (alloc_new (w5) (.cells (fcell 87 #[]) 101))
  replace HB := Lib.hid (below_al HB.out (.cells (fcell 87 #[]) 101))
  have cGn := cell_row Gn.out
  have cGg := cell_row Gg.out
  have cGx := cell_row Gx.out
  have cGy := cell_row Gy.out
  have cGt := cell_row Gt.out
  go_wp2_with fail
  refine (ST.out _ _ _ _ Gn.out Gt.out).mono ?_
  rintro e w6 ⟨rfl, hb⟩
  clear cGn cGg cGx cGy cGt
  replace HB := Lib.hid (below_then HB.out hb)
  replace Gn := Lib.hid ((hb.block _ (lt_of_heap Gn.out)).trans Gn.out)
  replace Gg := Lib.hid ((hb.block _ (lt_of_heap Gg.out)).trans Gg.out)
  replace Gx := Lib.hid ((hb.block _ (lt_of_heap Gx.out)).trans Gx.out)
  replace Gy := Lib.hid ((hb.block _ (lt_of_heap Gy.out)).trans Gy.out)
  replace Gt := Lib.hid ((hb.block _ (lt_of_heap Gt.out)).trans Gt.out)
  clear hb
  have hz := HZ.out
  have stx := st_row (P := Tryz.prog) Gx.out rfl (q)
  replace Gy := Lib.hid ((setRow_other (w6) (w.heap.size + 1 + 1) _ (wcells (q)) (by (omega))).trans Gy.out)
  replace Gx := Lib.hid (setRow_heap (w6) (w.heap.size + 1 + 1) _ (wcells (q)) _ _ Gx.out)
  replace HB := Lib.hid (below_setRow' HB.out (show _ ≤ w.heap.size + 1 + 1 by (omega)) (wcells (q)))
  have q1 := stx
  clear stx
  have sty := st_row (P := Tryz.prog) Gy.out rfl (r)
  replace Gx := Lib.hid ((setRow_other ((w6).setRow (w.heap.size + 1 + 1) (wcells (q))) (w.heap.size + 1 + 1 + 1) _ (wcells (r)) (by (omega))).trans Gx.out)
  replace Gy := Lib.hid (setRow_heap ((w6).setRow (w.heap.size + 1 + 1) (wcells (q))) (w.heap.size + 1 + 1 + 1) _ (wcells (r)) _ _ Gy.out)
  replace HB := Lib.hid (below_setRow' HB.out (show _ ≤ w.heap.size + 1 + 1 + 1 by (omega)) (wcells (r)))
  have cGx := cell_row Gx.out
  have cGy := cell_row Gy.out
  go_wp2
  exact bodyPost_ret (v := .tuple #[wv q, wv r, .int .i64 (a : Int), .int .i64 0]) (res_cctt Tryz.results62 _ _ _ _ _ _ _ _ _ _ _ _ rfl rfl rfl rfl Gx.out Gy.out aggW aggW) rfl ⟨rfl, HB.out⟩
set_option maxRecDepth 100000 in
set_option maxHeartbeats 2000000 in
theorem fixroot_far (n g m : Nat) (hn : n < P2 256) (hg : g < P2 200) (hm : m ≤ 100) (hdist : m < (g - rtN 2 n) + (rtN 2 n - g)) (w : World) :
    Calls Tryz.prog 62 #[wv n, wv g, .int .i64 (m : Int)] w fun e w' => e = .returned (.tuple #[wv 0, wv 0, .int .i64 0, .int .i64 6]) ∧ Below w.heap.size w w' := by
  have hnM : n < M := Nat.lt_trans hn (by rw [M_eq]; exact P2_lt (by omega))
  have h201 : P2 200 < P2 201 := P2_lt (by omega)
  have hgM : g < M := by have := P2_201.2.1; have := P2_201.1; omega
  have hq : rtN 2 n < P2 201 := Nat.lt_trans (rt_lt hn) (P2_lt (by omega))
  have SN := Lib.hid (fun w' => len_w n hnM w')
  have hl0 := blen_le_of hn
  have hl0' : ¬ (256 : Int) < (blen n : Nat) := by omega
  have SL := Lib.hid (fun w' => len_w g hgM w')
  have hl := blen_le_of hg
  have hl' : ¬ (200 : Int) < (blen g : Nat) := by omega
  obtain ⟨l, hle⟩ : ∃ l, l = blen g := ⟨_, rfl⟩
  rw [← hle] at SL hl'
  obtain ⟨k, hke⟩ : ∃ l, l = blen n := ⟨_, rfl⟩
  rw [← hke] at SN hl0'
  have hm' : (m : Int) ≤ 100 := by omega
  have ST := Lib.hid (fun (pt pn : Nat) (w' : World) (T : TypeId) hpn hpt => told_no 89 91 #[.pointer (some ⟨pt, 0, none⟩), .pointer (some ⟨pn, 0, none⟩)] #[.pointer (some ⟨pn, 0, none⟩), .pointer (some ⟨pt, 0, none⟩)] g (rtN 2 n) m w' (by omega) hm hdist enters_aboveR
    (above_R n pt pn hnM w' hpn (T := T) hpt))
  clear hn hg hm hdist hnM h201 hgM hq hl0 hl hle hke
  go_enter Tryz.func62, Tryz.ntmps62
  have HB := Lib.hid (Below.refl w.heap.size w)
  have Gn := Lib.hid (alloc_new (w) (.cells (wcells n) 24))
  replace HB := Lib.hid (below_al HB.out (.cells (wcells n) 24))
  replace Gn := Lib.hid (keepAl (o' := .cells (wcells g) 24) Gn.out)
  have Gg := Lib.hid (alloc_new' (w := (w).alloc (.cells (wcells n) 24)) (n := w.heap.size + 1) (.cells (wcells g) 24) (by simp))
  replace HB := Lib.hid (below_al HB.out (.cells (wcells g) 24))
  replace Gn := Lib.hid (keepAl (o' := .cells (wcells 0) 24) Gn.out)
  replace Gg := Lib.hid (keepAl (o' := .cells (wcells 0) 24) Gg.out)
  have Gx := Lib.hid (alloc_new' (w := ((w).alloc (.cells (wcells n) 24)).alloc (.cells (wcells g) 24)) (n := w.heap.size + 1 + 1) (.cells (wcells 0) 24) (by simp))
  replace HB := Lib.hid (below_al HB.out (.cells (wcells 0) 24))
  replace Gn := Lib.hid (keepAl (o' := .cells (wcells 0) 24) Gn.out)
  replace Gg := Lib.hid (keepAl (o' := .cells (wcells 0) 24) Gg.out)
  replace Gx := Lib.hid (keepAl (o' := .cells (wcells 0) 24) Gx.out)
  have Gy := Lib.hid (alloc_new' (w := (((w).alloc (.cells (wcells n) 24)).alloc (.cells (wcells g) 24)).alloc (.cells (wcells 0) 24)) (n := w.heap.size + 1 + 1 + 1) (.cells (wcells 0) 24) (by simp))
  replace HB := Lib.hid (below_al HB.out (.cells (wcells 0) 24))
  have cGn := cell_row Gn.out
  have cGg := cell_row Gg.out
  have cGx := cell_row Gx.out
  have cGy := cell_row Gy.out
  go_wp2_with fail
  refine (SN.out _).mono ?_
  rintro e w7 ⟨rfl, hb⟩
  clear cGn cGg cGx cGy
  replace HB := Lib.hid (below_then HB.out hb)
  replace Gn := Lib.hid ((hb.block _ (lt_of_heap Gn.out)).trans Gn.out)
  replace Gg := Lib.hid ((hb.block _ (lt_of_heap Gg.out)).trans Gg.out)
  replace Gx := Lib.hid ((hb.block _ (lt_of_heap Gx.out)).trans Gx.out)
  replace Gy := Lib.hid ((hb.block _ (lt_of_heap Gy.out)).trans Gy.out)
  clear hb
  have cGn := cell_row Gn.out
  have cGg := cell_row Gg.out
  have cGx := cell_row Gx.out
  have cGy := cell_row Gy.out
  go_wp2_with fail
  refine (SL.out _).mono ?_
  rintro e w8 ⟨rfl, hb⟩
  clear cGn cGg cGx cGy
  replace HB := Lib.hid (below_then HB.out hb)
  replace Gn := Lib.hid ((hb.block _ (lt_of_heap Gn.out)).trans Gn.out)
  replace Gg := Lib.hid ((hb.block _ (lt_of_heap Gg.out)).trans Gg.out)
  replace Gx := Lib.hid ((hb.block _ (lt_of_heap Gx.out)).trans Gx.out)
  replace Gy := Lib.hid ((hb.block _ (lt_of_heap Gy.out)).trans Gy.out)
  clear hb
  have HZ := Lib.hid (lt_of_heap Gy.out)
  have cGn := cell_row Gn.out
  have cGg := cell_row Gg.out
  have cGx := cell_row Gx.out
  have cGy := cell_row Gy.out
  go_upto_region 6 with fail
  clear cGn cGg cGx cGy
  replace Gn := Lib.hid (keepAl (o' := .cells (fcell 87 #[]) 101) Gn.out)
  replace Gg := Lib.hid (keepAl (o' := .cells (fcell 87 #[]) 101) Gg.out)
  replace Gx := Lib.hid (keepAl (o' := .cells (fcell 87 #[]) 101) Gx.out)
  replace Gy := Lib.hid (keepAl (o' := .cells (fcell 87 #[]) 101) Gy.out)
  have Gt := Lib.hid (alloc_new (w8) (.cells (fcell 87 #[]) 101))
  replace HB := Lib.hid (below_al HB.out (.cells (fcell 87 #[]) 101))
  have cGn := cell_row Gn.out
  have cGg := cell_row Gg.out
  have cGx := cell_row Gx.out
  have cGy := cell_row Gy.out
  have cGt := cell_row Gt.out
  go_wp2_with fail
  refine (ST.out _ _ _ _ Gn.out Gt.out).mono ?_
  rintro e w9 ⟨rfl, hb⟩
  clear cGn cGg cGx cGy cGt
  replace HB := Lib.hid (below_then HB.out hb)
  replace Gn := Lib.hid ((hb.block _ (lt_of_heap Gn.out)).trans Gn.out)
  replace Gg := Lib.hid ((hb.block _ (lt_of_heap Gg.out)).trans Gg.out)
  replace Gx := Lib.hid ((hb.block _ (lt_of_heap Gx.out)).trans Gx.out)
  replace Gy := Lib.hid ((hb.block _ (lt_of_heap Gy.out)).trans Gy.out)
  replace Gt := Lib.hid ((hb.block _ (lt_of_heap Gt.out)).trans Gt.out)
  clear hb
  have hz := HZ.out
  have stx := st_row (P := Tryz.prog) Gx.out rfl (0)
  replace Gy := Lib.hid ((setRow_other (w9) (w.heap.size + 1 + 1) _ (wcells (0)) (by (omega))).trans Gy.out)
  replace Gx := Lib.hid (setRow_heap (w9) (w.heap.size + 1 + 1) _ (wcells (0)) _ _ Gx.out)
  replace HB := Lib.hid (below_setRow' HB.out (show _ ≤ w.heap.size + 1 + 1 by (omega)) (wcells (0)))
  have q1 := stx
  clear stx
  have sty := st_row (P := Tryz.prog) Gy.out rfl (0)
  replace Gx := Lib.hid ((setRow_other ((w9).setRow (w.heap.size + 1 + 1) (wcells (0))) (w.heap.size + 1 + 1 + 1) _ (wcells (0)) (by (omega))).trans Gx.out)
  replace Gy := Lib.hid (setRow_heap ((w9).setRow (w.heap.size + 1 + 1) (wcells (0))) (w.heap.size + 1 + 1 + 1) _ (wcells (0)) _ _ Gy.out)
  replace HB := Lib.hid (below_setRow' HB.out (show _ ≤ w.heap.size + 1 + 1 + 1 by (omega)) (wcells (0)))
  have cGx := cell_row Gx.out
  have cGy := cell_row Gy.out
  go_wp2
  exact bodyPost_ret (v := .tuple #[wv 0, wv 0, .int .i64 0, .int .i64 6]) (res_cctt Tryz.results62 _ _ _ _ _ _ _ _ _ _ _ _ rfl rfl rfl rfl Gx.out Gy.out aggW aggW) rfl ⟨rfl, HB.out⟩

/-- Why there is no root by a guess; 0: there may be one. -/
def frE (n g : Nat) (m : Int) : Int := if m < 0 ∨ 100 < m then 1 else if 256 < blen n ∨ 200 < blen g then 4 else 0
set_option maxRecDepth 100000 in
set_option maxHeartbeats 2000000 in
theorem fixroot_err (n g : Nat) (m : Int) (hn : n < M) (hg : g < M) (hE : frE n g m ≠ 0) (w : World) :
    Calls Tryz.prog 62 #[wv n, wv g, .int .i64 m] w fun e w' => e = .returned (.tuple #[wv 0, wv 0, .int .i64 0, .int .i64 (frE n g m)]) ∧ Below w.heap.size w w' := by
  have SN := Lib.hid (fun w' => len_w n hn w')
  have SL := Lib.hid (fun w' => len_w g hg w')
  obtain ⟨F, hF⟩ : ∃ F, F = frE n g m := ⟨_, rfl⟩
  rw [← hF] at hE ⊢
  unfold frE at hF
  obtain ⟨k, hke⟩ : ∃ l, l = blen n := ⟨_, rfl⟩
  rw [← hke] at SN hF
  obtain ⟨l, hle⟩ : ∃ l, l = blen g := ⟨_, rfl⟩
  rw [← hle] at SL hF
  clear hn hg hke hle
  by_cases hm : m < 0 ∨ 100 < m
  · rw [if_pos hm] at hF
    subst hF
    clear SL SN
    rcases hm with hm | hm
    · clear hE
      go_enter Tryz.func62, Tryz.ntmps62
      have HB := Lib.hid (Below.refl w.heap.size w)
      have Gn := Lib.hid (alloc_new (w) (.cells (wcells n) 24))
      replace HB := Lib.hid (below_al HB.out (.cells (wcells n) 24))
      replace Gn := Lib.hid (keepAl (o' := .cells (wcells g) 24) Gn.out)
      have Gg := Lib.hid (alloc_new' (w := (w).alloc (.cells (wcells n) 24)) (n := w.heap.size + 1) (.cells (wcells g) 24) (by simp))
      replace HB := Lib.hid (below_al HB.out (.cells (wcells g) 24))
      replace Gn := Lib.hid (keepAl (o' := .cells (wcells 0) 24) Gn.out)
      replace Gg := Lib.hid (keepAl (o' := .cells (wcells 0) 24) Gg.out)
      have Gx := Lib.hid (alloc_new' (w := ((w).alloc (.cells (wcells n) 24)).alloc (.cells (wcells g) 24)) (n := w.heap.size + 1 + 1) (.cells (wcells 0) 24) (by simp))
      replace HB := Lib.hid (below_al HB.out (.cells (wcells 0) 24))
      replace Gn := Lib.hid (keepAl (o' := .cells (wcells 0) 24) Gn.out)
      replace Gg := Lib.hid (keepAl (o' := .cells (wcells 0) 24) Gg.out)
      replace Gx := Lib.hid (keepAl (o' := .cells (wcells 0) 24) Gx.out)
      have Gy := Lib.hid (alloc_new' (w := (((w).alloc (.cells (wcells n) 24)).alloc (.cells (wcells g) 24)).alloc (.cells (wcells 0) 24)) (n := w.heap.size + 1 + 1 + 1) (.cells (wcells 0) 24) (by simp))
      replace HB := Lib.hid (below_al HB.out (.cells (wcells 0) 24))
      have HZ := Lib.hid (lt_of_heap Gy.out)
      have hz := HZ.out
      have stx := st_row (P := Tryz.prog) Gx.out rfl (0)
      replace Gy := Lib.hid ((setRow_other (((((w).alloc (.cells (wcells n) 24)).alloc (.cells (wcells g) 24)).alloc (.cells (wcells 0) 24)).alloc (.cells (wcells 0) 24)) (w.heap.size + 1 + 1) _ (wcells (0)) (by (omega))).trans Gy.out)
      replace Gx := Lib.hid (setRow_heap (((((w).alloc (.cells (wcells n) 24)).alloc (.cells (wcells g) 24)).alloc (.cells (wcells 0) 24)).alloc (.cells (wcells 0) 24)) (w.heap.size + 1 + 1) _ (wcells (0)) _ _ Gx.out)
      replace HB := Lib.hid (below_setRow' HB.out (show _ ≤ w.heap.size + 1 + 1 by (omega)) (wcells (0)))
      have q1 := stx
      clear stx
      have sty := st_row (P := Tryz.prog) Gy.out rfl (0)
      replace Gx := Lib.hid ((setRow_other ((((((w).alloc (.cells (wcells n) 24)).alloc (.cells (wcells g) 24)).alloc (.cells (wcells 0) 24)).alloc (.cells (wcells 0) 24)).setRow (w.heap.size + 1 + 1) (wcells (0))) (w.heap.size + 1 + 1 + 1) _ (wcells (0)) (by (omega))).trans Gx.out)
      replace Gy := Lib.hid (setRow_heap ((((((w).alloc (.cells (wcells n) 24)).alloc (.cells (wcells g) 24)).alloc (.cells (wcells 0) 24)).alloc (.cells (wcells 0) 24)).setRow (w.heap.size + 1 + 1) (wcells (0))) (w.heap.size + 1 + 1 + 1) _ (wcells (0)) _ _ Gy.out)
      replace HB := Lib.hid (below_setRow' HB.out (show _ ≤ w.heap.size + 1 + 1 + 1 by (omega)) (wcells (0)))
      have cGx := cell_row Gx.out
      have cGy := cell_row Gy.out
      go_wp2
      exact bodyPost_ret (v := .tuple #[wv 0, wv 0, .int .i64 0, .int .i64 1]) (res_cctt Tryz.results62 _ _ _ _ _ _ _ _ _ _ _ _ rfl rfl rfl rfl Gx.out Gy.out aggW aggW) rfl ⟨rfl, HB.out⟩
    · have hm0 : ¬ m < 0 := by omega
      go_enter Tryz.func62, Tryz.ntmps62
      have HB := Lib.hid (Below.refl w.heap.size w)
      have Gn := Lib.hid (alloc_new (w) (.cells (wcells n) 24))
      replace HB := Lib.hid (below_al HB.out (.cells (wcells n) 24))
      replace Gn := Lib.hid (keepAl (o' := .cells (wcells g) 24) Gn.out)
      have Gg := Lib.hid (alloc_new' (w := (w).alloc (.cells (wcells n) 24)) (n := w.heap.size + 1) (.cells (wcells g) 24) (by simp))
      replace HB := Lib.hid (below_al HB.out (.cells (wcells g) 24))
      replace Gn := Lib.hid (keepAl (o' := .cells (wcells 0) 24) Gn.out)
      replace Gg := Lib.hid (keepAl (o' := .cells (wcells 0) 24) Gg.out)
      have Gx := Lib.hid (alloc_new' (w := ((w).alloc (.cells (wcells n) 24)).alloc (.cells (wcells g) 24)) (n := w.heap.size + 1 + 1) (.cells (wcells 0) 24) (by simp))
      replace HB := Lib.hid (below_al HB.out (.cells (wcells 0) 24))
      replace Gn := Lib.hid (keepAl (o' := .cells (wcells 0) 24) Gn.out)
      replace Gg := Lib.hid (keepAl (o' := .cells (wcells 0) 24) Gg.out)
      replace Gx := Lib.hid (keepAl (o' := .cells (wcells 0) 24) Gx.out)
      have Gy := Lib.hid (alloc_new' (w := (((w).alloc (.cells (wcells n) 24)).alloc (.cells (wcells g) 24)).alloc (.cells (wcells 0) 24)) (n := w.heap.size + 1 + 1 + 1) (.cells (wcells 0) 24) (by simp))
      replace HB := Lib.hid (below_al HB.out (.cells (wcells 0) 24))
      have HZ := Lib.hid (lt_of_heap Gy.out)
      have hz := HZ.out
      have stx := st_row (P := Tryz.prog) Gx.out rfl (0)
      replace Gy := Lib.hid ((setRow_other (((((w).alloc (.cells (wcells n) 24)).alloc (.cells (wcells g) 24)).alloc (.cells (wcells 0) 24)).alloc (.cells (wcells 0) 24)) (w.heap.size + 1 + 1) _ (wcells (0)) (by (omega))).trans Gy.out)
      replace Gx := Lib.hid (setRow_heap (((((w).alloc (.cells (wcells n) 24)).alloc (.cells (wcells g) 24)).alloc (.cells (wcells 0) 24)).alloc (.cells (wcells 0) 24)) (w.heap.size + 1 + 1) _ (wcells (0)) _ _ Gx.out)
      replace HB := Lib.hid (below_setRow' HB.out (show _ ≤ w.heap.size + 1 + 1 by (omega)) (wcells (0)))
      have q1 := stx
      clear stx
      have sty := st_row (P := Tryz.prog) Gy.out rfl (0)
      replace Gx := Lib.hid ((setRow_other ((((((w).alloc (.cells (wcells n) 24)).alloc (.cells (wcells g) 24)).alloc (.cells (wcells 0) 24)).alloc (.cells (wcells 0) 24)).setRow (w.heap.size + 1 + 1) (wcells (0))) (w.heap.size + 1 + 1 + 1) _ (wcells (0)) (by (omega))).trans Gx.out)
      replace Gy := Lib.hid (setRow_heap ((((((w).alloc (.cells (wcells n) 24)).alloc (.cells (wcells g) 24)).alloc (.cells (wcells 0) 24)).alloc (.cells (wcells 0) 24)).setRow (w.heap.size + 1 + 1) (wcells (0))) (w.heap.size + 1 + 1 + 1) _ (wcells (0)) _ _ Gy.out)
      replace HB := Lib.hid (below_setRow' HB.out (show _ ≤ w.heap.size + 1 + 1 + 1 by (omega)) (wcells (0)))
      have cGx := cell_row Gx.out
      have cGy := cell_row Gy.out
      go_wp2
      exact bodyPost_ret (v := .tuple #[wv 0, wv 0, .int .i64 0, .int .i64 1]) (res_cctt Tryz.results62 _ _ _ _ _ _ _ _ _ _ _ _ rfl rfl rfl rfl Gx.out Gy.out aggW aggW) rfl ⟨rfl, HB.out⟩
  · rw [if_neg hm] at hF
    have hm0 : ¬ m < 0 := by omega
    have hm1 : ¬ 100 < m := by omega
    clear hm
    by_cases h0 : 256 < k
    · rw [if_pos (Or.inl h0)] at hF
      subst hF
      have h0' : (256 : Int) < (k : Int) := by omega
      clear h0 SL
      go_enter Tryz.func62, Tryz.ntmps62
      have HB := Lib.hid (Below.refl w.heap.size w)
      have Gn := Lib.hid (alloc_new (w) (.cells (wcells n) 24))
      replace HB := Lib.hid (below_al HB.out (.cells (wcells n) 24))
      replace Gn := Lib.hid (keepAl (o' := .cells (wcells g) 24) Gn.out)
      have Gg := Lib.hid (alloc_new' (w := (w).alloc (.cells (wcells n) 24)) (n := w.heap.size + 1) (.cells (wcells g) 24) (by simp))
      replace HB := Lib.hid (below_al HB.out (.cells (wcells g) 24))
      replace Gn := Lib.hid (keepAl (o' := .cells (wcells 0) 24) Gn.out)
      replace Gg := Lib.hid (keepAl (o' := .cells (wcells 0) 24) Gg.out)
      have Gx := Lib.hid (alloc_new' (w := ((w).alloc (.cells (wcells n) 24)).alloc (.cells (wcells g) 24)) (n := w.heap.size + 1 + 1) (.cells (wcells 0) 24) (by simp))
      replace HB := Lib.hid (below_al HB.out (.cells (wcells 0) 24))
      replace Gn := Lib.hid (keepAl (o' := .cells (wcells 0) 24) Gn.out)
      replace Gg := Lib.hid (keepAl (o' := .cells (wcells 0) 24) Gg.out)
      replace Gx := Lib.hid (keepAl (o' := .cells (wcells 0) 24) Gx.out)
      have Gy := Lib.hid (alloc_new' (w := (((w).alloc (.cells (wcells n) 24)).alloc (.cells (wcells g) 24)).alloc (.cells (wcells 0) 24)) (n := w.heap.size + 1 + 1 + 1) (.cells (wcells 0) 24) (by simp))
      replace HB := Lib.hid (below_al HB.out (.cells (wcells 0) 24))
      have cGn := cell_row Gn.out
      have cGg := cell_row Gg.out
      have cGx := cell_row Gx.out
      have cGy := cell_row Gy.out
      go_wp2_with fail
      refine (SN.out _).mono ?_
      rintro e w10 ⟨rfl, hb⟩
      clear cGn cGg cGx cGy
      replace HB := Lib.hid (below_then HB.out hb)
      replace Gn := Lib.hid ((hb.block _ (lt_of_heap Gn.out)).trans Gn.out)
      replace Gg := Lib.hid ((hb.block _ (lt_of_heap Gg.out)).trans Gg.out)
      replace Gx := Lib.hid ((hb.block _ (lt_of_heap Gx.out)).trans Gx.out)
      replace Gy := Lib.hid ((hb.block _ (lt_of_heap Gy.out)).trans Gy.out)
      clear hb
      have HZ := Lib.hid (lt_of_heap Gy.out)
      have hz := HZ.out
      have stx := st_row (P := Tryz.prog) Gx.out rfl (0)
      replace Gy := Lib.hid ((setRow_other (w10) (w.heap.size + 1 + 1) _ (wcells (0)) (by (omega))).trans Gy.out)
      replace Gx := Lib.hid (setRow_heap (w10) (w.heap.size + 1 + 1) _ (wcells (0)) _ _ Gx.out)
      replace HB := Lib.hid (below_setRow' HB.out (show _ ≤ w.heap.size + 1 + 1 by (omega)) (wcells (0)))
      have q1 := stx
      clear stx
      have sty := st_row (P := Tryz.prog) Gy.out rfl (0)
      replace Gx := Lib.hid ((setRow_other ((w10).setRow (w.heap.size + 1 + 1) (wcells (0))) (w.heap.size + 1 + 1 + 1) _ (wcells (0)) (by (omega))).trans Gx.out)
      replace Gy := Lib.hid (setRow_heap ((w10).setRow (w.heap.size + 1 + 1) (wcells (0))) (w.heap.size + 1 + 1 + 1) _ (wcells (0)) _ _ Gy.out)
      replace HB := Lib.hid (below_setRow' HB.out (show _ ≤ w.heap.size + 1 + 1 + 1 by (omega)) (wcells (0)))
      have cGx := cell_row Gx.out
      have cGy := cell_row Gy.out
      go_wp2
      exact bodyPost_ret (v := .tuple #[wv 0, wv 0, .int .i64 0, .int .i64 4]) (res_cctt Tryz.results62 _ _ _ _ _ _ _ _ _ _ _ _ rfl rfl rfl rfl Gx.out Gy.out aggW aggW) rfl ⟨rfl, HB.out⟩
    · by_cases h1 : 200 < l
      · rw [if_pos (Or.inr h1)] at hF
        subst hF
        have h0' : ¬ (256 : Int) < (k : Int) := by omega
        have h1' : (200 : Int) < (l : Int) := by omega
        clear h0 h1
        go_enter Tryz.func62, Tryz.ntmps62
        have HB := Lib.hid (Below.refl w.heap.size w)
        have Gn := Lib.hid (alloc_new (w) (.cells (wcells n) 24))
        replace HB := Lib.hid (below_al HB.out (.cells (wcells n) 24))
        replace Gn := Lib.hid (keepAl (o' := .cells (wcells g) 24) Gn.out)
        have Gg := Lib.hid (alloc_new' (w := (w).alloc (.cells (wcells n) 24)) (n := w.heap.size + 1) (.cells (wcells g) 24) (by simp))
        replace HB := Lib.hid (below_al HB.out (.cells (wcells g) 24))
        replace Gn := Lib.hid (keepAl (o' := .cells (wcells 0) 24) Gn.out)
        replace Gg := Lib.hid (keepAl (o' := .cells (wcells 0) 24) Gg.out)
        have Gx := Lib.hid (alloc_new' (w := ((w).alloc (.cells (wcells n) 24)).alloc (.cells (wcells g) 24)) (n := w.heap.size + 1 + 1) (.cells (wcells 0) 24) (by simp))
        replace HB := Lib.hid (below_al HB.out (.cells (wcells 0) 24))
        replace Gn := Lib.hid (keepAl (o' := .cells (wcells 0) 24) Gn.out)
        replace Gg := Lib.hid (keepAl (o' := .cells (wcells 0) 24) Gg.out)
        replace Gx := Lib.hid (keepAl (o' := .cells (wcells 0) 24) Gx.out)
        have Gy := Lib.hid (alloc_new' (w := (((w).alloc (.cells (wcells n) 24)).alloc (.cells (wcells g) 24)).alloc (.cells (wcells 0) 24)) (n := w.heap.size + 1 + 1 + 1) (.cells (wcells 0) 24) (by simp))
        replace HB := Lib.hid (below_al HB.out (.cells (wcells 0) 24))
        have cGn := cell_row Gn.out
        have cGg := cell_row Gg.out
        have cGx := cell_row Gx.out
        have cGy := cell_row Gy.out
        go_wp2_with fail
        refine (SN.out _).mono ?_
        rintro e w11 ⟨rfl, hb⟩
        clear cGn cGg cGx cGy
        replace HB := Lib.hid (below_then HB.out hb)
        replace Gn := Lib.hid ((hb.block _ (lt_of_heap Gn.out)).trans Gn.out)
        replace Gg := Lib.hid ((hb.block _ (lt_of_heap Gg.out)).trans Gg.out)
        replace Gx := Lib.hid ((hb.block _ (lt_of_heap Gx.out)).trans Gx.out)
        replace Gy := Lib.hid ((hb.block _ (lt_of_heap Gy.out)).trans Gy.out)
        clear hb
        have cGn := cell_row Gn.out
        have cGg := cell_row Gg.out
        have cGx := cell_row Gx.out
        have cGy := cell_row Gy.out
        go_wp2_with fail
        refine (SL.out _).mono ?_
        rintro e w12 ⟨rfl, hb⟩
        clear cGn cGg cGx cGy
        replace HB := Lib.hid (below_then HB.out hb)
        replace Gn := Lib.hid ((hb.block _ (lt_of_heap Gn.out)).trans Gn.out)
        replace Gg := Lib.hid ((hb.block _ (lt_of_heap Gg.out)).trans Gg.out)
        replace Gx := Lib.hid ((hb.block _ (lt_of_heap Gx.out)).trans Gx.out)
        replace Gy := Lib.hid ((hb.block _ (lt_of_heap Gy.out)).trans Gy.out)
        clear hb
        have HZ := Lib.hid (lt_of_heap Gy.out)
        have hz := HZ.out
        have stx := st_row (P := Tryz.prog) Gx.out rfl (0)
        replace Gy := Lib.hid ((setRow_other (w12) (w.heap.size + 1 + 1) _ (wcells (0)) (by (omega))).trans Gy.out)
        replace Gx := Lib.hid (setRow_heap (w12) (w.heap.size + 1 + 1) _ (wcells (0)) _ _ Gx.out)
        replace HB := Lib.hid (below_setRow' HB.out (show _ ≤ w.heap.size + 1 + 1 by (omega)) (wcells (0)))
        have q1 := stx
        clear stx
        have sty := st_row (P := Tryz.prog) Gy.out rfl (0)
        replace Gx := Lib.hid ((setRow_other ((w12).setRow (w.heap.size + 1 + 1) (wcells (0))) (w.heap.size + 1 + 1 + 1) _ (wcells (0)) (by (omega))).trans Gx.out)
        replace Gy := Lib.hid (setRow_heap ((w12).setRow (w.heap.size + 1 + 1) (wcells (0))) (w.heap.size + 1 + 1 + 1) _ (wcells (0)) _ _ Gy.out)
        replace HB := Lib.hid (below_setRow' HB.out (show _ ≤ w.heap.size + 1 + 1 + 1 by (omega)) (wcells (0)))
        have cGx := cell_row Gx.out
        have cGy := cell_row Gy.out
        go_wp2
        exact bodyPost_ret (v := .tuple #[wv 0, wv 0, .int .i64 0, .int .i64 4]) (res_cctt Tryz.results62 _ _ _ _ _ _ _ _ _ _ _ _ rfl rfl rfl rfl Gx.out Gy.out aggW aggW) rfl ⟨rfl, HB.out⟩
      · rw [if_neg (fun h => h.elim h0 h1)] at hF
        exact absurd hF hE
end Go.Proofs.YtegmmaaapdgocaaGreat
