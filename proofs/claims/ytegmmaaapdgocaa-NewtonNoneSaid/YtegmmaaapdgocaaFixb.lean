/- THE WALKS of package fix, going on: quotients by a guess. -/
import Derived.Test.YtegmmaaapdgocaaFix
import Derived.Laws.EntriesVeiled
namespace Go.Proofs.Ytegmmaaapdgocaa
open Go Go.RowKit

attribute [local go_sem ↓] Go.wp_at_zero Go.wp_at_succ
set_option maxRecDepth 100000 in
set_option maxHeartbeats 2000000 in
theorem told_no (f f2 : FuncId) (caps caps2 : Array Value) (g q m : Nat) (w : World) (hg : g < P2 201) (hm : m ≤ 100) (hd : m < (g - q) + (q - g)) (hcall : Enters Try.prog f) (hT : Above Try.prog f caps w q) :
    Calls Try.prog 47 #[wv g, .int .i64 (m : Int), .func (.func f) #[] caps, .func (.func f2) #[] caps2] w fun e w' => e = .returned (.tuple #[wv 0, wv 0, .int .i64 0, .int .i64 6]) ∧ Below w.heap.size w w' := by
  have S1 : Hid (∀ w' : World, Below w.heap.size w w' → Calls Try.prog 77 #[wv g, .int .i64 (m : Int), .func (.func f) #[] caps] w' fun e w'' => ∃ x n, e = .returned (.tuple #[wv x, .int .i64 n, .bool false]) ∧ Below w'.heap.size w' w'') := Lib.hid fun w' hb => by
    rcases (show m < g - q ∨ m < q - g by omega) with h | h
    · exact right_down f caps g q m w' hg hm h hcall (fun x w'' hx hb' => hT x w'' hx (below_then hb hb'))
    · exact right_up f caps g q m w' hg hm h hcall (fun x w'' hx hb' => hT x w'' hx (below_then hb hb'))
  clear hg hm hd hcall hT
  go_enter Try.func47, Try.ntmps47
  have HB := Lib.hid (Below.refl w.heap.size w)
  have Gg := Lib.hid (alloc_new (w) (.cells (wcells g) 24))
  replace HB := Lib.hid (below_al HB.out (.cells (wcells g) 24))
  replace Gg := Lib.hid (keepAl (o' := .cells (wcells 0) 24) Gg.out)
  have Gx := Lib.hid (alloc_new' (w := (w).alloc (.cells (wcells g) 24)) (n := w.heap.size + 1) (.cells (wcells 0) 24) (by simp))
  replace HB := Lib.hid (below_al HB.out (.cells (wcells 0) 24))
  replace Gg := Lib.hid (keepAl (o' := .cells (wcells 0) 24) Gg.out)
  replace Gx := Lib.hid (keepAl (o' := .cells (wcells 0) 24) Gx.out)
  have Gy := Lib.hid (alloc_new' (w := ((w).alloc (.cells (wcells g) 24)).alloc (.cells (wcells 0) 24)) (n := w.heap.size + 1 + 1) (.cells (wcells 0) 24) (by simp))
  replace HB := Lib.hid (below_al HB.out (.cells (wcells 0) 24))
  have cGg := cell_row Gg.out
  have cGx := cell_row Gx.out
  have cGy := cell_row Gy.out
  go_wp2_with fail
  refine (S1.out _ HB.out).mono ?_
  rintro e w1 ⟨v, n, rfl, hb⟩
  clear cGg cGx cGy
  replace HB := Lib.hid (below_then HB.out hb)
  replace Gg := Lib.hid ((hb.block _ (lt_of_heap Gg.out)).trans Gg.out)
  replace Gx := Lib.hid ((hb.block _ (lt_of_heap Gx.out)).trans Gx.out)
  replace Gy := Lib.hid ((hb.block _ (lt_of_heap Gy.out)).trans Gy.out)
  clear hb
  have HZ := Lib.hid (lt_of_heap Gy.out)
  replace Gx := Lib.hid (keepAl (o' := .cells (wcells v) 24) Gx.out)
  replace Gy := Lib.hid (keepAl (o' := .cells (wcells v) 24) Gy.out)
  have Gq := Lib.hid (alloc_new (w1) (.cells (wcells v) 24))
  replace HB := Lib.hid (below_al HB.out (.cells (wcells v) 24))
  have hz := HZ.out
  have stx := st_row (P := Try.prog) Gx.out rfl (0)
  replace Gy := Lib.hid ((setRow_other ((w1).alloc (.cells (wcells v) 24)) (w.heap.size + 1) _ (wcells (0)) (by (omega))).trans Gy.out)
  replace Gx := Lib.hid (setRow_heap ((w1).alloc (.cells (wcells v) 24)) (w.heap.size + 1) _ (wcells (0)) _ _ Gx.out)
  replace HB := Lib.hid (below_setRow' HB.out (show _ ≤ w.heap.size + 1 by (omega)) (wcells (0)))
  have q1 := stx
  clear stx
  have sty := st_row (P := Try.prog) Gy.out rfl (0)
  replace Gx := Lib.hid ((setRow_other (((w1).alloc (.cells (wcells v) 24)).setRow (w.heap.size + 1) (wcells (0))) (w.heap.size + 1 + 1) _ (wcells (0)) (by (omega))).trans Gx.out)
  replace Gy := Lib.hid (setRow_heap (((w1).alloc (.cells (wcells v) 24)).setRow (w.heap.size + 1) (wcells (0))) (w.heap.size + 1 + 1) _ (wcells (0)) _ _ Gy.out)
  replace HB := Lib.hid (below_setRow' HB.out (show _ ≤ w.heap.size + 1 + 1 by (omega)) (wcells (0)))
  have cGx := cell_row Gx.out
  have cGy := cell_row Gy.out
  go_wp2
  exact bodyPost_ret (v := .tuple #[wv 0, wv 0, .int .i64 0, .int .i64 6]) (res_cctt Try.results47 _ _ _ _ _ _ _ _ _ _ _ _ rfl rfl rfl rfl Gx.out Gy.out aggW aggW) rfl ⟨rfl, HB.out⟩

set_option maxHeartbeats 2000000 in
theorem timesQ_any (x d pd : Nat) (hx : x < M) (hd : d < M) (w : World) (h : w.heap[pd]? = some (.cells (wcells d) 24 (0, 0))) :
    Calls Try.prog 61 #[wv x, .pointer (some ⟨pd, 0, none⟩)] w fun e w' => e = .returned (wv (x * d % M)) ∧ Below w.heap.size w w' := by
  have S1 := Lib.hid (fun w' => mul_w x d hx hd w')
  obtain ⟨q, hq⟩ : ∃ q, q = x * d % M := ⟨_, rfl⟩
  obtain ⟨f, hf⟩ : ∃ q, q = decide (x * d < M) := ⟨_, rfl⟩
  rw [← hq, ← hf] at S1
  rw [← hq]
  have Gd := Lib.hid h
  clear hx hd hq hf h
  go_enter Try.func61, Try.ntmps61
  have HB := Lib.hid (Below.refl w.heap.size w)
  replace Gd := Lib.hid (keepAl (o' := .cells (wcells x) 24) Gd.out)
  have Gx := Lib.hid (alloc_new (w) (.cells (wcells x) 24))
  replace HB := Lib.hid (below_al HB.out (.cells (wcells x) 24))
  replace Gd := Lib.hid (keepAl (o' := .cells (wcells 0) 24) Gd.out)
  replace Gx := Lib.hid (keepAl (o' := .cells (wcells 0) 24) Gx.out)
  have Go := Lib.hid (alloc_new' (w := (w).alloc (.cells (wcells x) 24)) (n := w.heap.size + 1) (.cells (wcells 0) 24) (by simp))
  replace HB := Lib.hid (below_al HB.out (.cells (wcells 0) 24))
  have cGd := cell_row Gd.out
  have cGx := cell_row Gx.out
  have cGo := cell_row Go.out
  go_wp2_with fail
  refine (S1.out _).mono ?_
  rintro e w2 ⟨rfl, hb⟩
  clear cGd cGx cGo
  replace HB := Lib.hid (below_then HB.out hb)
  replace Gd := Lib.hid ((hb.block _ (lt_of_heap Gd.out)).trans Gd.out)
  replace Gx := Lib.hid ((hb.block _ (lt_of_heap Gx.out)).trans Gx.out)
  replace Go := Lib.hid ((hb.block _ (lt_of_heap Go.out)).trans Go.out)
  clear hb
  have HZ := Lib.hid (lt_of_heap Go.out)
  replace Go := Lib.hid (keepAl (o' := .cells (wcells q) 24) Go.out)
  have Gp := Lib.hid (alloc_new (w2) (.cells (wcells q) 24))
  replace HB := Lib.hid (below_al HB.out (.cells (wcells q) 24))
  have cp := cell_row Gp.out
  have sto := st_row (P := Try.prog) Go.out rfl (q)
  replace Go := Lib.hid (setRow_heap ((w2).alloc (.cells (wcells q) 24)) (w.heap.size + 1) _ (wcells (q)) _ _ Go.out)
  replace HB := Lib.hid (below_setRow' HB.out (show _ ≤ w.heap.size + 1 by (omega)) (wcells (q)))
  have cGo := cell_row Go.out
  go_wp2
  exact bodyPost_ret (v := wv q) (res_c Try.results61 _ _ _ _ _ _ rfl Go.out aggW) rfl ⟨rfl, HB.out⟩
theorem enters_timesQ : Enters Try.prog 61 := fun args w => by simp [go_sem]
theorem enters_aboveQ : Enters Try.prog 62 := fun args w => by simp [go_sem]
theorem enters_leftQ : Enters Try.prog 63 := fun args w => by simp [go_sem]
/-- The variable of a function value. -/
abbrev fcell (f : FuncId) (caps : Array Value) : Array Value := #[.func (.func f) #[] caps]
theorem cmp_pos (a b : Nat) : decide (0 < cmpN a b) = decide (b < a) := by
  unfold cmpN
  by_cases h1 : a < b
  · rw [if_pos h1, decide_eq_false (by omega), decide_eq_false (by omega)]
  · rw [if_neg h1]
    by_cases h2 : b < a
    · rw [if_pos h2, decide_eq_true (by omega), decide_eq_true h2]
    · rw [if_neg h2, decide_eq_false (by omega), decide_eq_false h2]

set_option maxRecDepth 100000 in
set_option maxHeartbeats 2000000 in
theorem aboveQ_any (x n d pt pn pd : Nat) (hx : x < M) (hd : d < M) (hn : n < M) (hxd : x * d < M) (w : World) (hpd : w.heap[pd]? = some (.cells (wcells d) 24 (0, 0))) (hpn : w.heap[pn]? = some (.cells (wcells n) 24 (0, 0))) {T : TypeId}
    (hpt : w.heap[pt]? = some (.cells (fcell 61 #[.pointer (some ⟨pd, 0, none⟩)]) T (0, 0))) :
    Calls Try.prog 62 #[wv x, .pointer (some ⟨pt, 0, none⟩), .pointer (some ⟨pn, 0, none⟩)] w fun e w' => e = .returned (.bool (decide (n < x * d))) ∧ Below w.heap.size w w' := by
  have S1 : Hid (∀ w' : World, w'.heap[pd]? = some (.cells (wcells d) 24 (0, 0)) → Calls Try.prog 61 #[wv x, .pointer (some ⟨pd, 0, none⟩)] w' fun e w'' => e = .returned (wv (x * d)) ∧ Below w'.heap.size w' w'') := Lib.hid fun w' h => by
    have := timesQ_any x d pd hx hd w' h
    rwa [Nat.mod_eq_of_lt hxd] at this
  have S2 := Lib.hid (fun w' => cmp_w (x * d) n hxd hn w')
  have HC := Lib.hid (cmp_pos (x * d) n)
  obtain ⟨y, hy⟩ : ∃ y, y = x * d := ⟨_, rfl⟩
  rw [← hy] at S1 S2 HC ⊢
  obtain ⟨c, hc⟩ : ∃ c, c = cmpN y n := ⟨_, rfl⟩
  rw [← hc] at S2 HC
  have Gd := Lib.hid hpd; have Gn := Lib.hid hpn; have Gt := Lib.hid hpt
  clear hx hd hn hxd hpd hpn hpt hy hc
  go_enter Try.func62, Try.ntmps62
  have HB := Lib.hid (Below.refl w.heap.size w)
  replace Gd := Lib.hid (keepAl (o' := .cells (wcells x) 24) Gd.out)
  replace Gn := Lib.hid (keepAl (o' := .cells (wcells x) 24) Gn.out)
  replace Gt := Lib.hid (keepAl (o' := .cells (wcells x) 24) Gt.out)
  have Gx := Lib.hid (alloc_new (w) (.cells (wcells x) 24))
  replace HB := Lib.hid (below_al HB.out (.cells (wcells x) 24))
  go_upto_region 1 with fail
  obtain ⟨wL, hw⟩ : ∃ wx, wx = (w).alloc (.cells (wcells x) 24) := ⟨_, rfl⟩
  rw [← hw] at Gd Gn Gt Gx HB ⊢
  clear hw
  have Gd2 := Gd
  have xGd := ext_row (B := wL.heap.size) Gd.out (lt_of_heap Gd.out)
  have xGn := ext_row (B := wL.heap.size) Gn.out (lt_of_heap Gn.out)
  have xGt := ext_row (B := wL.heap.size) Gt.out (lt_of_heap Gt.out)
  have xGx := ext_row (B := wL.heap.size) Gx.out (lt_of_heap Gx.out)
  refine wp_region_ext wL.heap.size (by kernel_rfl) (by kernel_rfl) ?_
  repeat (go_big_quiet_step (first | (go_at_call 61; with_reducible exact Calls.quiet_ext (Nat.le_refl _) (S1.out _ (ext_block Gd2.out (lt_of_heap Gd2.out) _))) | (go_at_call 49; with_reducible exact Calls.quiet_ext (Nat.le_refl _) (S2.out _))))
  refine wpQuiet_nil ?_
  intro w3 hb
  clear xGd xGn xGt xGx
  replace HB := Lib.hid (below_then HB.out hb)
  replace Gd := Lib.hid ((hb.block _ (lt_of_heap Gd.out)).trans Gd.out)
  replace Gn := Lib.hid ((hb.block _ (lt_of_heap Gn.out)).trans Gn.out)
  replace Gt := Lib.hid ((hb.block _ (lt_of_heap Gt.out)).trans Gt.out)
  replace Gx := Lib.hid ((hb.block _ (lt_of_heap Gx.out)).trans Gx.out)
  clear hb
  go_wp2
  go_ret
  exact ⟨ret_bool HC.out, HB.out⟩

set_option maxRecDepth 100000 in
set_option maxHeartbeats 2000000 in
theorem leftQ_any (q n d pt pn pd : Nat) (hq : q < M) (hd : d < M) (hn : n < M) (hqd : q * d ≤ n) (w : World) (hpd : w.heap[pd]? = some (.cells (wcells d) 24 (0, 0))) (hpn : w.heap[pn]? = some (.cells (wcells n) 24 (0, 0))) {T : TypeId}
    (hpt : w.heap[pt]? = some (.cells (fcell 61 #[.pointer (some ⟨pd, 0, none⟩)]) T (0, 0))) :
    Calls Try.prog 63 #[wv q, .pointer (some ⟨pn, 0, none⟩), .pointer (some ⟨pt, 0, none⟩)] w fun e w' => e = .returned (wv (n - q * d)) ∧ Below w.heap.size w w' := by
  have S1 : Hid (∀ w' : World, w'.heap[pd]? = some (.cells (wcells d) 24 (0, 0)) → Calls Try.prog 61 #[wv q, .pointer (some ⟨pd, 0, none⟩)] w' fun e w'' => e = .returned (wv (q * d)) ∧ Below w'.heap.size w' w'') := Lib.hid fun w' h => by
    have := timesQ_any q d pd hq hd w' h
    rwa [Nat.mod_eq_of_lt (show q * d < M by omega)] at this
  have S2 := Lib.hid (fun w' => without_w n (q * d) hn (by omega) w')
  have hr : subN n (q * d) = n - q * d := by
    unfold subN
    rw [show n + M - q * d = (n - q * d) + M by omega, Nat.add_mod_right, Nat.mod_eq_of_lt (by omega)]
  rw [hr] at S2
  obtain ⟨r, hr'⟩ : ∃ r, r = n - q * d := ⟨_, rfl⟩
  rw [← hr'] at S2 ⊢
  obtain ⟨y, hy⟩ : ∃ y, y = q * d := ⟨_, rfl⟩
  rw [← hy] at S1 S2
  have Gd := Lib.hid hpd; have Gn := Lib.hid hpn; have Gt := Lib.hid hpt
  clear hq hd hn hqd hpd hpn hpt hy hr hr'
  go_enter Try.func63, Try.ntmps63
  have HB := Lib.hid (Below.refl w.heap.size w)
  have hz1 := lt_of_heap Gd.out
  have hz2 := lt_of_heap Gn.out
  have hz3 := lt_of_heap Gt.out
  replace Gd := Lib.hid (keepAl (o' := .cells (wcells q) 24) Gd.out)
  replace Gn := Lib.hid (keepAl (o' := .cells (wcells q) 24) Gn.out)
  replace Gt := Lib.hid (keepAl (o' := .cells (wcells q) 24) Gt.out)
  have Gx := Lib.hid (alloc_new (w) (.cells (wcells q) 24))
  replace HB := Lib.hid (below_al HB.out (.cells (wcells q) 24))
  replace Gd := Lib.hid (keepAl (o' := .cells (wcells 0) 24) Gd.out)
  replace Gn := Lib.hid (keepAl (o' := .cells (wcells 0) 24) Gn.out)
  replace Gt := Lib.hid (keepAl (o' := .cells (wcells 0) 24) Gt.out)
  replace Gx := Lib.hid (keepAl (o' := .cells (wcells 0) 24) Gx.out)
  have Go := Lib.hid (alloc_new' (w := (w).alloc (.cells (wcells q) 24)) (n := w.heap.size + 1) (.cells (wcells 0) 24) (by simp))
  replace HB := Lib.hid (below_al HB.out (.cells (wcells 0) 24))
  go_upto_region 1 with fail
  obtain ⟨wL, hw⟩ : ∃ wx, wx = ((w).alloc (.cells (wcells q) 24)).alloc (.cells (wcells 0) 24) := ⟨_, rfl⟩
  rw [← hw] at Gd Gn Gt Gx Go HB ⊢
  clear hw
  refine wp_region_store [⟨w.heap.size + 1, 24, .tmp 9⟩] (by kernel_rfl) (by kernel_rfl) (by kernel_rfl) rfl (List.pairwise_singleton _ _) ?_ ?_
  · intro r hr
    simp only [List.mem_cons, List.not_mem_nil, or_false] at hr
    subst hr
    exact ⟨_, Go.out, by kernel_rfl⟩
  have xGd := extR_row (B := wL.heap.size) (R := [⟨w.heap.size + 1, 24, .tmp 9⟩]) Gd.out (lt_of_heap Gd.out) (by intro r hr; simp only [List.mem_cons, List.not_mem_nil, or_false] at hr; subst hr <;> dsimp only <;> (omega))
  have xGn := extR_row (B := wL.heap.size) (R := [⟨w.heap.size + 1, 24, .tmp 9⟩]) Gn.out (lt_of_heap Gn.out) (by intro r hr; simp only [List.mem_cons, List.not_mem_nil, or_false] at hr; subst hr <;> dsimp only <;> (omega))
  have xGt := extR_row (B := wL.heap.size) (R := [⟨w.heap.size + 1, 24, .tmp 9⟩]) Gt.out (lt_of_heap Gt.out) (by intro r hr; simp only [List.mem_cons, List.not_mem_nil, or_false] at hr; subst hr <;> dsimp only <;> (omega))
  have xGx := extR_row (B := wL.heap.size) (R := [⟨w.heap.size + 1, 24, .tmp 9⟩]) Gx.out (lt_of_heap Gx.out) (by intro r hr; simp only [List.mem_cons, List.not_mem_nil, or_false] at hr; subst hr <;> dsimp only <;> (omega))
  repeat (refine wpCalm_step (fun K hK => ?_); go_simp; first | (refine hK _ ?_; clear hK K) | (apply Exists.intro; refine ⟨fun _ => ?_, hK _ ?_⟩; (first | with_reducible exact S1.out _ (extR_block _ Gd.out (lt_of_heap Gd.out) (by intro r hr; simp only [List.mem_cons, List.not_mem_nil, or_false] at hr; subst hr; dsimp only; omega)) | with_reducible exact S2.out _ | exact S1.out _ (extR_block _ Gd.out (lt_of_heap Gd.out) (by intro r hr; simp only [List.mem_cons, List.not_mem_nil, or_false] at hr; subst hr; dsimp only; omega)) | exact S2.out _); clear hK K))
  refine wpCalm_nil ⟨?_, fun x hx => ?_⟩
  · intro r hr
    simp only [List.mem_cons, List.not_mem_nil, or_false] at hr
    subst hr <;> exact fits_wv (by kernel_rfl) _
  replace Go : Hid (x.val.heap[w.heap.size + 1]? = some (.cells (wcells (r)) 24 (0, 0))) := Lib.hid (hx ⟨w.heap.size + 1, 24, .tmp 9⟩ (by simp))
  replace Gd := Lib.hid (extR_block x Gd.out (lt_of_heap Gd.out) (by intro r hr; simp only [List.mem_cons, List.not_mem_nil, or_false] at hr; subst hr <;> dsimp only <;> (omega)))
  replace Gn := Lib.hid (extR_block x Gn.out (lt_of_heap Gn.out) (by intro r hr; simp only [List.mem_cons, List.not_mem_nil, or_false] at hr; subst hr <;> dsimp only <;> (omega)))
  replace Gt := Lib.hid (extR_block x Gt.out (lt_of_heap Gt.out) (by intro r hr; simp only [List.mem_cons, List.not_mem_nil, or_false] at hr; subst hr <;> dsimp only <;> (omega)))
  replace Gx := Lib.hid (extR_block x Gx.out (lt_of_heap Gx.out) (by intro r hr; simp only [List.mem_cons, List.not_mem_nil, or_false] at hr; subst hr <;> dsimp only <;> (omega)))
  replace HB := Lib.hid (extR_below x HB.out HB.out.size (by intro r hr; simp only [List.mem_cons, List.not_mem_nil, or_false] at hr; subst hr <;> dsimp only <;> (omega)))
  clear hx xGd xGn xGt xGx
  obtain ⟨w4, hw⟩ : ∃ wx, wx = x.val := ⟨_, rfl⟩
  rw [← hw] at Gd Gn Gt Gx Go HB ⊢
  clear hw x
  have cGd := cell_row Gd.out
  have cGn := cell_row Gn.out
  have cGt := cell_row Gt.out
  have cGx := cell_row Gx.out
  have cGo := cell_row Go.out
  go_wp2
  exact bodyPost_ret (v := wv r) (res_c Try.results63 _ _ _ _ _ _ rfl Go.out aggW) rfl ⟨rfl, HB.out⟩

theorem quo_above {n d x : Nat} (hd : 0 < d) : decide (n < x * d) = decide (n / d < x) := by
  rw [decide_eq_decide]
  exact (Nat.div_lt_iff_lt_mul hd).symm
/-- The closures of fix.Quotient, where their variables lie. -/
theorem above_Q (n d pt pn pd : Nat) (hd0 : 0 < d) (hd : d < P2 120) (hn : n < M) (w : World) (hpd : w.heap[pd]? = some (.cells (wcells d) 24 (0, 0))) (hpn : w.heap[pn]? = some (.cells (wcells n) 24 (0, 0))) {T : TypeId}
    (hpt : w.heap[pt]? = some (.cells (fcell 61 #[.pointer (some ⟨pd, 0, none⟩)]) T (0, 0))) :
    Above Try.prog 62 #[.pointer (some ⟨pt, 0, none⟩), .pointer (some ⟨pn, 0, none⟩)] w (n / d) := by
  intro x w' hx hb
  have hxM : x < M := by have := P2_201.2.1; omega
  have hdM : d < M := Nat.lt_trans hd (by rw [M_eq]; exact P2_lt (by omega))
  have hxd : x * d < M := by
    have := Nat.mul_lt_mul'' hx hd
    rw [← P2_add] at this
    rw [M_eq]
    exact Nat.lt_of_lt_of_le this (P2_le (by omega))
  have := aboveQ_any x n d pt pn pd hxM hdM hn hxd w' ((hb.block _ (lt_of_heap hpd)).trans hpd) ((hb.block _ (lt_of_heap hpn)).trans hpn) ((hb.block _ (lt_of_heap hpt)).trans hpt)
  rw [quo_above hd0] at this
  exact this
theorem left_Q (n d pt pn pd : Nat) (hd : d < P2 120) (hn : n < M) (w : World) (hpd : w.heap[pd]? = some (.cells (wcells d) 24 (0, 0))) (hpn : w.heap[pn]? = some (.cells (wcells n) 24 (0, 0))) {T : TypeId}
    (hpt : w.heap[pt]? = some (.cells (fcell 61 #[.pointer (some ⟨pd, 0, none⟩)]) T (0, 0))) :
    LeftOf Try.prog 63 #[.pointer (some ⟨pn, 0, none⟩), .pointer (some ⟨pt, 0, none⟩)] w (n / d) (n % d) := by
  intro w' hb
  have hdM : d < M := Nat.lt_trans hd (by rw [M_eq]; exact P2_lt (by omega))
  have hqM : n / d < M := Nat.lt_of_le_of_lt (Nat.div_le_self _ _) hn
  have := leftQ_any (n / d) n d pt pn pd hqM hdM hn (Nat.div_mul_le_self _ _) w' ((hb.block _ (lt_of_heap hpd)).trans hpd) ((hb.block _ (lt_of_heap hpn)).trans hpn) ((hb.block _ (lt_of_heap hpt)).trans hpt)
  rw [show n - n / d * d = n % d by have := Nat.div_add_mod n d; rw [Nat.mul_comm] at this; omega] at this
  exact this

set_option maxRecDepth 100000 in
set_option maxHeartbeats 2000000 in
theorem quotient_yes (n d g m : Nat) (hn : n < M) (hd : d < M) (hmay : mayN n d = 0) (hg : g < P2 200) (hm : m ≤ 100) (hdist : (g - n / d) + (n / d - g) ≤ m) (w : World) :
    Calls Try.prog 30 #[wv n, wv d, wv g, .int .i64 (m : Int)] w fun e w' => e = .returned (.tuple #[wv (n / d), wv (n % d), .int .i64 (((g - n / d) + (n / d - g) : Nat) : Int), .int .i64 0]) ∧ Below w.heap.size w w' := by
  have h201 : P2 200 < P2 201 := P2_lt (by omega)
  have hgM : g < M := by have := P2_201.2.1; have := P2_201.1; omega
  obtain ⟨h1, h2, h3⟩ := may_ok hmay
  have hq : n / d < P2 201 := Nat.lt_trans ((Nat.div_lt_iff_lt_mul h1).2 (by rw [Nat.mul_comm]; exact h3)) (P2_lt (by omega))
  have SM := Lib.hid (fun w' => may_w n d hn hd w')
  rw [hmay] at SM
  have SL := Lib.hid (fun w' => len_w g hgM w')
  have hl := blen_le_of hg
  have hl' : ¬ (200 : Int) < (blen g : Nat) := by omega
  obtain ⟨l, hle⟩ : ∃ l, l = blen g := ⟨_, rfl⟩
  rw [← hle] at SL hl'
  have ST := Lib.hid (fun (pt pn pd : Nat) (w' : World) (T : TypeId) hpd hpn hpt => told_yes 62 63 #[.pointer (some ⟨pt, 0, none⟩), .pointer (some ⟨pn, 0, none⟩)] #[.pointer (some ⟨pn, 0, none⟩), .pointer (some ⟨pt, 0, none⟩)] g (n / d) (n % d) m w' (by omega) hq hm hdist enters_aboveQ enters_leftQ
    (above_Q n d pt pn pd h1 h2 hn w' hpd hpn (T := T) hpt) (left_Q n d pt pn pd h2 hn w' hpd hpn (T := T) hpt))
  obtain ⟨a, ha⟩ : ∃ a, a = (g - n / d) + (n / d - g) := ⟨_, rfl⟩
  obtain ⟨q, hqe⟩ : ∃ q, q = n / d := ⟨_, rfl⟩
  obtain ⟨r, hre⟩ : ∃ q, q = n % d := ⟨_, rfl⟩
  rw [← ha] at ST
  rw [← hqe, ← hre] at ST
  rw [← ha, ← hqe, ← hre]
  have hm' : (m : Int) ≤ 100 := by omega
  clear hn hd hmay hg hm hdist h201 hgM h1 h2 h3 hq hl hle ha hqe hre
  go_enter Try.func30, Try.ntmps30
  have HB := Lib.hid (Below.refl w.heap.size w)
  have Gn := Lib.hid (alloc_new (w) (.cells (wcells n) 24))
  replace HB := Lib.hid (below_al HB.out (.cells (wcells n) 24))
  replace Gn := Lib.hid (keepAl (o' := .cells (wcells d) 24) Gn.out)
  have Gd := Lib.hid (alloc_new' (w := (w).alloc (.cells (wcells n) 24)) (n := w.heap.size + 1) (.cells (wcells d) 24) (by simp))
  replace HB := Lib.hid (below_al HB.out (.cells (wcells d) 24))
  replace Gn := Lib.hid (keepAl (o' := .cells (wcells g) 24) Gn.out)
  replace Gd := Lib.hid (keepAl (o' := .cells (wcells g) 24) Gd.out)
  have Gg := Lib.hid (alloc_new' (w := ((w).alloc (.cells (wcells n) 24)).alloc (.cells (wcells d) 24)) (n := w.heap.size + 1 + 1) (.cells (wcells g) 24) (by simp))
  replace HB := Lib.hid (below_al HB.out (.cells (wcells g) 24))
  replace Gn := Lib.hid (keepAl (o' := .cells (wcells 0) 24) Gn.out)
  replace Gd := Lib.hid (keepAl (o' := .cells (wcells 0) 24) Gd.out)
  replace Gg := Lib.hid (keepAl (o' := .cells (wcells 0) 24) Gg.out)
  have Gx := Lib.hid (alloc_new' (w := (((w).alloc (.cells (wcells n) 24)).alloc (.cells (wcells d) 24)).alloc (.cells (wcells g) 24)) (n := w.heap.size + 1 + 1 + 1) (.cells (wcells 0) 24) (by simp))
  replace HB := Lib.hid (below_al HB.out (.cells (wcells 0) 24))
  replace Gn := Lib.hid (keepAl (o' := .cells (wcells 0) 24) Gn.out)
  replace Gd := Lib.hid (keepAl (o' := .cells (wcells 0) 24) Gd.out)
  replace Gg := Lib.hid (keepAl (o' := .cells (wcells 0) 24) Gg.out)
  replace Gx := Lib.hid (keepAl (o' := .cells (wcells 0) 24) Gx.out)
  have Gy := Lib.hid (alloc_new' (w := ((((w).alloc (.cells (wcells n) 24)).alloc (.cells (wcells d) 24)).alloc (.cells (wcells g) 24)).alloc (.cells (wcells 0) 24)) (n := w.heap.size + 1 + 1 + 1 + 1) (.cells (wcells 0) 24) (by simp))
  replace HB := Lib.hid (below_al HB.out (.cells (wcells 0) 24))
  have cGn := cell_row Gn.out
  have cGd := cell_row Gd.out
  have cGg := cell_row Gg.out
  have cGx := cell_row Gx.out
  have cGy := cell_row Gy.out
  go_wp2_with fail
  refine (SM.out _).mono ?_
  rintro e w5 ⟨rfl, hb⟩
  clear cGn cGd cGg cGx cGy
  replace HB := Lib.hid (below_then HB.out hb)
  replace Gn := Lib.hid ((hb.block _ (lt_of_heap Gn.out)).trans Gn.out)
  replace Gd := Lib.hid ((hb.block _ (lt_of_heap Gd.out)).trans Gd.out)
  replace Gg := Lib.hid ((hb.block _ (lt_of_heap Gg.out)).trans Gg.out)
  replace Gx := Lib.hid ((hb.block _ (lt_of_heap Gx.out)).trans Gx.out)
  replace Gy := Lib.hid ((hb.block _ (lt_of_heap Gy.out)).trans Gy.out)
  clear hb
  have cGn := cell_row Gn.out
  have cGd := cell_row Gd.out
  have cGg := cell_row Gg.out
  have cGx := cell_row Gx.out
  have cGy := cell_row Gy.out
  go_wp2_with fail
  refine (SL.out _).mono ?_
  rintro e w6 ⟨rfl, hb⟩
  clear cGn cGd cGg cGx cGy
  replace HB := Lib.hid (below_then HB.out hb)
  replace Gn := Lib.hid ((hb.block _ (lt_of_heap Gn.out)).trans Gn.out)
  replace Gd := Lib.hid ((hb.block _ (lt_of_heap Gd.out)).trans Gd.out)
  replace Gg := Lib.hid ((hb.block _ (lt_of_heap Gg.out)).trans Gg.out)
  replace Gx := Lib.hid ((hb.block _ (lt_of_heap Gx.out)).trans Gx.out)
  replace Gy := Lib.hid ((hb.block _ (lt_of_heap Gy.out)).trans Gy.out)
  clear hb
  have HZ := Lib.hid (lt_of_heap Gy.out)
  have cGn := cell_row Gn.out
  have cGd := cell_row Gd.out
  have cGg := cell_row Gg.out
  have cGx := cell_row Gx.out
  have cGy := cell_row Gy.out
  go_upto_region 9 with fail
  clear cGn cGd cGg cGx cGy
  replace Gn := Lib.hid (keepAl (o' := .cells (fcell 61 #[.pointer (some ⟨w.heap.size + 1, 0, none⟩)]) 68) Gn.out)
  replace Gd := Lib.hid (keepAl (o' := .cells (fcell 61 #[.pointer (some ⟨w.heap.size + 1, 0, none⟩)]) 68) Gd.out)
  replace Gg := Lib.hid (keepAl (o' := .cells (fcell 61 #[.pointer (some ⟨w.heap.size + 1, 0, none⟩)]) 68) Gg.out)
  replace Gx := Lib.hid (keepAl (o' := .cells (fcell 61 #[.pointer (some ⟨w.heap.size + 1, 0, none⟩)]) 68) Gx.out)
  replace Gy := Lib.hid (keepAl (o' := .cells (fcell 61 #[.pointer (some ⟨w.heap.size + 1, 0, none⟩)]) 68) Gy.out)
  have Gt := Lib.hid (alloc_new (w6) (.cells (fcell 61 #[.pointer (some ⟨w.heap.size + 1, 0, none⟩)]) 68))
  replace HB := Lib.hid (below_al HB.out (.cells (fcell 61 #[.pointer (some ⟨w.heap.size + 1, 0, none⟩)]) 68))
  have cGn := cell_row Gn.out
  have cGd := cell_row Gd.out
  have cGg := cell_row Gg.out
  have cGx := cell_row Gx.out
  have cGy := cell_row Gy.out
  have cGt := cell_row Gt.out
  go_wp2_with fail
  refine (ST.out _ _ _ _ _ Gd.out Gn.out Gt.out).mono ?_
  rintro e w7 ⟨rfl, hb⟩
  clear cGn cGd cGg cGx cGy cGt
  replace HB := Lib.hid (below_then HB.out hb)
  replace Gn := Lib.hid ((hb.block _ (lt_of_heap Gn.out)).trans Gn.out)
  replace Gd := Lib.hid ((hb.block _ (lt_of_heap Gd.out)).trans Gd.out)
  replace Gg := Lib.hid ((hb.block _ (lt_of_heap Gg.out)).trans Gg.out)
  replace Gx := Lib.hid ((hb.block _ (lt_of_heap Gx.out)).trans Gx.out)
  replace Gy := Lib.hid ((hb.block _ (lt_of_heap Gy.out)).trans Gy.out)
  replace Gt := Lib.hid ((hb.block _ (lt_of_heap Gt.out)).trans Gt.out)
  clear hb
  have hz := HZ.out
  have stx := st_row (P := Try.prog) Gx.out rfl (q)
  replace Gy := Lib.hid ((setRow_other (w7) (w.heap.size + 1 + 1 + 1) _ (wcells (q)) (by (omega))).trans Gy.out)
  replace Gx := Lib.hid (setRow_heap (w7) (w.heap.size + 1 + 1 + 1) _ (wcells (q)) _ _ Gx.out)
  replace HB := Lib.hid (below_setRow' HB.out (show _ ≤ w.heap.size + 1 + 1 + 1 by (omega)) (wcells (q)))
  have q1 := stx
  clear stx
  have sty := st_row (P := Try.prog) Gy.out rfl (r)
  replace Gx := Lib.hid ((setRow_other ((w7).setRow (w.heap.size + 1 + 1 + 1) (wcells (q))) (w.heap.size + 1 + 1 + 1 + 1) _ (wcells (r)) (by (omega))).trans Gx.out)
  replace Gy := Lib.hid (setRow_heap ((w7).setRow (w.heap.size + 1 + 1 + 1) (wcells (q))) (w.heap.size + 1 + 1 + 1 + 1) _ (wcells (r)) _ _ Gy.out)
  replace HB := Lib.hid (below_setRow' HB.out (show _ ≤ w.heap.size + 1 + 1 + 1 + 1 by (omega)) (wcells (r)))
  have cGx := cell_row Gx.out
  have cGy := cell_row Gy.out
  go_wp2
  exact bodyPost_ret (v := .tuple #[wv q, wv r, .int .i64 (a : Int), .int .i64 0]) (res_cctt Try.results30 _ _ _ _ _ _ _ _ _ _ _ _ rfl rfl rfl rfl Gx.out Gy.out aggW aggW) rfl ⟨rfl, HB.out⟩

set_option maxRecDepth 100000 in
set_option maxHeartbeats 2000000 in
theorem quotient_far (n d g m : Nat) (hn : n < M) (hd : d < M) (hmay : mayN n d = 0) (hg : g < P2 200) (hm : m ≤ 100) (hdist : m < (g - n / d) + (n / d - g)) (w : World) :
    Calls Try.prog 30 #[wv n, wv d, wv g, .int .i64 (m : Int)] w fun e w' => e = .returned (.tuple #[wv 0, wv 0, .int .i64 0, .int .i64 6]) ∧ Below w.heap.size w w' := by
  have h201 : P2 200 < P2 201 := P2_lt (by omega)
  have hgM : g < M := by have := P2_201.2.1; have := P2_201.1; omega
  obtain ⟨h1, h2, h3⟩ := may_ok hmay
  have SM := Lib.hid (fun w' => may_w n d hn hd w')
  rw [hmay] at SM
  have SL := Lib.hid (fun w' => len_w g hgM w')
  have hl := blen_le_of hg
  have hl' : ¬ (200 : Int) < (blen g : Nat) := by omega
  obtain ⟨l, hle⟩ : ∃ l, l = blen g := ⟨_, rfl⟩
  rw [← hle] at SL hl'
  have ST := Lib.hid (fun (pt pn pd : Nat) (w' : World) (T : TypeId) hpd hpn hpt => told_no 62 63 #[.pointer (some ⟨pt, 0, none⟩), .pointer (some ⟨pn, 0, none⟩)] #[.pointer (some ⟨pn, 0, none⟩), .pointer (some ⟨pt, 0, none⟩)] g (n / d) m w' (by omega) hm hdist enters_aboveQ
    (above_Q n d pt pn pd h1 h2 hn w' hpd hpn (T := T) hpt))
  have hm' : (m : Int) ≤ 100 := by omega
  clear hn hd hmay hg hm hdist h201 hgM h1 h2 h3 hl hle
  go_enter Try.func30, Try.ntmps30
  have HB := Lib.hid (Below.refl w.heap.size w)
  have Gn := Lib.hid (alloc_new (w) (.cells (wcells n) 24))
  replace HB := Lib.hid (below_al HB.out (.cells (wcells n) 24))
  replace Gn := Lib.hid (keepAl (o' := .cells (wcells d) 24) Gn.out)
  have Gd := Lib.hid (alloc_new' (w := (w).alloc (.cells (wcells n) 24)) (n := w.heap.size + 1) (.cells (wcells d) 24) (by simp))
  replace HB := Lib.hid (below_al HB.out (.cells (wcells d) 24))
  replace Gn := Lib.hid (keepAl (o' := .cells (wcells g) 24) Gn.out)
  replace Gd := Lib.hid (keepAl (o' := .cells (wcells g) 24) Gd.out)
  have Gg := Lib.hid (alloc_new' (w := ((w).alloc (.cells (wcells n) 24)).alloc (.cells (wcells d) 24)) (n := w.heap.size + 1 + 1) (.cells (wcells g) 24) (by simp))
  replace HB := Lib.hid (below_al HB.out (.cells (wcells g) 24))
  replace Gn := Lib.hid (keepAl (o' := .cells (wcells 0) 24) Gn.out)
  replace Gd := Lib.hid (keepAl (o' := .cells (wcells 0) 24) Gd.out)
  replace Gg := Lib.hid (keepAl (o' := .cells (wcells 0) 24) Gg.out)
  have Gx := Lib.hid (alloc_new' (w := (((w).alloc (.cells (wcells n) 24)).alloc (.cells (wcells d) 24)).alloc (.cells (wcells g) 24)) (n := w.heap.size + 1 + 1 + 1) (.cells (wcells 0) 24) (by simp))
  replace HB := Lib.hid (below_al HB.out (.cells (wcells 0) 24))
  replace Gn := Lib.hid (keepAl (o' := .cells (wcells 0) 24) Gn.out)
  replace Gd := Lib.hid (keepAl (o' := .cells (wcells 0) 24) Gd.out)
  replace Gg := Lib.hid (keepAl (o' := .cells (wcells 0) 24) Gg.out)
  replace Gx := Lib.hid (keepAl (o' := .cells (wcells 0) 24) Gx.out)
  have Gy := Lib.hid (alloc_new' (w := ((((w).alloc (.cells (wcells n) 24)).alloc (.cells (wcells d) 24)).alloc (.cells (wcells g) 24)).alloc (.cells (wcells 0) 24)) (n := w.heap.size + 1 + 1 + 1 + 1) (.cells (wcells 0) 24) (by simp))
  replace HB := Lib.hid (below_al HB.out (.cells (wcells 0) 24))
  have cGn := cell_row Gn.out
  have cGd := cell_row Gd.out
  have cGg := cell_row Gg.out
  have cGx := cell_row Gx.out
  have cGy := cell_row Gy.out
  go_wp2_with fail
  refine (SM.out _).mono ?_
  rintro e w8 ⟨rfl, hb⟩
  clear cGn cGd cGg cGx cGy
  replace HB := Lib.hid (below_then HB.out hb)
  replace Gn := Lib.hid ((hb.block _ (lt_of_heap Gn.out)).trans Gn.out)
  replace Gd := Lib.hid ((hb.block _ (lt_of_heap Gd.out)).trans Gd.out)
  replace Gg := Lib.hid ((hb.block _ (lt_of_heap Gg.out)).trans Gg.out)
  replace Gx := Lib.hid ((hb.block _ (lt_of_heap Gx.out)).trans Gx.out)
  replace Gy := Lib.hid ((hb.block _ (lt_of_heap Gy.out)).trans Gy.out)
  clear hb
  have cGn := cell_row Gn.out
  have cGd := cell_row Gd.out
  have cGg := cell_row Gg.out
  have cGx := cell_row Gx.out
  have cGy := cell_row Gy.out
  go_wp2_with fail
  refine (SL.out _).mono ?_
  rintro e w9 ⟨rfl, hb⟩
  clear cGn cGd cGg cGx cGy
  replace HB := Lib.hid (below_then HB.out hb)
  replace Gn := Lib.hid ((hb.block _ (lt_of_heap Gn.out)).trans Gn.out)
  replace Gd := Lib.hid ((hb.block _ (lt_of_heap Gd.out)).trans Gd.out)
  replace Gg := Lib.hid ((hb.block _ (lt_of_heap Gg.out)).trans Gg.out)
  replace Gx := Lib.hid ((hb.block _ (lt_of_heap Gx.out)).trans Gx.out)
  replace Gy := Lib.hid ((hb.block _ (lt_of_heap Gy.out)).trans Gy.out)
  clear hb
  have HZ := Lib.hid (lt_of_heap Gy.out)
  have cGn := cell_row Gn.out
  have cGd := cell_row Gd.out
  have cGg := cell_row Gg.out
  have cGx := cell_row Gx.out
  have cGy := cell_row Gy.out
  go_upto_region 9 with fail
  clear cGn cGd cGg cGx cGy
  replace Gn := Lib.hid (keepAl (o' := .cells (fcell 61 #[.pointer (some ⟨w.heap.size + 1, 0, none⟩)]) 68) Gn.out)
  replace Gd := Lib.hid (keepAl (o' := .cells (fcell 61 #[.pointer (some ⟨w.heap.size + 1, 0, none⟩)]) 68) Gd.out)
  replace Gg := Lib.hid (keepAl (o' := .cells (fcell 61 #[.pointer (some ⟨w.heap.size + 1, 0, none⟩)]) 68) Gg.out)
  replace Gx := Lib.hid (keepAl (o' := .cells (fcell 61 #[.pointer (some ⟨w.heap.size + 1, 0, none⟩)]) 68) Gx.out)
  replace Gy := Lib.hid (keepAl (o' := .cells (fcell 61 #[.pointer (some ⟨w.heap.size + 1, 0, none⟩)]) 68) Gy.out)
  have Gt := Lib.hid (alloc_new (w9) (.cells (fcell 61 #[.pointer (some ⟨w.heap.size + 1, 0, none⟩)]) 68))
  replace HB := Lib.hid (below_al HB.out (.cells (fcell 61 #[.pointer (some ⟨w.heap.size + 1, 0, none⟩)]) 68))
  have cGn := cell_row Gn.out
  have cGd := cell_row Gd.out
  have cGg := cell_row Gg.out
  have cGx := cell_row Gx.out
  have cGy := cell_row Gy.out
  have cGt := cell_row Gt.out
  go_wp2_with fail
  refine (ST.out _ _ _ _ _ Gd.out Gn.out Gt.out).mono ?_
  rintro e w10 ⟨rfl, hb⟩
  clear cGn cGd cGg cGx cGy cGt
  replace HB := Lib.hid (below_then HB.out hb)
  replace Gn := Lib.hid ((hb.block _ (lt_of_heap Gn.out)).trans Gn.out)
  replace Gd := Lib.hid ((hb.block _ (lt_of_heap Gd.out)).trans Gd.out)
  replace Gg := Lib.hid ((hb.block _ (lt_of_heap Gg.out)).trans Gg.out)
  replace Gx := Lib.hid ((hb.block _ (lt_of_heap Gx.out)).trans Gx.out)
  replace Gy := Lib.hid ((hb.block _ (lt_of_heap Gy.out)).trans Gy.out)
  replace Gt := Lib.hid ((hb.block _ (lt_of_heap Gt.out)).trans Gt.out)
  clear hb
  have hz := HZ.out
  have stx := st_row (P := Try.prog) Gx.out rfl (0)
  replace Gy := Lib.hid ((setRow_other (w10) (w.heap.size + 1 + 1 + 1) _ (wcells (0)) (by (omega))).trans Gy.out)
  replace Gx := Lib.hid (setRow_heap (w10) (w.heap.size + 1 + 1 + 1) _ (wcells (0)) _ _ Gx.out)
  replace HB := Lib.hid (below_setRow' HB.out (show _ ≤ w.heap.size + 1 + 1 + 1 by (omega)) (wcells (0)))
  have q1 := stx
  clear stx
  have sty := st_row (P := Try.prog) Gy.out rfl (0)
  replace Gx := Lib.hid ((setRow_other ((w10).setRow (w.heap.size + 1 + 1 + 1) (wcells (0))) (w.heap.size + 1 + 1 + 1 + 1) _ (wcells (0)) (by (omega))).trans Gx.out)
  replace Gy := Lib.hid (setRow_heap ((w10).setRow (w.heap.size + 1 + 1 + 1) (wcells (0))) (w.heap.size + 1 + 1 + 1 + 1) _ (wcells (0)) _ _ Gy.out)
  replace HB := Lib.hid (below_setRow' HB.out (show _ ≤ w.heap.size + 1 + 1 + 1 + 1 by (omega)) (wcells (0)))
  have cGx := cell_row Gx.out
  have cGy := cell_row Gy.out
  go_wp2
  exact bodyPost_ret (v := .tuple #[wv 0, wv 0, .int .i64 0, .int .i64 6]) (res_cctt Try.results30 _ _ _ _ _ _ _ _ _ _ _ _ rfl rfl rfl rfl Gx.out Gy.out aggW aggW) rfl ⟨rfl, HB.out⟩

/-- Why there is no quotient by a guess; 0: there may be one. -/
def fqE (n d g : Nat) (m : Int) : Int := if m < 0 ∨ 100 < m then 1 else if mayN n d = 0 ∧ 200 < blen g then 4 else mayN n d
set_option maxRecDepth 100000 in
set_option maxHeartbeats 2000000 in
theorem quotient_err (n d g : Nat) (m : Int) (hn : n < M) (hd : d < M) (hg : g < M) (hE : fqE n d g m ≠ 0) (w : World) :
    Calls Try.prog 30 #[wv n, wv d, wv g, .int .i64 m] w fun e w' => e = .returned (.tuple #[wv 0, wv 0, .int .i64 0, .int .i64 (fqE n d g m)]) ∧ Below w.heap.size w w' := by
  have SM := Lib.hid (fun w' => may_w n d hn hd w')
  have SL := Lib.hid (fun w' => len_w g hg w')
  obtain ⟨F, hF⟩ : ∃ F, F = fqE n d g m := ⟨_, rfl⟩
  rw [← hF] at hE ⊢
  unfold fqE at hF
  obtain ⟨E, hEe⟩ : ∃ E, E = mayN n d := ⟨_, rfl⟩
  rw [← hEe] at SM hF
  obtain ⟨l, hle⟩ : ∃ l, l = blen g := ⟨_, rfl⟩
  rw [← hle] at SL hF
  clear hn hd hg hEe hle
  by_cases hm : m < 0 ∨ 100 < m
  · rw [if_pos hm] at hF
    subst hF
    clear SL
    rcases hm with hm | hm
    · clear hE
      go_enter Try.func30, Try.ntmps30
      have HB := Lib.hid (Below.refl w.heap.size w)
      have Gn := Lib.hid (alloc_new (w) (.cells (wcells n) 24))
      replace HB := Lib.hid (below_al HB.out (.cells (wcells n) 24))
      replace Gn := Lib.hid (keepAl (o' := .cells (wcells d) 24) Gn.out)
      have Gd := Lib.hid (alloc_new' (w := (w).alloc (.cells (wcells n) 24)) (n := w.heap.size + 1) (.cells (wcells d) 24) (by simp))
      replace HB := Lib.hid (below_al HB.out (.cells (wcells d) 24))
      replace Gn := Lib.hid (keepAl (o' := .cells (wcells g) 24) Gn.out)
      replace Gd := Lib.hid (keepAl (o' := .cells (wcells g) 24) Gd.out)
      have Gg := Lib.hid (alloc_new' (w := ((w).alloc (.cells (wcells n) 24)).alloc (.cells (wcells d) 24)) (n := w.heap.size + 1 + 1) (.cells (wcells g) 24) (by simp))
      replace HB := Lib.hid (below_al HB.out (.cells (wcells g) 24))
      replace Gn := Lib.hid (keepAl (o' := .cells (wcells 0) 24) Gn.out)
      replace Gd := Lib.hid (keepAl (o' := .cells (wcells 0) 24) Gd.out)
      replace Gg := Lib.hid (keepAl (o' := .cells (wcells 0) 24) Gg.out)
      have Gx := Lib.hid (alloc_new' (w := (((w).alloc (.cells (wcells n) 24)).alloc (.cells (wcells d) 24)).alloc (.cells (wcells g) 24)) (n := w.heap.size + 1 + 1 + 1) (.cells (wcells 0) 24) (by simp))
      replace HB := Lib.hid (below_al HB.out (.cells (wcells 0) 24))
      replace Gn := Lib.hid (keepAl (o' := .cells (wcells 0) 24) Gn.out)
      replace Gd := Lib.hid (keepAl (o' := .cells (wcells 0) 24) Gd.out)
      replace Gg := Lib.hid (keepAl (o' := .cells (wcells 0) 24) Gg.out)
      replace Gx := Lib.hid (keepAl (o' := .cells (wcells 0) 24) Gx.out)
      have Gy := Lib.hid (alloc_new' (w := ((((w).alloc (.cells (wcells n) 24)).alloc (.cells (wcells d) 24)).alloc (.cells (wcells g) 24)).alloc (.cells (wcells 0) 24)) (n := w.heap.size + 1 + 1 + 1 + 1) (.cells (wcells 0) 24) (by simp))
      replace HB := Lib.hid (below_al HB.out (.cells (wcells 0) 24))
      have cGn := cell_row Gn.out
      have cGd := cell_row Gd.out
      have cGg := cell_row Gg.out
      have cGx := cell_row Gx.out
      have cGy := cell_row Gy.out
      go_wp2_with fail
      refine (SM.out _).mono ?_
      rintro e w11 ⟨rfl, hb⟩
      clear cGn cGd cGg cGx cGy
      replace HB := Lib.hid (below_then HB.out hb)
      replace Gn := Lib.hid ((hb.block _ (lt_of_heap Gn.out)).trans Gn.out)
      replace Gd := Lib.hid ((hb.block _ (lt_of_heap Gd.out)).trans Gd.out)
      replace Gg := Lib.hid ((hb.block _ (lt_of_heap Gg.out)).trans Gg.out)
      replace Gx := Lib.hid ((hb.block _ (lt_of_heap Gx.out)).trans Gx.out)
      replace Gy := Lib.hid ((hb.block _ (lt_of_heap Gy.out)).trans Gy.out)
      clear hb
      have HZ := Lib.hid (lt_of_heap Gy.out)
      have cg := cell_row Gg.out
      have hz := HZ.out
      have stx := st_row (P := Try.prog) Gx.out rfl (0)
      replace Gy := Lib.hid ((setRow_other (w11) (w.heap.size + 1 + 1 + 1) _ (wcells (0)) (by (omega))).trans Gy.out)
      replace Gx := Lib.hid (setRow_heap (w11) (w.heap.size + 1 + 1 + 1) _ (wcells (0)) _ _ Gx.out)
      replace HB := Lib.hid (below_setRow' HB.out (show _ ≤ w.heap.size + 1 + 1 + 1 by (omega)) (wcells (0)))
      have q1 := stx
      clear stx
      have sty := st_row (P := Try.prog) Gy.out rfl (0)
      replace Gx := Lib.hid ((setRow_other ((w11).setRow (w.heap.size + 1 + 1 + 1) (wcells (0))) (w.heap.size + 1 + 1 + 1 + 1) _ (wcells (0)) (by (omega))).trans Gx.out)
      replace Gy := Lib.hid (setRow_heap ((w11).setRow (w.heap.size + 1 + 1 + 1) (wcells (0))) (w.heap.size + 1 + 1 + 1 + 1) _ (wcells (0)) _ _ Gy.out)
      replace HB := Lib.hid (below_setRow' HB.out (show _ ≤ w.heap.size + 1 + 1 + 1 + 1 by (omega)) (wcells (0)))
      have cGx := cell_row Gx.out
      have cGy := cell_row Gy.out
      go_wp2
      exact bodyPost_ret (v := .tuple #[wv 0, wv 0, .int .i64 0, .int .i64 1]) (res_cctt Try.results30 _ _ _ _ _ _ _ _ _ _ _ _ rfl rfl rfl rfl Gx.out Gy.out aggW aggW) rfl ⟨rfl, HB.out⟩
    · have hm0 : ¬ m < 0 := by omega
      go_enter Try.func30, Try.ntmps30
      have HB := Lib.hid (Below.refl w.heap.size w)
      have Gn := Lib.hid (alloc_new (w) (.cells (wcells n) 24))
      replace HB := Lib.hid (below_al HB.out (.cells (wcells n) 24))
      replace Gn := Lib.hid (keepAl (o' := .cells (wcells d) 24) Gn.out)
      have Gd := Lib.hid (alloc_new' (w := (w).alloc (.cells (wcells n) 24)) (n := w.heap.size + 1) (.cells (wcells d) 24) (by simp))
      replace HB := Lib.hid (below_al HB.out (.cells (wcells d) 24))
      replace Gn := Lib.hid (keepAl (o' := .cells (wcells g) 24) Gn.out)
      replace Gd := Lib.hid (keepAl (o' := .cells (wcells g) 24) Gd.out)
      have Gg := Lib.hid (alloc_new' (w := ((w).alloc (.cells (wcells n) 24)).alloc (.cells (wcells d) 24)) (n := w.heap.size + 1 + 1) (.cells (wcells g) 24) (by simp))
      replace HB := Lib.hid (below_al HB.out (.cells (wcells g) 24))
      replace Gn := Lib.hid (keepAl (o' := .cells (wcells 0) 24) Gn.out)
      replace Gd := Lib.hid (keepAl (o' := .cells (wcells 0) 24) Gd.out)
      replace Gg := Lib.hid (keepAl (o' := .cells (wcells 0) 24) Gg.out)
      have Gx := Lib.hid (alloc_new' (w := (((w).alloc (.cells (wcells n) 24)).alloc (.cells (wcells d) 24)).alloc (.cells (wcells g) 24)) (n := w.heap.size + 1 + 1 + 1) (.cells (wcells 0) 24) (by simp))
      replace HB := Lib.hid (below_al HB.out (.cells (wcells 0) 24))
      replace Gn := Lib.hid (keepAl (o' := .cells (wcells 0) 24) Gn.out)
      replace Gd := Lib.hid (keepAl (o' := .cells (wcells 0) 24) Gd.out)
      replace Gg := Lib.hid (keepAl (o' := .cells (wcells 0) 24) Gg.out)
      replace Gx := Lib.hid (keepAl (o' := .cells (wcells 0) 24) Gx.out)
      have Gy := Lib.hid (alloc_new' (w := ((((w).alloc (.cells (wcells n) 24)).alloc (.cells (wcells d) 24)).alloc (.cells (wcells g) 24)).alloc (.cells (wcells 0) 24)) (n := w.heap.size + 1 + 1 + 1 + 1) (.cells (wcells 0) 24) (by simp))
      replace HB := Lib.hid (below_al HB.out (.cells (wcells 0) 24))
      have cGn := cell_row Gn.out
      have cGd := cell_row Gd.out
      have cGg := cell_row Gg.out
      have cGx := cell_row Gx.out
      have cGy := cell_row Gy.out
      go_wp2_with fail
      refine (SM.out _).mono ?_
      rintro e w12 ⟨rfl, hb⟩
      clear cGn cGd cGg cGx cGy
      replace HB := Lib.hid (below_then HB.out hb)
      replace Gn := Lib.hid ((hb.block _ (lt_of_heap Gn.out)).trans Gn.out)
      replace Gd := Lib.hid ((hb.block _ (lt_of_heap Gd.out)).trans Gd.out)
      replace Gg := Lib.hid ((hb.block _ (lt_of_heap Gg.out)).trans Gg.out)
      replace Gx := Lib.hid ((hb.block _ (lt_of_heap Gx.out)).trans Gx.out)
      replace Gy := Lib.hid ((hb.block _ (lt_of_heap Gy.out)).trans Gy.out)
      clear hb
      have HZ := Lib.hid (lt_of_heap Gy.out)
      have cg := cell_row Gg.out
      have hz := HZ.out
      have stx := st_row (P := Try.prog) Gx.out rfl (0)
      replace Gy := Lib.hid ((setRow_other (w12) (w.heap.size + 1 + 1 + 1) _ (wcells (0)) (by (omega))).trans Gy.out)
      replace Gx := Lib.hid (setRow_heap (w12) (w.heap.size + 1 + 1 + 1) _ (wcells (0)) _ _ Gx.out)
      replace HB := Lib.hid (below_setRow' HB.out (show _ ≤ w.heap.size + 1 + 1 + 1 by (omega)) (wcells (0)))
      have q1 := stx
      clear stx
      have sty := st_row (P := Try.prog) Gy.out rfl (0)
      replace Gx := Lib.hid ((setRow_other ((w12).setRow (w.heap.size + 1 + 1 + 1) (wcells (0))) (w.heap.size + 1 + 1 + 1 + 1) _ (wcells (0)) (by (omega))).trans Gx.out)
      replace Gy := Lib.hid (setRow_heap ((w12).setRow (w.heap.size + 1 + 1 + 1) (wcells (0))) (w.heap.size + 1 + 1 + 1 + 1) _ (wcells (0)) _ _ Gy.out)
      replace HB := Lib.hid (below_setRow' HB.out (show _ ≤ w.heap.size + 1 + 1 + 1 + 1 by (omega)) (wcells (0)))
      have cGx := cell_row Gx.out
      have cGy := cell_row Gy.out
      go_wp2
      exact bodyPost_ret (v := .tuple #[wv 0, wv 0, .int .i64 0, .int .i64 1]) (res_cctt Try.results30 _ _ _ _ _ _ _ _ _ _ _ _ rfl rfl rfl rfl Gx.out Gy.out aggW aggW) rfl ⟨rfl, HB.out⟩
  · rw [if_neg hm] at hF
    have hm0 : ¬ m < 0 := by omega
    have hm1 : ¬ 100 < m := by omega
    clear hm
    by_cases h0 : E = 0
    · by_cases h1 : 200 < l
      · rw [if_pos ⟨h0, h1⟩] at hF
        subst hF h0
        have h1' : (200 : Int) < (l : Int) := by omega
        clear h1
        go_enter Try.func30, Try.ntmps30
        have HB := Lib.hid (Below.refl w.heap.size w)
        have Gn := Lib.hid (alloc_new (w) (.cells (wcells n) 24))
        replace HB := Lib.hid (below_al HB.out (.cells (wcells n) 24))
        replace Gn := Lib.hid (keepAl (o' := .cells (wcells d) 24) Gn.out)
        have Gd := Lib.hid (alloc_new' (w := (w).alloc (.cells (wcells n) 24)) (n := w.heap.size + 1) (.cells (wcells d) 24) (by simp))
        replace HB := Lib.hid (below_al HB.out (.cells (wcells d) 24))
        replace Gn := Lib.hid (keepAl (o' := .cells (wcells g) 24) Gn.out)
        replace Gd := Lib.hid (keepAl (o' := .cells (wcells g) 24) Gd.out)
        have Gg := Lib.hid (alloc_new' (w := ((w).alloc (.cells (wcells n) 24)).alloc (.cells (wcells d) 24)) (n := w.heap.size + 1 + 1) (.cells (wcells g) 24) (by simp))
        replace HB := Lib.hid (below_al HB.out (.cells (wcells g) 24))
        replace Gn := Lib.hid (keepAl (o' := .cells (wcells 0) 24) Gn.out)
        replace Gd := Lib.hid (keepAl (o' := .cells (wcells 0) 24) Gd.out)
        replace Gg := Lib.hid (keepAl (o' := .cells (wcells 0) 24) Gg.out)
        have Gx := Lib.hid (alloc_new' (w := (((w).alloc (.cells (wcells n) 24)).alloc (.cells (wcells d) 24)).alloc (.cells (wcells g) 24)) (n := w.heap.size + 1 + 1 + 1) (.cells (wcells 0) 24) (by simp))
        replace HB := Lib.hid (below_al HB.out (.cells (wcells 0) 24))
        replace Gn := Lib.hid (keepAl (o' := .cells (wcells 0) 24) Gn.out)
        replace Gd := Lib.hid (keepAl (o' := .cells (wcells 0) 24) Gd.out)
        replace Gg := Lib.hid (keepAl (o' := .cells (wcells 0) 24) Gg.out)
        replace Gx := Lib.hid (keepAl (o' := .cells (wcells 0) 24) Gx.out)
        have Gy := Lib.hid (alloc_new' (w := ((((w).alloc (.cells (wcells n) 24)).alloc (.cells (wcells d) 24)).alloc (.cells (wcells g) 24)).alloc (.cells (wcells 0) 24)) (n := w.heap.size + 1 + 1 + 1 + 1) (.cells (wcells 0) 24) (by simp))
        replace HB := Lib.hid (below_al HB.out (.cells (wcells 0) 24))
        have cGn := cell_row Gn.out
        have cGd := cell_row Gd.out
        have cGg := cell_row Gg.out
        have cGx := cell_row Gx.out
        have cGy := cell_row Gy.out
        go_wp2_with fail
        refine (SM.out _).mono ?_
        rintro e w13 ⟨rfl, hb⟩
        clear cGn cGd cGg cGx cGy
        replace HB := Lib.hid (below_then HB.out hb)
        replace Gn := Lib.hid ((hb.block _ (lt_of_heap Gn.out)).trans Gn.out)
        replace Gd := Lib.hid ((hb.block _ (lt_of_heap Gd.out)).trans Gd.out)
        replace Gg := Lib.hid ((hb.block _ (lt_of_heap Gg.out)).trans Gg.out)
        replace Gx := Lib.hid ((hb.block _ (lt_of_heap Gx.out)).trans Gx.out)
        replace Gy := Lib.hid ((hb.block _ (lt_of_heap Gy.out)).trans Gy.out)
        clear hb
        have cGn := cell_row Gn.out
        have cGd := cell_row Gd.out
        have cGg := cell_row Gg.out
        have cGx := cell_row Gx.out
        have cGy := cell_row Gy.out
        go_wp2_with fail
        refine (SL.out _).mono ?_
        rintro e w14 ⟨rfl, hb⟩
        clear cGn cGd cGg cGx cGy
        replace HB := Lib.hid (below_then HB.out hb)
        replace Gn := Lib.hid ((hb.block _ (lt_of_heap Gn.out)).trans Gn.out)
        replace Gd := Lib.hid ((hb.block _ (lt_of_heap Gd.out)).trans Gd.out)
        replace Gg := Lib.hid ((hb.block _ (lt_of_heap Gg.out)).trans Gg.out)
        replace Gx := Lib.hid ((hb.block _ (lt_of_heap Gx.out)).trans Gx.out)
        replace Gy := Lib.hid ((hb.block _ (lt_of_heap Gy.out)).trans Gy.out)
        clear hb
        have HZ := Lib.hid (lt_of_heap Gy.out)
        have cg := cell_row Gg.out
        have hz := HZ.out
        have stx := st_row (P := Try.prog) Gx.out rfl (0)
        replace Gy := Lib.hid ((setRow_other (w14) (w.heap.size + 1 + 1 + 1) _ (wcells (0)) (by (omega))).trans Gy.out)
        replace Gx := Lib.hid (setRow_heap (w14) (w.heap.size + 1 + 1 + 1) _ (wcells (0)) _ _ Gx.out)
        replace HB := Lib.hid (below_setRow' HB.out (show _ ≤ w.heap.size + 1 + 1 + 1 by (omega)) (wcells (0)))
        have q1 := stx
        clear stx
        have sty := st_row (P := Try.prog) Gy.out rfl (0)
        replace Gx := Lib.hid ((setRow_other ((w14).setRow (w.heap.size + 1 + 1 + 1) (wcells (0))) (w.heap.size + 1 + 1 + 1 + 1) _ (wcells (0)) (by (omega))).trans Gx.out)
        replace Gy := Lib.hid (setRow_heap ((w14).setRow (w.heap.size + 1 + 1 + 1) (wcells (0))) (w.heap.size + 1 + 1 + 1 + 1) _ (wcells (0)) _ _ Gy.out)
        replace HB := Lib.hid (below_setRow' HB.out (show _ ≤ w.heap.size + 1 + 1 + 1 + 1 by (omega)) (wcells (0)))
        have cGx := cell_row Gx.out
        have cGy := cell_row Gy.out
        go_wp2
        exact bodyPost_ret (v := .tuple #[wv 0, wv 0, .int .i64 0, .int .i64 4]) (res_cctt Try.results30 _ _ _ _ _ _ _ _ _ _ _ _ rfl rfl rfl rfl Gx.out Gy.out aggW aggW) rfl ⟨rfl, HB.out⟩
      · rw [if_neg (fun h => h1 h.2)] at hF
        exact absurd (hF.trans h0) hE
    · rw [if_neg (fun h => h0 h.1)] at hF
      subst hF
      clear SL
      have hb : (F == 0) = false := by simp [h0]
      have hb2 : (F != 0) = true := by simp [h0]
      go_enter Try.func30, Try.ntmps30
      have HB := Lib.hid (Below.refl w.heap.size w)
      have Gn := Lib.hid (alloc_new (w) (.cells (wcells n) 24))
      replace HB := Lib.hid (below_al HB.out (.cells (wcells n) 24))
      replace Gn := Lib.hid (keepAl (o' := .cells (wcells d) 24) Gn.out)
      have Gd := Lib.hid (alloc_new' (w := (w).alloc (.cells (wcells n) 24)) (n := w.heap.size + 1) (.cells (wcells d) 24) (by simp))
      replace HB := Lib.hid (below_al HB.out (.cells (wcells d) 24))
      replace Gn := Lib.hid (keepAl (o' := .cells (wcells g) 24) Gn.out)
      replace Gd := Lib.hid (keepAl (o' := .cells (wcells g) 24) Gd.out)
      have Gg := Lib.hid (alloc_new' (w := ((w).alloc (.cells (wcells n) 24)).alloc (.cells (wcells d) 24)) (n := w.heap.size + 1 + 1) (.cells (wcells g) 24) (by simp))
      replace HB := Lib.hid (below_al HB.out (.cells (wcells g) 24))
      replace Gn := Lib.hid (keepAl (o' := .cells (wcells 0) 24) Gn.out)
      replace Gd := Lib.hid (keepAl (o' := .cells (wcells 0) 24) Gd.out)
      replace Gg := Lib.hid (keepAl (o' := .cells (wcells 0) 24) Gg.out)
      have Gx := Lib.hid (alloc_new' (w := (((w).alloc (.cells (wcells n) 24)).alloc (.cells (wcells d) 24)).alloc (.cells (wcells g) 24)) (n := w.heap.size + 1 + 1 + 1) (.cells (wcells 0) 24) (by simp))
      replace HB := Lib.hid (below_al HB.out (.cells (wcells 0) 24))
      replace Gn := Lib.hid (keepAl (o' := .cells (wcells 0) 24) Gn.out)
      replace Gd := Lib.hid (keepAl (o' := .cells (wcells 0) 24) Gd.out)
      replace Gg := Lib.hid (keepAl (o' := .cells (wcells 0) 24) Gg.out)
      replace Gx := Lib.hid (keepAl (o' := .cells (wcells 0) 24) Gx.out)
      have Gy := Lib.hid (alloc_new' (w := ((((w).alloc (.cells (wcells n) 24)).alloc (.cells (wcells d) 24)).alloc (.cells (wcells g) 24)).alloc (.cells (wcells 0) 24)) (n := w.heap.size + 1 + 1 + 1 + 1) (.cells (wcells 0) 24) (by simp))
      replace HB := Lib.hid (below_al HB.out (.cells (wcells 0) 24))
      have cGn := cell_row Gn.out
      have cGd := cell_row Gd.out
      have cGg := cell_row Gg.out
      have cGx := cell_row Gx.out
      have cGy := cell_row Gy.out
      go_wp2_with fail
      refine (SM.out _).mono ?_
      rintro e w15 ⟨rfl, hb⟩
      clear cGn cGd cGg cGx cGy
      replace HB := Lib.hid (below_then HB.out hb)
      replace Gn := Lib.hid ((hb.block _ (lt_of_heap Gn.out)).trans Gn.out)
      replace Gd := Lib.hid ((hb.block _ (lt_of_heap Gd.out)).trans Gd.out)
      replace Gg := Lib.hid ((hb.block _ (lt_of_heap Gg.out)).trans Gg.out)
      replace Gx := Lib.hid ((hb.block _ (lt_of_heap Gx.out)).trans Gx.out)
      replace Gy := Lib.hid ((hb.block _ (lt_of_heap Gy.out)).trans Gy.out)
      clear hb
      have HZ := Lib.hid (lt_of_heap Gy.out)
      have cg := cell_row Gg.out
      have hz := HZ.out
      have stx := st_row (P := Try.prog) Gx.out rfl (0)
      replace Gy := Lib.hid ((setRow_other (w15) (w.heap.size + 1 + 1 + 1) _ (wcells (0)) (by (omega))).trans Gy.out)
      replace Gx := Lib.hid (setRow_heap (w15) (w.heap.size + 1 + 1 + 1) _ (wcells (0)) _ _ Gx.out)
      replace HB := Lib.hid (below_setRow' HB.out (show _ ≤ w.heap.size + 1 + 1 + 1 by (omega)) (wcells (0)))
      have q1 := stx
      clear stx
      have sty := st_row (P := Try.prog) Gy.out rfl (0)
      replace Gx := Lib.hid ((setRow_other ((w15).setRow (w.heap.size + 1 + 1 + 1) (wcells (0))) (w.heap.size + 1 + 1 + 1 + 1) _ (wcells (0)) (by (omega))).trans Gx.out)
      replace Gy := Lib.hid (setRow_heap ((w15).setRow (w.heap.size + 1 + 1 + 1) (wcells (0))) (w.heap.size + 1 + 1 + 1 + 1) _ (wcells (0)) _ _ Gy.out)
      replace HB := Lib.hid (below_setRow' HB.out (show _ ≤ w.heap.size + 1 + 1 + 1 + 1 by (omega)) (wcells (0)))
      have cGx := cell_row Gx.out
      have cGy := cell_row Gy.out
      go_wp2
      exact bodyPost_ret (v := .tuple #[wv 0, wv 0, .int .i64 0, .int .i64 F]) (res_cctt Try.results30 _ _ _ _ _ _ _ _ _ _ _ _ rfl rfl rfl rfl Gx.out Gy.out aggW aggW) rfl ⟨rfl, HB.out⟩
end Go.Proofs.Ytegmmaaapdgocaa
