/- THE WALKS of package fix, going on: fractions; of the reference of fix: how far two are away; the document's example. -/
import Derived.Test.YtegmmaaapdgocaaFixb
import Derived.Test.YtegmmaaapdgocaaClampS
namespace Go.Proofs.Ytegmmaaapdgocaa
open Go Go.RowKit

attribute [local go_sem ↓] Go.wp_at_zero Go.wp_at_succ
set_option maxHeartbeats 2000000 in
theorem times_w (a b : Nat) (n : Int) (ha : a < M) (hb : b < M) (w : World) : Calls Try.prog 58 #[wv a, wv b, .int .i64 n] w fun e w' => e = .returned (wv (a * b / P2 (clampP n) % M)) ∧ Below w.heap.size w w' := by
  have S1 := Lib.hid (fun w' => high_w a b n ha hb w')
  obtain ⟨q, hq⟩ : ∃ q, q = a * b / P2 (clampP n) % M := ⟨_, rfl⟩
  obtain ⟨f, hf⟩ : ∃ q, q = decide (a * b % P2 (clampP n) ≠ 0) := ⟨_, rfl⟩
  rw [← hq, ← hf] at S1
  rw [← hq]
  clear ha hb hq hf
  go_enter Try.func58, Try.ntmps58
  have HB := Lib.hid (Below.refl w.heap.size w)
  have Ga := Lib.hid (alloc_new (w) (.cells (wcells a) 24))
  replace HB := Lib.hid (below_al HB.out (.cells (wcells a) 24))
  replace Ga := Lib.hid (keepAl (o' := .cells (wcells b) 24) Ga.out)
  have Gb := Lib.hid (alloc_new' (w := (w).alloc (.cells (wcells a) 24)) (n := w.heap.size + 1) (.cells (wcells b) 24) (by simp))
  replace HB := Lib.hid (below_al HB.out (.cells (wcells b) 24))
  replace Ga := Lib.hid (keepAl (o' := .cells (wcells 0) 24) Ga.out)
  replace Gb := Lib.hid (keepAl (o' := .cells (wcells 0) 24) Gb.out)
  have Go := Lib.hid (alloc_new' (w := ((w).alloc (.cells (wcells a) 24)).alloc (.cells (wcells b) 24)) (n := w.heap.size + 1 + 1) (.cells (wcells 0) 24) (by simp))
  replace HB := Lib.hid (below_al HB.out (.cells (wcells 0) 24))
  have cGa := cell_row Ga.out
  have cGb := cell_row Gb.out
  have cGo := cell_row Go.out
  go_wp2_with fail
  refine (S1.out _).mono ?_
  rintro e w1 ⟨rfl, hb⟩
  clear cGa cGb cGo
  replace HB := Lib.hid (below_then HB.out hb)
  replace Ga := Lib.hid ((hb.block _ (lt_of_heap Ga.out)).trans Ga.out)
  replace Gb := Lib.hid ((hb.block _ (lt_of_heap Gb.out)).trans Gb.out)
  replace Go := Lib.hid ((hb.block _ (lt_of_heap Go.out)).trans Go.out)
  clear hb
  have HZ := Lib.hid (lt_of_heap Go.out)
  replace Go := Lib.hid (keepAl (o' := .cells (wcells q) 24) Go.out)
  have Gp := Lib.hid (alloc_new (w1) (.cells (wcells q) 24))
  replace HB := Lib.hid (below_al HB.out (.cells (wcells q) 24))
  have cp := cell_row Gp.out
  have sto := st_row (P := Try.prog) Go.out rfl (q)
  replace Go := Lib.hid (setRow_heap ((w1).alloc (.cells (wcells q) 24)) (w.heap.size + 1 + 1) _ (wcells (q)) _ _ Go.out)
  replace HB := Lib.hid (below_setRow' HB.out (show _ ≤ w.heap.size + 1 + 1 by (omega)) (wcells (q)))
  have cGo := cell_row Go.out
  go_wp2
  exact bodyPost_ret (v := wv q) (res_c Try.results58 _ _ _ _ _ _ rfl Go.out aggW) rfl ⟨rfl, HB.out⟩

/-- 2 without a fraction. -/
def twoN (p : Int) (a : Nat) : Nat := if p < -1 ∨ 510 < p then negN a else subN (P2 (p + 1).toNat) a
set_option maxRecDepth 100000 in
set_option maxHeartbeats 2000000 in
theorem two_w (p : Int) (a : Nat) (ha : a < M) (w : World) : Calls Try.prog 66 #[.int .i64 p, wv a] w fun e w' => e = .returned (wv (twoN p a)) ∧ Below w.heap.size w w' := by
  by_cases hp : p < -1 ∨ 510 < p
  · have SN := Lib.hid (fun w' => neg_w a ha w')
    unfold twoN
    rw [if_pos hp]
    obtain ⟨y, hy⟩ : ∃ y, y = negN a := ⟨_, rfl⟩
    rw [← hy] at SN ⊢
    clear ha hy
    rcases hp with hp | hp
    · skip
      go_enter Try.func66, Try.ntmps66
      have HB := Lib.hid (Below.refl w.heap.size w)
      have Ga := Lib.hid (alloc_new (w) (.cells (wcells a) 24))
      replace HB := Lib.hid (below_al HB.out (.cells (wcells a) 24))
      replace Ga := Lib.hid (keepAl (o' := .cells (wcells 0) 24) Ga.out)
      have Go := Lib.hid (alloc_new' (w := (w).alloc (.cells (wcells a) 24)) (n := w.heap.size + 1) (.cells (wcells 0) 24) (by simp))
      replace HB := Lib.hid (below_al HB.out (.cells (wcells 0) 24))
      have cGa := cell_row Ga.out
      have cGo := cell_row Go.out
      go_wp2_with fail
      refine (SN.out _).mono ?_
      rintro e w2 ⟨rfl, hb⟩
      clear cGa cGo
      replace HB := Lib.hid (below_then HB.out hb)
      replace Ga := Lib.hid ((hb.block _ (lt_of_heap Ga.out)).trans Ga.out)
      replace Go := Lib.hid ((hb.block _ (lt_of_heap Go.out)).trans Go.out)
      clear hb
      have sto := st_row (P := Try.prog) Go.out rfl (y)
      replace Go := Lib.hid (setRow_heap (w2) (w.heap.size + 1) _ (wcells (y)) _ _ Go.out)
      replace HB := Lib.hid (below_setRow' HB.out (show _ ≤ w.heap.size + 1 by (omega)) (wcells (y)))
      have cGo := cell_row Go.out
      go_wp2
      exact bodyPost_ret (v := wv y) (res_c Try.results66 _ _ _ _ _ _ rfl Go.out aggW) rfl ⟨rfl, HB.out⟩
    · have hp0 : ¬ p < -1 := by omega
      go_enter Try.func66, Try.ntmps66
      have HB := Lib.hid (Below.refl w.heap.size w)
      have Ga := Lib.hid (alloc_new (w) (.cells (wcells a) 24))
      replace HB := Lib.hid (below_al HB.out (.cells (wcells a) 24))
      replace Ga := Lib.hid (keepAl (o' := .cells (wcells 0) 24) Ga.out)
      have Go := Lib.hid (alloc_new' (w := (w).alloc (.cells (wcells a) 24)) (n := w.heap.size + 1) (.cells (wcells 0) 24) (by simp))
      replace HB := Lib.hid (below_al HB.out (.cells (wcells 0) 24))
      have cGa := cell_row Ga.out
      have cGo := cell_row Go.out
      go_wp2_with fail
      refine (SN.out _).mono ?_
      rintro e w3 ⟨rfl, hb⟩
      clear cGa cGo
      replace HB := Lib.hid (below_then HB.out hb)
      replace Ga := Lib.hid ((hb.block _ (lt_of_heap Ga.out)).trans Ga.out)
      replace Go := Lib.hid ((hb.block _ (lt_of_heap Go.out)).trans Go.out)
      clear hb
      have sto := st_row (P := Try.prog) Go.out rfl (y)
      replace Go := Lib.hid (setRow_heap (w3) (w.heap.size + 1) _ (wcells (y)) _ _ Go.out)
      replace HB := Lib.hid (below_setRow' HB.out (show _ ≤ w.heap.size + 1 by (omega)) (wcells (y)))
      have cGo := cell_row Go.out
      go_wp2
      exact bodyPost_ret (v := wv y) (res_c Try.results66 _ _ _ _ _ _ rfl Go.out aggW) rfl ⟨rfl, HB.out⟩
  · unfold twoN
    rw [if_neg hp]
    have hp0 : ¬ p < -1 := by omega
    have hp1 : ¬ 510 < p := by omega
    obtain ⟨k, hk⟩ : ∃ k : Nat, k = (p + 1).toNat := ⟨_, rfl⟩
    have hke : p + 1 = (k : Int) := by omega
    rw [← hk]
    have hkM : P2 k < M := by rw [M_eq]; exact P2_lt (by omega)
    have SP : Hid (∀ w' : World, Calls Try.prog 86 #[.int .i64 (p + 1)] w' fun e w'' => e = .returned (wv (P2 k)) ∧ Below w'.heap.size w' w'') := Lib.hid fun w' => by
      have := power_w (p + 1) w' (by omega) (by omega)
      rw [show powerN (p + 1) = P2 k by unfold powerN; rw [if_pos (by omega), ← hk]] at this
      exact this
    have SW := Lib.hid (fun w' => without_w (P2 k) a hkM ha w')
    obtain ⟨X, hX⟩ : ∃ X, X = P2 k := ⟨_, rfl⟩
    obtain ⟨y, hy⟩ : ∃ y, y = subN X a := ⟨_, rfl⟩
    rw [← hX] at SP SW ⊢
    rw [← hy] at SW ⊢
    have hw : IntKind.i64.wrap (p + 1) = p + 1 := IntWalk.i64_in _ (by omega)
    clear hp ha hk hke hkM hX hy
    go_enter Try.func66, Try.ntmps66
    have HB := Lib.hid (Below.refl w.heap.size w)
    have Ga := Lib.hid (alloc_new (w) (.cells (wcells a) 24))
    replace HB := Lib.hid (below_al HB.out (.cells (wcells a) 24))
    replace Ga := Lib.hid (keepAl (o' := .cells (wcells 0) 24) Ga.out)
    have Go := Lib.hid (alloc_new' (w := (w).alloc (.cells (wcells a) 24)) (n := w.heap.size + 1) (.cells (wcells 0) 24) (by simp))
    replace HB := Lib.hid (below_al HB.out (.cells (wcells 0) 24))
    go_upto_region 3 with fail
    obtain ⟨wL, hw⟩ : ∃ wx, wx = ((w).alloc (.cells (wcells a) 24)).alloc (.cells (wcells 0) 24) := ⟨_, rfl⟩
    rw [← hw] at Ga Go HB ⊢
    clear hw
    refine wp_region_store [⟨w.heap.size + 1, 24, .tmp 17⟩] (by kernel_rfl) (by kernel_rfl) (by kernel_rfl) rfl (List.pairwise_singleton _ _) ?_ ?_
    · intro r hr
      simp only [List.mem_cons, List.not_mem_nil, or_false] at hr
      subst hr
      exact ⟨_, Go.out, by kernel_rfl⟩
    have xGa := extR_row (B := wL.heap.size) (R := [⟨w.heap.size + 1, 24, .tmp 17⟩]) Ga.out (lt_of_heap Ga.out) (by intro r hr; simp only [List.mem_cons, List.not_mem_nil, or_false] at hr; subst hr <;> dsimp only <;> (omega))
    repeat (refine wpCalm_step (fun K hK => ?_); go_simp; first | (refine hK _ ?_; clear hK K) | (apply Exists.intro; refine ⟨fun _ => ?_, hK _ ?_⟩; (first | with_reducible exact SP.out _ | with_reducible exact SW.out _ | exact SP.out _ | exact SW.out _); clear hK K))
    refine wpCalm_nil ⟨?_, fun x hx => ?_⟩
    · intro r hr
      simp only [List.mem_cons, List.not_mem_nil, or_false] at hr
      subst hr <;> exact fits_wv (by kernel_rfl) _
    replace Go : Hid (x.val.heap[w.heap.size + 1]? = some (.cells (wcells (y)) 24 (0, 0))) := Lib.hid (hx ⟨w.heap.size + 1, 24, .tmp 17⟩ (by simp))
    replace Ga := Lib.hid (extR_block x Ga.out (lt_of_heap Ga.out) (by intro r hr; simp only [List.mem_cons, List.not_mem_nil, or_false] at hr; subst hr <;> dsimp only <;> (omega)))
    replace HB := Lib.hid (extR_below x HB.out HB.out.size (by intro r hr; simp only [List.mem_cons, List.not_mem_nil, or_false] at hr; subst hr <;> dsimp only <;> (omega)))
    clear hx xGa
    obtain ⟨w4, hw⟩ : ∃ wx, wx = x.val := ⟨_, rfl⟩
    rw [← hw] at Ga Go HB ⊢
    clear hw x
    have cGa := cell_row Ga.out
    have cGo := cell_row Go.out
    go_wp2
    exact bodyPost_ret (v := wv y) (res_c Try.results66 _ _ _ _ _ _ rfl Go.out aggW) rfl ⟨rfl, HB.out⟩

theorem cmp_le (a b : Nat) : decide (cmpN a b ≤ 0) = decide (a ≤ b) := by
  unfold cmpN
  by_cases h1 : a < b
  · rw [if_pos h1, decide_eq_true (by omega), decide_eq_true (by omega)]
  · rw [if_neg h1]
    by_cases h2 : b < a
    · rw [if_pos h2, decide_eq_false (by omega), decide_eq_false (by omega)]
    · rw [if_neg h2, decide_eq_true (by omega), decide_eq_true (by omega)]
theorem sub_plain {a b : Nat} (h : b ≤ a) (ha : a < M) : subN a b = a - b := by
  unfold subN
  rw [show a + M - b = (a - b) + M by omega, Nat.add_mod_right, Nat.mod_eq_of_lt (by omega)]
/-- Are two near each other? -/
def nearB (a b : Nat) (m : Int) : Bool := decide (0 ≤ m) && decide ((((a - b) + (b - a) : Nat) : Int) ≤ m)
/-- Is a number at most that many? -/
def withinB (a : Nat) (m : Int) : Bool := decide (0 ≤ m) && decide ((a : Int) ≤ m)
theorem may_100_7 : mayN 100 7 = 0 := may_yes (by decide) (Nat.lt_of_lt_of_le (show 7 < P2 64 by rw [P2_64]; decide) (P2_le (by omega))) (by
    have : P2 64 ≤ P2 128 := P2_le (by omega)
    rw [P2_64] at this
    omega)
end Go.Proofs.Ytegmmaaapdgocaa
