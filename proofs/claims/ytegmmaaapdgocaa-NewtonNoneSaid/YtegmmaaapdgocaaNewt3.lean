/- THE WALKS of newton, going on: the guess for a quotient; why there is none; quotients; an engine made. -/
import Derived.Test.YtegmmaaapdgocaaNewt2
namespace Go.Proofs.Ytegmmaaapdgocaa
open Go Go.RowKit

/-- The guess for a quotient of two that may be divided. -/
def nwq (n d : Nat) : Nat := n * P2 (128 - blen d) * nwY (d * P2 (128 - blen d)) 5 / P2 288
theorem up_len {n d : Nat} (h : mayN n d = 0) : blen (d * P2 (128 - blen d)) = 128 := by
  obtain ⟨h1, h2, _⟩ := shift_range h
  exact blen_eq h2 fun _ => h1
theorem nwq_near {n d : Nat} (h : mayN n d = 0) : nwq n d ≤ n / d + 1 ∧ n / d ≤ nwq n d + 1 := by
  obtain ⟨h1, h2, h3, h4, _⟩ := shift_range h
  have := nw_guess (up_len h) h1 h2 h3
  rw [h4] at this
  exact this
theorem quo_128 {n d : Nat} (h : mayN n d = 0) : n / d < P2 128 := by
  obtain ⟨h1, _, h3⟩ := may_ok h
  exact (Nat.div_lt_iff_lt_mul h1).2 (by rw [Nat.mul_comm]; exact h3)
theorem near_small {g n d : Nat} (h : mayN n d = 0) (hg : g ≤ n / d + 1) : g < P2 200 := by
  have h1 := quo_128 h
  have : P2 128 < P2 200 := P2_lt (by omega)
  omega
theorem near_4 {g q : Nat} (h1 : g ≤ q + 1) (h2 : q ≤ g + 1) : (g - q) + (q - g) ≤ 4 := by omega
theorem may_N {n d : Nat} (h : mayN n d = 0) : n * P2 (128 - blen d) < P2 256 := by
  obtain ⟨h1, h2, h3, _⟩ := shift_range h
  have : d * P2 (128 - blen d) * P2 128 < P2 128 * P2 128 := Nat.mul_lt_mul_of_pos_right h2 (P2_pos _)
  rw [← P2_add] at this
  exact Nat.lt_trans h3 this
theorem times_small (a b c : Nat) (ha : a < M) (hb : b < M) (hc : c ≤ 512) (h : a * b / P2 c < M) (w : World) : Calls Try.prog 58 #[wv a, wv b, .int .i64 (c : Int)] w fun e w' => e = .returned (wv (a * b / P2 c)) ∧ Below w.heap.size w w' := by
  have := times_w a b (c : Int) ha hb w
  rw [show clampP (c : Int) = c by unfold clampP; rw [if_neg (by omega), if_neg (by omega)]; exact Int.toNat_natCast c, Nat.mod_eq_of_lt h] at this
  exact this
attribute [local go_sem ↓] Go.wp_at_zero Go.wp_at_succ
set_option maxRecDepth 100000 in
set_option maxHeartbeats 1000000 in
theorem guessN_w (e g n d : Nat) (hm : mayN n d = 0) (w : World) (hE : w.heap[e]? = some (.cells #[.pointer (some ⟨g, 0, none⟩)] 103 (0, 0))) (hI : IsRom w g) (hne : e ≠ g) :
    Calls Try.prog 39 #[.pointer (some ⟨e, 0, none⟩), wv n, wv d] w fun x w' => x = .returned (wv (nwq n d)) ∧ VG g w w' := by
  obtain ⟨m1, m2, m3⟩ := may_ok hm
  obtain ⟨h1, h2, h3, h4, _⟩ := shift_range hm
  have h256 : P2 256 < M := by rw [M_eq]; exact P2_lt (by omega)
  have h128 : P2 128 < M := by rw [M_eq]; exact P2_lt (by omega)
  have hN := may_N hm
  have hq := near_small hm (nwq_near hm).1
  have h200 : P2 200 < M := by rw [M_eq]; exact P2_lt (by omega)
  have hy : nwY (d * P2 (128 - blen d)) 5 < M := by
    have := (nw_all (up_len hm) h2 5).small h1
    have h162 : P2 162 < M := by rw [M_eq]; exact P2_lt (by omega)
    omega
  have S1 := Lib.hid (fun w' => normT_yes d (by omega) m2 w')
  have S2 := Lib.hid (fun w' => shlN_w n (128 - blen d) (by omega) (by omega) w')
  have S3 := Lib.hid (fun w' hE hI => recipN_w e g (d * P2 (128 - blen d)) 5 (up_len hm) h1 h2 (by decide) w' hE hI hne)
  have S4 : Hid (∀ w' : World, Calls Try.prog 58 #[wv (n * P2 (128 - blen d)), wv (nwY (d * P2 (128 - blen d)) 5), .int .i64 288] w' fun e w'' => e = .returned (wv (nwq n d)) ∧ Below w'.heap.size w' w'') := Lib.hid fun w' => times_small _ _ 288 (by omega) hy (by decide) (show nwq n d < M by omega) w'
  obtain ⟨q, hqe⟩ : ∃ q, q = nwq n d := ⟨_, rfl⟩
  rw [← hqe] at S4 ⊢
  obtain ⟨N, hNe⟩ : ∃ q, q = n * P2 (128 - blen d) := ⟨_, rfl⟩
  rw [← hNe] at S2 S4
  obtain ⟨y, hye⟩ : ∃ q, q = nwY (d * P2 (128 - blen d)) 5 := ⟨_, rfl⟩
  rw [← hye] at S3 S4
  obtain ⟨D, hDe⟩ : ∃ q, q = d * P2 (128 - blen d) := ⟨_, rfl⟩
  rw [← hDe] at S1 S3
  obtain ⟨b, hbe⟩ : ∃ q, q = 128 - blen d := ⟨_, rfl⟩
  rw [← hbe] at S1 S2
  have VB := Lib.hid (VG.refl hI)
  have Ge := Lib.hid hE
  have HNE := Lib.hid hne
  clear hm hE hI hne m1 m2 m3 h1 h2 h3 h4 h256 h128 hN hq h200 hy hqe hNe hye hDe hbe
  go_enter Try.func39, Try.ntmps39
  replace Ge := Lib.hid (keepAl (o' := .cells (wcells n) 24) Ge.out)
  have Gn := Lib.hid (alloc_new (w) (.cells (wcells n) 24))
  replace VB := Lib.hid (VB.out.al (.cells (wcells n) 24))
  replace Ge := Lib.hid (keepAl (o' := .cells (wcells d) 24) Ge.out)
  replace Gn := Lib.hid (keepAl (o' := .cells (wcells d) 24) Gn.out)
  have Gd := Lib.hid (alloc_new' (w := (w).alloc (.cells (wcells n) 24)) (n := w.heap.size + 1) (.cells (wcells d) 24) (by simp))
  replace VB := Lib.hid (VB.out.al (.cells (wcells d) 24))
  replace Ge := Lib.hid (keepAl (o' := .cells (wcells 0) 24) Ge.out)
  replace Gn := Lib.hid (keepAl (o' := .cells (wcells 0) 24) Gn.out)
  replace Gd := Lib.hid (keepAl (o' := .cells (wcells 0) 24) Gd.out)
  have Go := Lib.hid (alloc_new' (w := ((w).alloc (.cells (wcells n) 24)).alloc (.cells (wcells d) 24)) (n := w.heap.size + 1 + 1) (.cells (wcells 0) 24) (by simp))
  replace VB := Lib.hid (VB.out.al (.cells (wcells 0) 24))
  have cGe := cell_row Ge.out
  have cGn := cell_row Gn.out
  have cGd := cell_row Gd.out
  have cGo := cell_row Go.out
  go_wp2_with fail
  refine (S1.out _).mono ?_
  rintro e w1 ⟨rfl, hb⟩
  clear cGe cGn cGd cGo
  replace VB := Lib.hid (VB.out.below hb)
  replace Ge := Lib.hid ((hb.block _ (lt_of_heap Ge.out)).trans Ge.out)
  replace Gn := Lib.hid ((hb.block _ (lt_of_heap Gn.out)).trans Gn.out)
  replace Gd := Lib.hid ((hb.block _ (lt_of_heap Gd.out)).trans Gd.out)
  replace Go := Lib.hid ((hb.block _ (lt_of_heap Go.out)).trans Go.out)
  clear hb
  have HZ := Lib.hid (lt_of_heap Go.out)
  replace Ge := Lib.hid (keepAl (o' := .cells (wcells D) 24) Ge.out)
  replace Gn := Lib.hid (keepAl (o' := .cells (wcells D) 24) Gn.out)
  replace Gd := Lib.hid (keepAl (o' := .cells (wcells D) 24) Gd.out)
  replace Go := Lib.hid (keepAl (o' := .cells (wcells D) 24) Go.out)
  have Gu := Lib.hid (alloc_new (w1) (.cells (wcells D) 24))
  replace VB := Lib.hid (VB.out.al (.cells (wcells D) 24))
  have cGe := cell_row Ge.out
  have cGn := cell_row Gn.out
  have cGd := cell_row Gd.out
  have cGo := cell_row Go.out
  have cGu := cell_row Gu.out
  go_upto_region 2 with fail
  clear cGe cGn cGd cGo cGu
  obtain ⟨w2, hw⟩ : ∃ wx, wx = (w1).alloc (.cells (wcells D) 24) := ⟨_, rfl⟩
  rw [← hw] at Ge Gn Gd Go Gu VB ⊢
  clear hw
  have xGe := extg_row (g := g) (B := w2.heap.size) Ge.out (lt_of_heap Ge.out) (by have := VB.out.lt; (try have := HNE.out); (try have := HZ.out); omega)
  have xGn := extg_row (g := g) (B := w2.heap.size) Gn.out (lt_of_heap Gn.out) (by have := VB.out.lt; (try have := HNE.out); (try have := HZ.out); omega)
  have xGd := extg_row (g := g) (B := w2.heap.size) Gd.out (lt_of_heap Gd.out) (by have := VB.out.lt; (try have := HNE.out); (try have := HZ.out); omega)
  have xGo := extg_row (g := g) (B := w2.heap.size) Go.out (lt_of_heap Go.out) (by have := VB.out.lt; (try have := HNE.out); (try have := HZ.out); omega)
  have xGu := extg_row (g := g) (B := w2.heap.size) Gu.out (lt_of_heap Gu.out) (by have := VB.out.lt; (try have := HNE.out); (try have := HZ.out); omega)
  have hnx : Nonempty (ExtG g w2.heap.size w2) := ⟨⟨w2, BelowG.refl VB.out.rom _⟩⟩
  refine wp_region_tailG _ 7 w2.heap.size VB.out.rom (by kernel_rfl) (by kernel_rfl) ?_
  simp only [List.take_succ_cons, List.take_zero, List.drop_succ_cons, List.drop_zero]
  repeat (go_big_quiet_step (first | (go_at_call 43; with_reducible exact Calls.quietG (Nat.le_refl _) (Calls.stepG _ (S2.out _))) | (go_at_call 41; with_reducible exact Calls.quietG (Nat.le_refl _) (Calls.stepV (S3.out _ (extg_block Ge.out (lt_of_heap Ge.out) HNE.out _) (extg_rom _)))) | (go_at_call 58; with_reducible exact Calls.quietG (Nat.le_refl _) (Calls.stepG _ (S4.out _)))))
  refine wpQuiet_nil ?_
  intro w3 hv
  clear xGe xGn xGd xGo xGu hnx
  replace Ge := Lib.hid ((hv.block _ (lt_of_heap Ge.out) (by have := VB.out.lt; (try have := HNE.out); (try have := HZ.out); omega)).trans Ge.out)
  replace Gn := Lib.hid ((hv.block _ (lt_of_heap Gn.out) (by have := VB.out.lt; (try have := HNE.out); (try have := HZ.out); omega)).trans Gn.out)
  replace Gd := Lib.hid ((hv.block _ (lt_of_heap Gd.out) (by have := VB.out.lt; (try have := HNE.out); (try have := HZ.out); omega)).trans Gd.out)
  replace Go := Lib.hid ((hv.block _ (lt_of_heap Go.out) (by have := VB.out.lt; (try have := HNE.out); (try have := HZ.out); omega)).trans Go.out)
  replace Gu := Lib.hid ((hv.block _ (lt_of_heap Gu.out) (by have := VB.out.lt; (try have := HNE.out); (try have := HZ.out); omega)).trans Gu.out)
  replace VB := Lib.hid (VB.out.trans' hv)
  clear hv
  have sto := st_row (P := Try.prog) Go.out rfl (q)
  replace Go := Lib.hid (setRow_heap (w3) (w.heap.size + 1 + 1) _ (wcells (q)) _ _ Go.out)
  replace VB := Lib.hid (VB.out.row (show _ ≤ w.heap.size + 1 + 1 by (omega)) (wcells (q)))
  have cGo := cell_row Go.out
  go_wp2
  exact bodyPost_ret (v := wv q) (res_c Try.results39 _ _ _ _ _ _ rfl Go.out aggW) rfl ⟨rfl, VB.out⟩

theorem mayE_w (e n d : Nat) (hn : n < M) (hd : d < M) (w : World) : Calls Try.prog 38 #[.pointer (some ⟨e, 0, none⟩), wv n, wv d] w fun x w' => x = .returned (.int .i64 (mayN n d)) ∧ Below w.heap.size w w' := by
  have S1 := Lib.hid (fun w' => may_w n d hn hd w')
  obtain ⟨E, hE⟩ : ∃ q, q = mayN n d := ⟨_, rfl⟩
  rw [← hE] at S1 ⊢
  clear hn hd hE
  go_enter Try.func38, Try.ntmps38
  have HB := Lib.hid (Below.refl w.heap.size w)
  have Gn := Lib.hid (alloc_new (w) (.cells (wcells n) 24))
  replace HB := Lib.hid (below_al HB.out (.cells (wcells n) 24))
  replace Gn := Lib.hid (keepAl (o' := .cells (wcells d) 24) Gn.out)
  have Gd := Lib.hid (alloc_new' (w := (w).alloc (.cells (wcells n) 24)) (n := w.heap.size + 1) (.cells (wcells d) 24) (by simp))
  replace HB := Lib.hid (below_al HB.out (.cells (wcells d) 24))
  have cGn := cell_row Gn.out
  have cGd := cell_row Gd.out
  go_wp2_with fail
  refine (S1.out _).mono ?_
  rintro e w4 ⟨rfl, hb⟩
  clear cGn cGd
  replace HB := Lib.hid (below_then HB.out hb)
  replace Gn := Lib.hid ((hb.block _ (lt_of_heap Gn.out)).trans Gn.out)
  replace Gd := Lib.hid ((hb.block _ (lt_of_heap Gd.out)).trans Gd.out)
  clear hb
  have cGn := cell_row Gn.out
  have cGd := cell_row Gd.out
  go_wp2
  go_ret
  exact ⟨rfl, HB.out⟩
theorem mayE_nil (n d : Nat) (w : World) : Calls Try.prog 38 #[.pointer none, wv n, wv d] w fun x w' => x = .returned (.int .i64 6) ∧ Below w.heap.size w w' := by
  go_enter Try.func38, Try.ntmps38
  have HB := Lib.hid (Below.refl w.heap.size w)
  have Gn := Lib.hid (alloc_new (w) (.cells (wcells n) 24))
  replace HB := Lib.hid (below_al HB.out (.cells (wcells n) 24))
  replace Gn := Lib.hid (keepAl (o' := .cells (wcells d) 24) Gn.out)
  have Gd := Lib.hid (alloc_new' (w := (w).alloc (.cells (wcells n) 24)) (n := w.heap.size + 1) (.cells (wcells d) 24) (by simp))
  replace HB := Lib.hid (below_al HB.out (.cells (wcells d) 24))
  have cGn := cell_row Gn.out
  have cGd := cell_row Gd.out
  go_wp2
  go_ret
  exact ⟨rfl, HB.out⟩
set_option maxRecDepth 100000 in
set_option maxHeartbeats 1000000 in
theorem guessE_no (ep : Value) (n d : Nat) (E : Int) (hE : E ≠ 0) (hM : ∀ w', Calls Try.prog 38 #[ep, wv n, wv d] w' fun x w'' => x = .returned (.int .i64 E) ∧ Below w'.heap.size w' w'') (w : World) :
    Calls Try.prog 19 #[ep, wv n, wv d] w fun x w' => x = .returned (.tuple #[wv 0, .int .i64 E]) ∧ Below w.heap.size w w' := by
  have S1 := Lib.hid hM
  have hb : (E != 0) = true := by simp [hE]
  clear hM hE
  go_enter Try.func19, Try.ntmps19
  have HB := Lib.hid (Below.refl w.heap.size w)
  have Gn := Lib.hid (alloc_new (w) (.cells (wcells n) 24))
  replace HB := Lib.hid (below_al HB.out (.cells (wcells n) 24))
  replace Gn := Lib.hid (keepAl (o' := .cells (wcells d) 24) Gn.out)
  have Gd := Lib.hid (alloc_new' (w := (w).alloc (.cells (wcells n) 24)) (n := w.heap.size + 1) (.cells (wcells d) 24) (by simp))
  replace HB := Lib.hid (below_al HB.out (.cells (wcells d) 24))
  replace Gn := Lib.hid (keepAl (o' := .cells (wcells 0) 24) Gn.out)
  replace Gd := Lib.hid (keepAl (o' := .cells (wcells 0) 24) Gd.out)
  have Go := Lib.hid (alloc_new' (w := ((w).alloc (.cells (wcells n) 24)).alloc (.cells (wcells d) 24)) (n := w.heap.size + 1 + 1) (.cells (wcells 0) 24) (by simp))
  replace HB := Lib.hid (below_al HB.out (.cells (wcells 0) 24))
  have cGn := cell_row Gn.out
  have cGd := cell_row Gd.out
  have cGo := cell_row Go.out
  go_wp2_with fail
  refine (S1.out _).mono ?_
  rintro e w5 ⟨rfl, hb⟩
  clear cGn cGd cGo
  replace HB := Lib.hid (below_then HB.out hb)
  replace Gn := Lib.hid ((hb.block _ (lt_of_heap Gn.out)).trans Gn.out)
  replace Gd := Lib.hid ((hb.block _ (lt_of_heap Gd.out)).trans Gd.out)
  replace Go := Lib.hid ((hb.block _ (lt_of_heap Go.out)).trans Go.out)
  clear hb
  have sto := st_row (P := Try.prog) Go.out rfl (0)
  replace Gn := Lib.hid ((setRow_other (w5) (w.heap.size + 1 + 1) _ (wcells (0)) (by (omega))).trans Gn.out)
  replace Gd := Lib.hid ((setRow_other (w5) (w.heap.size + 1 + 1) _ (wcells (0)) (by (omega))).trans Gd.out)
  replace Go := Lib.hid (setRow_heap (w5) (w.heap.size + 1 + 1) _ (wcells (0)) _ _ Go.out)
  replace HB := Lib.hid (below_setRow' HB.out (show _ ≤ w.heap.size + 1 + 1 by (omega)) (wcells (0)))
  have cGn := cell_row Gn.out
  have cGd := cell_row Gd.out
  have cGo := cell_row Go.out
  go_wp2
  exact bodyPost_ret (v := .tuple #[wv 0, .int .i64 E]) (res_ct Try.results19 _ _ _ _ _ _ _ rfl rfl Go.out aggW) rfl ⟨rfl, HB.out⟩
set_option maxRecDepth 100000 in
set_option maxHeartbeats 1000000 in
theorem guessE_yes (e g n d : Nat) (hm : mayN n d = 0) (hn : n < M) (hd : d < M) (w : World) (hE : w.heap[e]? = some (.cells #[.pointer (some ⟨g, 0, none⟩)] 103 (0, 0))) (hI : IsRom w g) (hne : e ≠ g) :
    Calls Try.prog 19 #[.pointer (some ⟨e, 0, none⟩), wv n, wv d] w fun x w' => x = .returned (.tuple #[wv (nwq n d), .int .i64 0]) ∧ VG g w w' := by
  have S1 := Lib.hid (fun w' => mayE_w e n d hn hd w')
  have S2 := Lib.hid (fun w' hE hI => guessN_w e g n d hm w' hE hI hne)
  rw [hm] at S1
  obtain ⟨q, hqe⟩ : ∃ q, q = nwq n d := ⟨_, rfl⟩
  rw [← hqe] at S2 ⊢
  have VB := Lib.hid (VG.refl hI)
  have Ge := Lib.hid hE
  have HNE := Lib.hid hne
  clear hm hn hd hE hI hne hqe
  go_enter Try.func19, Try.ntmps19
  replace Ge := Lib.hid (keepAl (o' := .cells (wcells n) 24) Ge.out)
  have Gn := Lib.hid (alloc_new (w) (.cells (wcells n) 24))
  replace VB := Lib.hid (VB.out.al (.cells (wcells n) 24))
  replace Ge := Lib.hid (keepAl (o' := .cells (wcells d) 24) Ge.out)
  replace Gn := Lib.hid (keepAl (o' := .cells (wcells d) 24) Gn.out)
  have Gd := Lib.hid (alloc_new' (w := (w).alloc (.cells (wcells n) 24)) (n := w.heap.size + 1) (.cells (wcells d) 24) (by simp))
  replace VB := Lib.hid (VB.out.al (.cells (wcells d) 24))
  replace Ge := Lib.hid (keepAl (o' := .cells (wcells 0) 24) Ge.out)
  replace Gn := Lib.hid (keepAl (o' := .cells (wcells 0) 24) Gn.out)
  replace Gd := Lib.hid (keepAl (o' := .cells (wcells 0) 24) Gd.out)
  have Go := Lib.hid (alloc_new' (w := ((w).alloc (.cells (wcells n) 24)).alloc (.cells (wcells d) 24)) (n := w.heap.size + 1 + 1) (.cells (wcells 0) 24) (by simp))
  replace VB := Lib.hid (VB.out.al (.cells (wcells 0) 24))
  have cGe := cell_row Ge.out
  have cGn := cell_row Gn.out
  have cGd := cell_row Gd.out
  have cGo := cell_row Go.out
  go_wp2_with fail
  refine (S1.out _).mono ?_
  rintro e w6 ⟨rfl, hb⟩
  clear cGe cGn cGd cGo
  replace VB := Lib.hid (VB.out.below hb)
  replace Ge := Lib.hid ((hb.block _ (lt_of_heap Ge.out)).trans Ge.out)
  replace Gn := Lib.hid ((hb.block _ (lt_of_heap Gn.out)).trans Gn.out)
  replace Gd := Lib.hid ((hb.block _ (lt_of_heap Gd.out)).trans Gd.out)
  replace Go := Lib.hid ((hb.block _ (lt_of_heap Go.out)).trans Go.out)
  clear hb
  have cGe := cell_row Ge.out
  have cGn := cell_row Gn.out
  have cGd := cell_row Gd.out
  have cGo := cell_row Go.out
  go_wp2_with fail
  refine (S2.out _ Ge.out VB.out.rom).mono ?_
  rintro e w7 ⟨rfl, hv⟩
  clear cGe cGn cGd cGo
  replace Ge := Lib.hid (hv.heap Ge.out (by have := VB.out.lt; (try have := HNE.out); (try have := HZ.out); omega))
  replace Gn := Lib.hid (hv.heap Gn.out (by have := VB.out.lt; (try have := HNE.out); (try have := HZ.out); omega))
  replace Gd := Lib.hid (hv.heap Gd.out (by have := VB.out.lt; (try have := HNE.out); (try have := HZ.out); omega))
  replace Go := Lib.hid (hv.heap Go.out (by have := VB.out.lt; (try have := HNE.out); (try have := HZ.out); omega))
  replace VB := Lib.hid (VB.out.trans hv)
  clear hv
  have sto := st_row (P := Try.prog) Go.out rfl (q)
  replace Go := Lib.hid (setRow_heap (w7) (w.heap.size + 1 + 1) _ (wcells (q)) _ _ Go.out)
  replace VB := Lib.hid (VB.out.row (show _ ≤ w.heap.size + 1 + 1 by (omega)) (wcells (q)))
  have cGo := cell_row Go.out
  go_wp2
  exact bodyPost_ret (v := .tuple #[wv q, .int .i64 0]) (res_ct Try.results19 _ _ _ _ _ _ _ rfl rfl Go.out aggW) rfl ⟨rfl, VB.out⟩
set_option maxRecDepth 100000 in
set_option maxHeartbeats 1000000 in
theorem divE_no (ep : Value) (n d : Nat) (E : Int) (hE : E ≠ 0) (hM : ∀ w', Calls Try.prog 38 #[ep, wv n, wv d] w' fun x w'' => x = .returned (.int .i64 E) ∧ Below w'.heap.size w' w'') (w : World) :
    Calls Try.prog 17 #[ep, wv n, wv d] w fun x w' => x = .returned (.tuple #[wv 0, wv 0, .int .i64 E]) ∧ Below w.heap.size w w' := by
  have S1 := Lib.hid hM
  have hb : (E != 0) = true := by simp [hE]
  clear hM hE
  go_enter Try.func17, Try.ntmps17
  have HB := Lib.hid (Below.refl w.heap.size w)
  have Gn := Lib.hid (alloc_new (w) (.cells (wcells n) 24))
  replace HB := Lib.hid (below_al HB.out (.cells (wcells n) 24))
  replace Gn := Lib.hid (keepAl (o' := .cells (wcells d) 24) Gn.out)
  have Gd := Lib.hid (alloc_new' (w := (w).alloc (.cells (wcells n) 24)) (n := w.heap.size + 1) (.cells (wcells d) 24) (by simp))
  replace HB := Lib.hid (below_al HB.out (.cells (wcells d) 24))
  replace Gn := Lib.hid (keepAl (o' := .cells (wcells 0) 24) Gn.out)
  replace Gd := Lib.hid (keepAl (o' := .cells (wcells 0) 24) Gd.out)
  have Gx := Lib.hid (alloc_new' (w := ((w).alloc (.cells (wcells n) 24)).alloc (.cells (wcells d) 24)) (n := w.heap.size + 1 + 1) (.cells (wcells 0) 24) (by simp))
  replace HB := Lib.hid (below_al HB.out (.cells (wcells 0) 24))
  replace Gn := Lib.hid (keepAl (o' := .cells (wcells 0) 24) Gn.out)
  replace Gd := Lib.hid (keepAl (o' := .cells (wcells 0) 24) Gd.out)
  replace Gx := Lib.hid (keepAl (o' := .cells (wcells 0) 24) Gx.out)
  have Gy := Lib.hid (alloc_new' (w := (((w).alloc (.cells (wcells n) 24)).alloc (.cells (wcells d) 24)).alloc (.cells (wcells 0) 24)) (n := w.heap.size + 1 + 1 + 1) (.cells (wcells 0) 24) (by simp))
  replace HB := Lib.hid (below_al HB.out (.cells (wcells 0) 24))
  have cGn := cell_row Gn.out
  have cGd := cell_row Gd.out
  have cGx := cell_row Gx.out
  have cGy := cell_row Gy.out
  go_wp2_with fail
  refine (S1.out _).mono ?_
  rintro e w8 ⟨rfl, hb⟩
  clear cGn cGd cGx cGy
  replace HB := Lib.hid (below_then HB.out hb)
  replace Gn := Lib.hid ((hb.block _ (lt_of_heap Gn.out)).trans Gn.out)
  replace Gd := Lib.hid ((hb.block _ (lt_of_heap Gd.out)).trans Gd.out)
  replace Gx := Lib.hid ((hb.block _ (lt_of_heap Gx.out)).trans Gx.out)
  replace Gy := Lib.hid ((hb.block _ (lt_of_heap Gy.out)).trans Gy.out)
  clear hb
  have stx := st_row (P := Try.prog) Gx.out rfl (0)
  replace Gn := Lib.hid ((setRow_other (w8) (w.heap.size + 1 + 1) _ (wcells (0)) (by (omega))).trans Gn.out)
  replace Gd := Lib.hid ((setRow_other (w8) (w.heap.size + 1 + 1) _ (wcells (0)) (by (omega))).trans Gd.out)
  replace Gy := Lib.hid ((setRow_other (w8) (w.heap.size + 1 + 1) _ (wcells (0)) (by (omega))).trans Gy.out)
  replace Gx := Lib.hid (setRow_heap (w8) (w.heap.size + 1 + 1) _ (wcells (0)) _ _ Gx.out)
  replace HB := Lib.hid (below_setRow' HB.out (show _ ≤ w.heap.size + 1 + 1 by (omega)) (wcells (0)))
  have q1 := stx
  clear stx
  have sty := st_row (P := Try.prog) Gy.out rfl (0)
  replace Gn := Lib.hid ((setRow_other ((w8).setRow (w.heap.size + 1 + 1) (wcells (0))) (w.heap.size + 1 + 1 + 1) _ (wcells (0)) (by (omega))).trans Gn.out)
  replace Gd := Lib.hid ((setRow_other ((w8).setRow (w.heap.size + 1 + 1) (wcells (0))) (w.heap.size + 1 + 1 + 1) _ (wcells (0)) (by (omega))).trans Gd.out)
  replace Gx := Lib.hid ((setRow_other ((w8).setRow (w.heap.size + 1 + 1) (wcells (0))) (w.heap.size + 1 + 1 + 1) _ (wcells (0)) (by (omega))).trans Gx.out)
  replace Gy := Lib.hid (setRow_heap ((w8).setRow (w.heap.size + 1 + 1) (wcells (0))) (w.heap.size + 1 + 1 + 1) _ (wcells (0)) _ _ Gy.out)
  replace HB := Lib.hid (below_setRow' HB.out (show _ ≤ w.heap.size + 1 + 1 + 1 by (omega)) (wcells (0)))
  have cGn := cell_row Gn.out
  have cGd := cell_row Gd.out
  have cGx := cell_row Gx.out
  have cGy := cell_row Gy.out
  go_wp2
  exact bodyPost_ret (v := .tuple #[wv 0, wv 0, .int .i64 E]) (res_cct Try.results17 _ _ _ _ _ _ _ _ _ _ _ rfl rfl rfl Gx.out Gy.out aggW aggW) rfl ⟨rfl, HB.out⟩
set_option maxRecDepth 100000 in
set_option maxHeartbeats 2000000 in
theorem divE_yes (e g n d : Nat) (hm : mayN n d = 0) (hn : n < M) (hd : d < M) (w : World) (hE : w.heap[e]? = some (.cells #[.pointer (some ⟨g, 0, none⟩)] 103 (0, 0))) (hI : IsRom w g) (hne : e ≠ g) :
    Calls Try.prog 17 #[.pointer (some ⟨e, 0, none⟩), wv n, wv d] w fun x w' => x = .returned (.tuple #[wv (n / d), wv (n % d), .int .i64 0]) ∧ VG g w w' := by
  have S1 := Lib.hid (fun w' => mayE_w e n d hn hd w')
  have S2 := Lib.hid (fun w' hE hI => guessN_w e g n d hm w' hE hI hne)
  obtain ⟨n1, n2⟩ := nwq_near hm
  have S3 := Lib.hid (fun w' => quotient_yes n d (nwq n d) 4 hn hd hm (near_small hm n1) (by decide) (near_4 n1 n2) w')
  rw [hm] at S1
  obtain ⟨D, hDe⟩ : ∃ q : Nat, q = (nwq n d - n / d) + (n / d - nwq n d) := ⟨_, rfl⟩
  rw [← hDe] at S3
  obtain ⟨G, hGe⟩ : ∃ q, q = nwq n d := ⟨_, rfl⟩
  rw [← hGe] at S2 S3
  obtain ⟨Q, hQe⟩ : ∃ q, q = n / d := ⟨_, rfl⟩
  obtain ⟨R, hRe⟩ : ∃ q, q = n % d := ⟨_, rfl⟩
  rw [← hQe, ← hRe] at S3 ⊢
  have VB := Lib.hid (VG.refl hI)
  have Ge := Lib.hid hE
  have HNE := Lib.hid hne
  clear hm hn hd hE hI hne n1 n2 hDe hGe hQe hRe
  go_enter Try.func17, Try.ntmps17
  replace Ge := Lib.hid (keepAl (o' := .cells (wcells n) 24) Ge.out)
  have Gn := Lib.hid (alloc_new (w) (.cells (wcells n) 24))
  replace VB := Lib.hid (VB.out.al (.cells (wcells n) 24))
  replace Ge := Lib.hid (keepAl (o' := .cells (wcells d) 24) Ge.out)
  replace Gn := Lib.hid (keepAl (o' := .cells (wcells d) 24) Gn.out)
  have Gd := Lib.hid (alloc_new' (w := (w).alloc (.cells (wcells n) 24)) (n := w.heap.size + 1) (.cells (wcells d) 24) (by simp))
  replace VB := Lib.hid (VB.out.al (.cells (wcells d) 24))
  replace Ge := Lib.hid (keepAl (o' := .cells (wcells 0) 24) Ge.out)
  replace Gn := Lib.hid (keepAl (o' := .cells (wcells 0) 24) Gn.out)
  replace Gd := Lib.hid (keepAl (o' := .cells (wcells 0) 24) Gd.out)
  have Gx := Lib.hid (alloc_new' (w := ((w).alloc (.cells (wcells n) 24)).alloc (.cells (wcells d) 24)) (n := w.heap.size + 1 + 1) (.cells (wcells 0) 24) (by simp))
  replace VB := Lib.hid (VB.out.al (.cells (wcells 0) 24))
  replace Ge := Lib.hid (keepAl (o' := .cells (wcells 0) 24) Ge.out)
  replace Gn := Lib.hid (keepAl (o' := .cells (wcells 0) 24) Gn.out)
  replace Gd := Lib.hid (keepAl (o' := .cells (wcells 0) 24) Gd.out)
  replace Gx := Lib.hid (keepAl (o' := .cells (wcells 0) 24) Gx.out)
  have Gy := Lib.hid (alloc_new' (w := (((w).alloc (.cells (wcells n) 24)).alloc (.cells (wcells d) 24)).alloc (.cells (wcells 0) 24)) (n := w.heap.size + 1 + 1 + 1) (.cells (wcells 0) 24) (by simp))
  replace VB := Lib.hid (VB.out.al (.cells (wcells 0) 24))
  have cGe := cell_row Ge.out
  have cGn := cell_row Gn.out
  have cGd := cell_row Gd.out
  have cGx := cell_row Gx.out
  have cGy := cell_row Gy.out
  go_wp2_with fail
  refine (S1.out _).mono ?_
  rintro e w9 ⟨rfl, hb⟩
  clear cGe cGn cGd cGx cGy
  replace VB := Lib.hid (VB.out.below hb)
  replace Ge := Lib.hid ((hb.block _ (lt_of_heap Ge.out)).trans Ge.out)
  replace Gn := Lib.hid ((hb.block _ (lt_of_heap Gn.out)).trans Gn.out)
  replace Gd := Lib.hid ((hb.block _ (lt_of_heap Gd.out)).trans Gd.out)
  replace Gx := Lib.hid ((hb.block _ (lt_of_heap Gx.out)).trans Gx.out)
  replace Gy := Lib.hid ((hb.block _ (lt_of_heap Gy.out)).trans Gy.out)
  clear hb
  have cGe := cell_row Ge.out
  have cGn := cell_row Gn.out
  have cGd := cell_row Gd.out
  have cGx := cell_row Gx.out
  have cGy := cell_row Gy.out
  go_upto_region 4 with fail
  clear cGe cGn cGd cGx cGy
  have HZ := Lib.hid (lt_of_heap Gy.out)
  have xGe := extg_row (g := g) (B := w9.heap.size) Ge.out (lt_of_heap Ge.out) (by have := VB.out.lt; (try have := HNE.out); (try have := HZ.out); omega)
  have xGn := extg_row (g := g) (B := w9.heap.size) Gn.out (lt_of_heap Gn.out) (by have := VB.out.lt; (try have := HNE.out); (try have := HZ.out); omega)
  have xGd := extg_row (g := g) (B := w9.heap.size) Gd.out (lt_of_heap Gd.out) (by have := VB.out.lt; (try have := HNE.out); (try have := HZ.out); omega)
  have xGx := extg_row (g := g) (B := w9.heap.size) Gx.out (lt_of_heap Gx.out) (by have := VB.out.lt; (try have := HNE.out); (try have := HZ.out); omega)
  have xGy := extg_row (g := g) (B := w9.heap.size) Gy.out (lt_of_heap Gy.out) (by have := VB.out.lt; (try have := HNE.out); (try have := HZ.out); omega)
  have hnx : Nonempty (ExtG g w9.heap.size w9) := ⟨⟨w9, BelowG.refl VB.out.rom _⟩⟩
  apply wp_region_looseG VB.out.rom (looseRV [_, _, _, _, _, _, _, _, _, _, _, _, undef, undef, undef, undef, _, _]) (pureL [2, 7, 8, 9, 10, 11, 16, 17])
  · kernel_rfl
  · kernel_rfl
  · kernel_rfl
  · exact allocs_ok [24, 24] rfl (by intro T hT; simp only [List.mem_cons, List.not_mem_nil, or_false, or_self] at hT; subst hT; exact makes_wide)
  · exact looseRV_st _ _
  · change wpLG _ _ _ _ _ _ _ _ 18 0 _ _
    refine wpL_calmG w9 rfl rfl rfl rfl (fun K hK K0 hK0 => ?_)
    go_simp
    first | refine hK _ _ rfl rfl ?_ | refine hK0 _ rfl ?_
    clear hK hK0 K K0
    refine wpL_calmG w9 rfl rfl rfl rfl (fun K hK K0 hK0 => ?_)
    go_simp
    first | refine hK _ _ rfl rfl ?_ | refine hK0 _ rfl ?_
    clear hK hK0 K K0
    refine wpL_pureG w9 rfl rfl rfl rfl (fun K hK K0 hK0 => ?_)
    go_simp
    first | refine hK _ _ rfl rfl ?_ | refine hK0 _ rfl ?_
    clear hK hK0 K K0
    refine wpL_calmG w9 rfl rfl rfl rfl (fun K hK K0 hK0 => ?_)
    go_simp
    first | refine hK _ _ rfl rfl ?_ | refine hK0 _ rfl ?_
    clear hK hK0 K K0
    refine wpL_calmG w9 rfl rfl rfl rfl (fun K hK K0 hK0 => ?_)
    go_simp
    first | refine hK _ _ rfl rfl ?_ | refine hK0 _ rfl ?_
    clear hK hK0 K K0
    refine wpL_calmG w9 rfl rfl rfl rfl (fun K hK K0 hK0 => ?_)
    go_simp
    apply Exists.intro
    apply And.intro
    · intro x
      go_at_call 39
      with_reducible exact Calls.stepV (S2.out _ (extg_block Ge.out (lt_of_heap Ge.out) HNE.out _) (extg_rom _))
    refine hK _ _ rfl rfl ?_
    clear hK hK0 K K0
    refine wpL_calmG w9 rfl rfl rfl rfl (fun K hK K0 hK0 => ?_)
    go_simp
    apply Exists.intro
    apply And.intro
    · intro x
      go_at_call 30
      with_reducible exact Calls.stepG _ (S3.out _)
    refine hK _ _ rfl rfl ?_
    clear hK hK0 K K0
    refine wpL_pureG w9 rfl rfl rfl rfl (fun K hK K0 hK0 => ?_)
    go_simp
    first | refine hK _ _ rfl rfl ?_ | refine hK0 _ rfl ?_
    clear hK hK0 K K0
    refine wpL_pureG w9 rfl rfl rfl rfl (fun K hK K0 hK0 => ?_)
    go_simp
    first | refine hK _ _ rfl rfl ?_ | refine hK0 _ rfl ?_
    clear hK hK0 K K0
    refine wpL_pureG w9 rfl rfl rfl rfl (fun K hK K0 hK0 => ?_)
    go_simp
    first | refine hK _ _ rfl rfl ?_ | refine hK0 _ rfl ?_
    clear hK hK0 K K0
    refine wpL_pureG w9 rfl rfl rfl rfl (fun K hK K0 hK0 => ?_)
    go_simp
    first | refine hK _ _ rfl rfl ?_ | refine hK0 _ rfl ?_
    clear hK hK0 K K0
    refine wpL_pureG w9 rfl rfl rfl rfl (fun K hK K0 hK0 => ?_)
    go_simp
    first | refine hK _ _ rfl rfl ?_ | refine hK0 _ rfl ?_
    clear hK hK0 K K0
    refine wpL_allocG rfl rfl rfl rfl (fun g12 hg12 => ?_)
    refine wpL_allocG rfl rfl rfl rfl (fun g13 hg13 => ?_)
    refine wpL_storeG rfl rfl ?_
    refine wpL_storeG rfl rfl ?_
    refine wpL_pureG w9 rfl rfl rfl rfl (fun K hK K0 hK0 => ?_)
    go_simp
    first | refine hK _ _ rfl rfl ?_ | refine hK0 _ rfl ?_
    clear hK hK0 K K0
    refine wpL_pureG w9 rfl rfl rfl rfl (fun K hK K0 hK0 => ?_)
    go_simp
    first | refine hK _ _ rfl rfl ?_ | refine hK0 _ rfl ?_
    clear hK hK0 K K0
    refine wpL_nilG (endLG [(24, .tmp 10, .tmp 31), (24, .tmp 11, .tmp 32)] rfl (by intro q hq; simp only [List.mem_cons, List.not_mem_nil, or_false] at hq; rcases hq with rfl | rfl <;> exact fits_wv (by kernel_rfl) _) (fun w10 hv hst hap hfin => ?_))
    have Gq : Hid (w10.heap[g12]? = some (.cells (wcells (Q)) 24 (0, 0))) := Lib.hid (hst 14 _ _ _ _ g12 rfl rfl rfl)
    have Gr : Hid (w10.heap[g13]? = some (.cells (wcells (R)) 24 (0, 0))) := Lib.hid (hst 15 _ _ _ _ g13 rfl rfl rfl)
    have hne12_13 : g12 ≠ g13 := fun h => hap 12 _ _ _ 13 _ _ _ rfl rfl rfl rfl rfl rfl (by decide) (by subst h; rfl)
    replace Ge := Lib.hid ((hv.block _ (lt_of_heap Ge.out) (by have := VB.out.lt; (try have := HNE.out); (try have := HZ.out); omega)).trans Ge.out)
    replace Gn := Lib.hid ((hv.block _ (lt_of_heap Gn.out) (by have := VB.out.lt; (try have := HNE.out); (try have := HZ.out); omega)).trans Gn.out)
    replace Gd := Lib.hid ((hv.block _ (lt_of_heap Gd.out) (by have := VB.out.lt; (try have := HNE.out); (try have := HZ.out); omega)).trans Gd.out)
    replace Gx := Lib.hid ((hv.block _ (lt_of_heap Gx.out) (by have := VB.out.lt; (try have := HNE.out); (try have := HZ.out); omega)).trans Gx.out)
    replace Gy := Lib.hid ((hv.block _ (lt_of_heap Gy.out) (by have := VB.out.lt; (try have := HNE.out); (try have := HZ.out); omega)).trans Gy.out)
    have HG12 := Lib.hid hg12
    have HG13 := Lib.hid hg13
    replace VB := Lib.hid (VB.out.trans' hv)
    clear hv hst hap hfin xGe xGn xGd xGx xGy hnx
    have cGx := cell_row Gx.out
    have cGy := cell_row Gy.out
    have cGq := cell_row Gq.out
    have cGr := cell_row Gr.out
    go_upto_region 5 with fail
    clear cGx cGy cGq cGr
    refine wp_region_store [⟨w.heap.size + 1 + 1, 24, .tmp 35⟩, ⟨w.heap.size + 1 + 1 + 1, 24, .tmp 36⟩] (by kernel_rfl) (by kernel_rfl) (by kernel_rfl) rfl (List.Pairwise.cons (by intro r hr; simp only [List.mem_cons, List.not_mem_nil, or_false] at hr; subst hr <;> dsimp only <;> (have := HZ.out; have := HG12.out; have := HG13.out; omega)) (List.pairwise_singleton _ _)) ?_ ?_
    · intro r hr
      simp only [List.mem_cons, List.not_mem_nil, or_false] at hr
      rcases hr with rfl | rfl
      · exact ⟨_, Gx.out, by kernel_rfl⟩
      · exact ⟨_, Gy.out, by kernel_rfl⟩
    have xGq := extR_row (B := w10.heap.size) (R := [⟨w.heap.size + 1 + 1, 24, .tmp 35⟩, ⟨w.heap.size + 1 + 1 + 1, 24, .tmp 36⟩]) Gq.out (lt_of_heap Gq.out) (by intro r hr; simp only [List.mem_cons, List.not_mem_nil, or_false] at hr; rcases hr with rfl | rfl <;> dsimp only <;> (have := HZ.out; have := HG12.out; have := HG13.out; omega))
    have xGr := extR_row (B := w10.heap.size) (R := [⟨w.heap.size + 1 + 1, 24, .tmp 35⟩, ⟨w.heap.size + 1 + 1 + 1, 24, .tmp 36⟩]) Gr.out (lt_of_heap Gr.out) (by intro r hr; simp only [List.mem_cons, List.not_mem_nil, or_false] at hr; rcases hr with rfl | rfl <;> dsimp only <;> (have := HZ.out; have := HG12.out; have := HG13.out; omega))
    repeat (refine wpCalm_step (fun K hK => ?_); go_simp; first | (refine hK _ ?_; clear hK K) | (apply Exists.intro; refine ⟨fun _ => ?_, hK _ ?_⟩; (first | fail); clear hK K))
    refine wpCalm_nil ⟨?_, fun x hx => ?_⟩
    · intro r hr
      simp only [List.mem_cons, List.not_mem_nil, or_false] at hr
      rcases hr with rfl | rfl <;> exact fits_wv (by kernel_rfl) _
    replace Gx : Hid (x.val.heap[w.heap.size + 1 + 1]? = some (.cells (wcells (Q)) 24 (0, 0))) := Lib.hid (hx ⟨w.heap.size + 1 + 1, 24, .tmp 35⟩ (by simp))
    replace Gy : Hid (x.val.heap[w.heap.size + 1 + 1 + 1]? = some (.cells (wcells (R)) 24 (0, 0))) := Lib.hid (hx ⟨w.heap.size + 1 + 1 + 1, 24, .tmp 36⟩ (by simp))
    replace Gq := Lib.hid (extR_block x Gq.out (lt_of_heap Gq.out) (by intro r hr; simp only [List.mem_cons, List.not_mem_nil, or_false] at hr; rcases hr with rfl | rfl <;> dsimp only <;> (have := HZ.out; have := HG12.out; have := HG13.out; omega)))
    replace Gr := Lib.hid (extR_block x Gr.out (lt_of_heap Gr.out) (by intro r hr; simp only [List.mem_cons, List.not_mem_nil, or_false] at hr; rcases hr with rfl | rfl <;> dsimp only <;> (have := HZ.out; have := HG12.out; have := HG13.out; omega)))
    replace VB := Lib.hid (VB.out.extR x (by intro r hr; simp only [List.mem_cons, List.not_mem_nil, or_false] at hr; rcases hr with rfl | rfl <;> dsimp only <;> (have := HZ.out; have := HG12.out; have := HG13.out; omega)))
    clear hx xGq xGr
    obtain ⟨w11, hw⟩ : ∃ wx, wx = x.val := ⟨_, rfl⟩
    rw [← hw] at Gx Gy Gq Gr VB ⊢
    clear hw x
    have cGx := cell_row Gx.out
    have cGy := cell_row Gy.out
    have cGq := cell_row Gq.out
    have cGr := cell_row Gr.out
    go_wp2
    exact bodyPost_ret (v := .tuple #[wv Q, wv R, .int .i64 0]) (res_cct Try.results17 _ _ _ _ _ _ _ _ _ _ _ rfl rfl rfl Gx.out Gy.out aggW aggW) rfl ⟨rfl, VB.out⟩
end Go.Proofs.Ytegmmaaapdgocaa
