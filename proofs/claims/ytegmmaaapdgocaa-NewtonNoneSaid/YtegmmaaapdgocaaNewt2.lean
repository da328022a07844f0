/- THE WALKS of newton, going on: the first guess; a divisor's reciprocal; the guess for a quotient; an engine made. -/
import Derived.Test.YtegmmaaapdgocaaNewt
import Derived.Test.YtegmmaaapdgocaaNormT
import Derived.Test.YtegmmaaapdgocaaLooseG
namespace Go.Proofs.Ytegmmaaapdgocaa
open Go Go.RowKit

theorem guessV_le (d : Nat) : guessV d ≤ 131072 := by
  unfold guessV
  split
  · unfold rcpN; exact Nat.div_le_self _ _
  · exact Nat.zero_le _
theorem shlN_w (v c : Nat) (hc : c ≤ 512) (h : v * P2 c < M) (w : World) : Calls Try.prog 43 #[wv v, .int .i64 (c : Int)] w fun e w' => e = .returned (wv (v * P2 c)) ∧ Below w.heap.size w w' := by
  have := shl_any v (c : Int) w (by omega) (by omega)
  rw [clampN_at hc, Nat.mod_eq_of_lt h] at this
  exact this
theorem guess_151 (d : Nat) : guessV d * P2 151 < M := by
  have h := Nat.mul_le_mul_right (P2 151) (guessV_le d)
  rw [show (131072 : Nat) = P2 17 by rw [P2_eq], ← P2_add] at h
  have : P2 (17 + 151) < M := by rw [M_eq]; exact P2_lt (by omega)
  omega
attribute [local go_sem ↓] Go.wp_at_zero Go.wp_at_succ
set_option maxRecDepth 100000 in
set_option maxHeartbeats 1000000 in
theorem seedN_w (g D : Nat) (hD : D < M) (w : World) (h : IsRom w g) :
    Calls Try.prog 71 #[.agg #[.pointer (some ⟨g, 0, none⟩)], wv D] w fun e w' => e = .returned (wv (nwY D 0)) ∧ VG g w w' := by
  have S1 := Lib.hid (fun w' h => Calls.vOk h (guess_any g D hD w' h))
  have hle := guessV_le D
  have S2 := Lib.hid (fun w' p h => of_one (guessV D) (by omega) w' p h)
  have S3 := Lib.hid (fun w' => shlN_w (guessV D) 151 (by omega) (guess_151 D) w')
  rw [show nwY D 0 = guessV D * P2 151 from rfl]
  obtain ⟨y, hy⟩ : ∃ y, y = guessV D * P2 151 := ⟨_, rfl⟩
  rw [← hy] at S3 ⊢
  obtain ⟨v, hv⟩ : ∃ v, v = guessV D := ⟨_, rfl⟩
  rw [← hv] at S1 S2 S3
  obtain ⟨b, hb⟩ : ∃ v, v = guessB D := ⟨_, rfl⟩
  rw [← hb] at S1
  have VB := Lib.hid (VG.refl h)
  clear hD h hle hy hv hb
  go_enter Try.func71, Try.ntmps71
  have Gs := Lib.hid (alloc_new (w) (.cells #[.pointer (some ⟨g, 0, none⟩)] 101))
  replace VB := Lib.hid (VB.out.al (.cells #[.pointer (some ⟨g, 0, none⟩)] 101))
  replace Gs := Lib.hid (keepAl (o' := .cells (wcells D) 24) Gs.out)
  have Gd := Lib.hid (alloc_new' (w := (w).alloc (.cells #[.pointer (some ⟨g, 0, none⟩)] 101)) (n := w.heap.size + 1) (.cells (wcells D) 24) (by simp))
  replace VB := Lib.hid (VB.out.al (.cells (wcells D) 24))
  replace Gs := Lib.hid (keepAl (o' := .cells (wcells 0) 24) Gs.out)
  replace Gd := Lib.hid (keepAl (o' := .cells (wcells 0) 24) Gd.out)
  have Go := Lib.hid (alloc_new' (w := ((w).alloc (.cells #[.pointer (some ⟨g, 0, none⟩)] 101)).alloc (.cells (wcells D) 24)) (n := w.heap.size + 1 + 1) (.cells (wcells 0) 24) (by simp))
  replace VB := Lib.hid (VB.out.al (.cells (wcells 0) 24))
  have cGs := cell_row Gs.out
  have cGd := cell_row Gd.out
  have cGo := cell_row Go.out
  go_wp2_with fail
  refine (S1.out _ VB.out.rom).mono ?_
  rintro e w1 ⟨rfl, hv⟩
  clear cGs cGd cGo
  replace Gs := Lib.hid (hv.heap Gs.out (by have := VB.out.lt; (try have := HNE.out); (try have := HZ.out); omega))
  replace Gd := Lib.hid (hv.heap Gd.out (by have := VB.out.lt; (try have := HNE.out); (try have := HZ.out); omega))
  replace Go := Lib.hid (hv.heap Go.out (by have := VB.out.lt; (try have := HNE.out); (try have := HZ.out); omega))
  replace VB := Lib.hid (VB.out.trans hv)
  clear hv
  have HZ := Lib.hid (lt_of_heap Go.out)
  replace Go := Lib.hid (keepAl (o' := .cells #[.int .u64 (v : Int)] 22) Go.out)
  have Gl := Lib.hid (alloc_new (w1) (.cells #[.int .u64 (v : Int)] 22))
  replace VB := Lib.hid (VB.out.al (.cells #[.int .u64 (v : Int)] 22))
  have cGo := cell_row Go.out
  have cGl := cell_row Gl.out
  go_wp2_with fail
  refine (S2.out _ _ Gl.out).mono ?_
  rintro e w2 ⟨rfl, hb⟩
  clear cGo cGl
  replace VB := Lib.hid (VB.out.below hb)
  replace Go := Lib.hid ((hb.block _ (lt_of_heap Go.out)).trans Go.out)
  replace Gl := Lib.hid ((hb.block _ (lt_of_heap Gl.out)).trans Gl.out)
  clear hb
  have cGo := cell_row Go.out
  go_wp2_with fail
  refine (S3.out _).mono ?_
  rintro e w3 ⟨rfl, hb⟩
  clear cGo
  replace VB := Lib.hid (VB.out.below hb)
  replace Go := Lib.hid ((hb.block _ (lt_of_heap Go.out)).trans Go.out)
  clear hb
  have sto := st_row (P := Try.prog) Go.out rfl (y)
  replace Go := Lib.hid (setRow_heap (w3) (w.heap.size + 1 + 1) _ (wcells (y)) _ _ Go.out)
  replace VB := Lib.hid (VB.out.row (show _ ≤ w.heap.size + 1 + 1 by (have := HZ.out; omega)) (wcells (y)))
  have cGo := cell_row Go.out
  go_wp2
  exact bodyPost_ret (v := wv y) (res_c Try.results71 _ _ _ _ _ _ rfl Go.out aggW) rfl ⟨rfl, VB.out⟩
set_option maxRecDepth 100000 in
set_option maxHeartbeats 1000000 in
theorem recipN_w (e g D k : Nat) (hb : blen D = 128) (h1 : P2 127 ≤ D) (hD : D < P2 128) (hk : k ≤ 10) (w : World) (hE : w.heap[e]? = some (.cells #[.pointer (some ⟨g, 0, none⟩)] 103 (0, 0))) (hI : IsRom w g) (hne : e ≠ g) :
    Calls Try.prog 41 #[.pointer (some ⟨e, 0, none⟩), wv D, .int .i64 (k : Int)] w fun x w' => x = .returned (wv (nwY D k)) ∧ VG g w w' := by
  have hDM : D < M := Nat.lt_trans hD (by rw [M_eq]; exact P2_lt (by omega))
  have S1 := Lib.hid (fun w' h => seedN_w g D hDM w' h)
  have S2 : Hid (∀ w' : World, w'.heap[w.heap.size]? = some (.cells (wcells D) 24 (0, 0)) → Calls Try.prog 70 #[.int .i64 (k : Int), wv (nwY D 0), .func (.func 72) #[] #[.pointer (some ⟨w.heap.size, 0, none⟩)]] w' fun e w'' => e = .returned (wv (nwY D k)) ∧ Below w'.heap.size w' w'') := Lib.hid fun w' h => by
    have := repeatN_any 72 w.heap.size D k (nwY D 0) (nwG D) w' (by omega) h enters_roundN (guess_151 D) (nwG_lt D) (fun x w'' hx h2 => roundN_any w.heap.size D x w'' hDM hx h2)
    rw [itN_nw hb h1 hD k] at this
    exact this
  obtain ⟨y, hy⟩ : ∃ y, y = nwY D k := ⟨_, rfl⟩
  obtain ⟨a, ha⟩ : ∃ y, y = nwY D 0 := ⟨_, rfl⟩
  rw [← hy, ← ha] at S2
  rw [← ha] at S1
  rw [← hy]
  have VB := Lib.hid (VG.refl hI)
  have Ge := Lib.hid hE
  have HNE := Lib.hid hne
  clear hb h1 hD hk hE hI hne hDM hy ha
  go_enter Try.func41, Try.ntmps41
  replace Ge := Lib.hid (keepAl (o' := .cells (wcells D) 24) Ge.out)
  have Gd := Lib.hid (alloc_new (w) (.cells (wcells D) 24))
  replace VB := Lib.hid (VB.out.al (.cells (wcells D) 24))
  replace Ge := Lib.hid (keepAl (o' := .cells (wcells 0) 24) Ge.out)
  replace Gd := Lib.hid (keepAl (o' := .cells (wcells 0) 24) Gd.out)
  have Go := Lib.hid (alloc_new' (w := (w).alloc (.cells (wcells D) 24)) (n := w.heap.size + 1) (.cells (wcells 0) 24) (by simp))
  replace VB := Lib.hid (VB.out.al (.cells (wcells 0) 24))
  have cGe := cell_row Ge.out
  have cGd := cell_row Gd.out
  have cGo := cell_row Go.out
  go_upto_region 1 with fail
  clear cGe cGd cGo
  obtain ⟨w4, hw⟩ : ∃ wx, wx = ((w).alloc (.cells (wcells D) 24)).alloc (.cells (wcells 0) 24) := ⟨_, rfl⟩
  rw [← hw] at Ge Gd Go VB ⊢
  clear hw
  have xGe := extg_row (g := g) (B := w4.heap.size) Ge.out (lt_of_heap Ge.out) (by have := VB.out.lt; (try have := HNE.out); (try have := HZ.out); omega)
  have xGd := extg_row (g := g) (B := w4.heap.size) Gd.out (lt_of_heap Gd.out) (by have := VB.out.lt; (try have := HNE.out); (try have := HZ.out); omega)
  have xGo := extg_row (g := g) (B := w4.heap.size) Go.out (lt_of_heap Go.out) (by have := VB.out.lt; (try have := HNE.out); (try have := HZ.out); omega)
  have hnx : Nonempty (ExtG g w4.heap.size w4) := ⟨⟨w4, BelowG.refl VB.out.rom _⟩⟩
  refine wp_region_tailG _ 9 w4.heap.size VB.out.rom (by kernel_rfl) (by kernel_rfl) ?_
  simp only [List.take_succ_cons, List.take_zero, List.drop_succ_cons, List.drop_zero]
  repeat (go_big_quiet_step (first | (go_at_call 71; with_reducible exact Calls.quietG (Nat.le_refl _) (Calls.stepV (S1.out _ (extg_rom _)))) | (go_at_call 70; with_reducible exact Calls.quietG (Nat.le_refl _) (Calls.stepG _ (S2.out _ (extg_block Gd.out (lt_of_heap Gd.out) (by have := VB.out.lt; omega) _))))))
  refine wpQuiet_nil ?_
  intro w5 hv
  clear xGe xGd xGo hnx
  replace Ge := Lib.hid ((hv.block _ (lt_of_heap Ge.out) (by have := VB.out.lt; (try have := HNE.out); (try have := HZ.out); omega)).trans Ge.out)
  replace Gd := Lib.hid ((hv.block _ (lt_of_heap Gd.out) (by have := VB.out.lt; (try have := HNE.out); (try have := HZ.out); omega)).trans Gd.out)
  replace Go := Lib.hid ((hv.block _ (lt_of_heap Go.out) (by have := VB.out.lt; (try have := HNE.out); (try have := HZ.out); omega)).trans Go.out)
  replace VB := Lib.hid (VB.out.trans' hv)
  clear hv
  have HZ := Lib.hid (lt_of_heap Go.out)
  have sto := st_row (P := Try.prog) Go.out rfl (y)
  replace Gd := Lib.hid ((setRow_other (w5) (w.heap.size + 1) _ (wcells (y)) (by (omega))).trans Gd.out)
  replace Go := Lib.hid (setRow_heap (w5) (w.heap.size + 1) _ (wcells (y)) _ _ Go.out)
  replace VB := Lib.hid (VB.out.row (show _ ≤ w.heap.size + 1 by (omega)) (wcells (y)))
  have cGd := cell_row Gd.out
  have cGo := cell_row Go.out
  go_wp2
  exact bodyPost_ret (v := wv y) (res_c Try.results41 _ _ _ _ _ _ rfl Go.out aggW) rfl ⟨rfl, VB.out⟩
end Go.Proofs.Ytegmmaaapdgocaa
