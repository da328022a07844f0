/- SEVERAL TEXTS of the seat, one behind the other: each says at its head what it proves. -/
import Derived.Test.YtegmmaaapdgocaaGreatK17
import Derived.Test.YtegmmaaapdgocaaGreatK23
import Derived.Test.YtegmmaaapdgocaaGreatK25
import Derived.WalkMore
import Derived.Test.YtegmmaaapdgocaaGreatNormT
import Derived.Test.YtegmmaaapdgocaaGreatLooseG
/- THE WALKS of newton: rounds with any function of a number. -/
namespace Go.Proofs.YtegmmaaapdgocaaGreat
open Go Go.RowKit

/-- A number behind i rounds. -/
def itN (g : Nat → Nat) (a : Nat) : Nat → Nat
  | 0 => a
  | i + 1 => g (itN g a i)
theorem itN_lt {g : Nat → Nat} {a : Nat} (hg : ∀ x, g x < M) (ha : a < M) : ∀ i, itN g a i < M
  | 0 => ha
  | _ + 1 => hg _
attribute [local go_sem ↓] Go.wp_at_zero Go.wp_at_succ
set_option maxRecDepth 100000 in
set_option maxHeartbeats 2000000 in
theorem repeatN_any (f : FuncId) (Db D n a : Nat) (g : Nat → Nat) (w : World) (hn : n ≤ 100) (hD : w.heap[Db]? = some (.cells (wcells D) 24 (0, 0))) (hcall : Enters Tryz.prog f)
    (ha : a < M) (hg : ∀ x, g x < M)
    (hdo : ∀ x w', x < M → w'.heap[Db]? = some (.cells (wcells D) 24 (0, 0)) → Calls Tryz.prog f (#[wv x] ++ #[.pointer (some ⟨Db, 0, none⟩)]) w' fun e w'' => e = .returned (wv (g x)) ∧ Below w'.heap.size w' w'') :
    Calls Tryz.prog 113 #[.int .i64 (n : Int), wv a, .func (.func f) #[] #[.pointer (some ⟨Db, 0, none⟩)]] w fun e w' => e = .returned (wv (itN g a n)) ∧ Below w.heap.size w w' := by
  unfold Enters at hcall
  have HDO := Lib.hid hdo
  have HIT := Lib.hid (itN_lt hg ha)
  have HN := Lib.hid hn
  have Gd := Lib.hid hD
  have HDB := Lib.hid (lt_of_heap hD)
  clear hdo hn hD ha hg
  go_enter Tryz.func113, Tryz.ntmps113
  have HB := Lib.hid (Below.refl w.heap.size w)
  replace Gd := Lib.hid (keepAl (o' := .cells (wcells a) 24) Gd.out)
  have Ga := Lib.hid (alloc_new (w) (.cells (wcells a) 24))
  replace HB := Lib.hid (below_al HB.out (.cells (wcells a) 24))
  replace Gd := Lib.hid (keepAl (o' := .cells (wcells 0) 24) Gd.out)
  replace Ga := Lib.hid (keepAl (o' := .cells (wcells 0) 24) Ga.out)
  have Go := Lib.hid (alloc_new' (w := (w).alloc (.cells (wcells a) 24)) (n := w.heap.size + 1) (.cells (wcells 0) 24) (by simp))
  replace HB := Lib.hid (below_al HB.out (.cells (wcells 0) 24))
  go_wp2
  obtain ⟨wq, hw⟩ : ∃ wx, wx = ((w).alloc (.cells (wcells a) 24)).alloc (.cells (wcells 0) 24) := ⟨_, rfl⟩
  rw [← hw] at Gd Ga Go HB ⊢
  clear hw
  go_loopw [8] (fun s8 wr => ∃ i : Nat, s8 = .int .i64 (i : Int) ∧ i ≤ n ∧ Hid (wr.heap[Db]? = some (.cells (wcells D) 24 (0, 0))) ∧ Hid (wr.heap[w.heap.size]? = some (.cells (wcells (itN g a i)) 24 (0, 0))) ∧ Hid (wr.heap[w.heap.size + 1]? = some (.cells (wcells 0) 24 (0, 0))) ∧ Hid (Below w.heap.size w wr)) (fun s8 _ => n - (intOf s8).toNat)
  case atStart => exact ⟨0, rfl, by omega, Gd, Ga, Go, HB⟩
  case round =>
    clear HB Gd Ga Go
    obtain ⟨i, rfl, hi, Gd, Ga, Go, HB⟩ := hrel
    by_cases hlt : i < n
    · have hn := HN.out
      have e0 : (0 : Int) ≤ (i : Int) := by omega
      have e1 : (i : Int) < (n : Int) := by omega
      have e2 : (i : Int) < 100 := by omega
      have S1 := Lib.hid (fun w' h => HDO.out (itN g a i) w' (HIT.out i) h)
      have HX : Hid (itN g a (i + 1) = g (itN g a i)) := Lib.hid rfl
      obtain ⟨X, hX⟩ : ∃ X, X = itN g a i := ⟨_, rfl⟩
      rw [← hX] at S1 HX Ga
      obtain ⟨Y, hY⟩ : ∃ Y, Y = g X := ⟨_, rfl⟩
      rw [← hY] at S1 HX
      have HLT := Lib.hid hlt
      have hw : IntKind.i64.wrap ((i : Int) + 1) = (i : Int) + 1 := IntWalk.i64_in _ (by omega)
      clear hn hX hY hlt hi
      have cGd := cell_row Gd.out
      have cGa := cell_row Ga.out
      have cGo := cell_row Go.out
      go_wp2_with fail
      refine (S1.out _ Gd.out).mono ?_
      rintro e w1 ⟨rfl, hb⟩
      clear cGd cGa cGo
      replace HB := Lib.hid (below_then HB.out hb)
      replace Gd := Lib.hid ((hb.block _ (lt_of_heap Gd.out)).trans Gd.out)
      replace Ga := Lib.hid ((hb.block _ (lt_of_heap Ga.out)).trans Ga.out)
      replace Go := Lib.hid ((hb.block _ (lt_of_heap Go.out)).trans Go.out)
      clear hb
      have HZ := Lib.hid (lt_of_heap Go.out)
      have sta := st_row (P := Tryz.prog) Ga.out rfl (Y)
      replace Gd := Lib.hid ((setRow_other (w1) (w.heap.size) _ (wcells (Y)) (by (have := HDB.out; omega))).trans Gd.out)
      replace Go := Lib.hid ((setRow_other (w1) (w.heap.size) _ (wcells (Y)) (by (have := HDB.out; omega))).trans Go.out)
      replace Ga := Lib.hid (setRow_heap (w1) (w.heap.size) _ (wcells (Y)) _ _ Ga.out)
      replace HB := Lib.hid (below_setRow' HB.out (show _ ≤ w.heap.size by (have := HDB.out; omega)) (wcells (Y)))
      go_wp2
      go_roundw
      case rel => exact ⟨i + 1, by go_num, HLT.out, Gd, by rw [HX.out]; exact Ga, Go, HB⟩
      case measure => have := HLT.out; simp [intOf]; omega
    · obtain rfl : i = n := by omega
      clear hlt hi
      have ca := cell_row Ga.out
      have HZ := Lib.hid (lt_of_heap Go.out)
      have sto := st_row (P := Tryz.prog) Go.out rfl (itN g a i)
      replace Gd := Lib.hid ((setRow_other (wr) (w.heap.size + 1) _ (wcells (itN g a i)) (by (have := HDB.out; omega))).trans Gd.out)
      replace Ga := Lib.hid ((setRow_other (wr) (w.heap.size + 1) _ (wcells (itN g a i)) (by (have := HDB.out; omega))).trans Ga.out)
      replace Go := Lib.hid (setRow_heap (wr) (w.heap.size + 1) _ (wcells (itN g a i)) _ _ Go.out)
      replace HB := Lib.hid (below_setRow' HB.out (show _ ≤ w.heap.size + 1 by (have := HDB.out; omega)) (wcells (itN g a i)))
      have cGd := cell_row Gd.out
      have cGa := cell_row Ga.out
      have cGo := cell_row Go.out
      go_wp2
      (try rw [Exit.noGoto_ret])
      (try rw [Exit.noGoto_ret])
      (try rw [Exit.noGoto_ret])
      exact bodyPost_ret (v := wv (itN g a i)) (res_c Tryz.results113 _ _ _ _ _ _ rfl Go.out aggW) rfl ⟨rfl, HB.out⟩
theorem twoN_lt (p : Int) (a : Nat) : twoN p a < M := by
  unfold twoN
  split
  · exact Nat.mod_lt _ M_pos
  · exact Nat.mod_lt _ M_pos
/-- One round of a reciprocal, as the program goes it. -/
def nwG (D y : Nat) : Nat := y * twoN 160 (D * y / P2 (clampP 128) % M) / P2 (clampP 160) % M
theorem nwG_lt (D y : Nat) : nwG D y < M := Nat.mod_lt _ M_pos
set_option maxRecDepth 100000 in
set_option maxHeartbeats 2000000 in
theorem roundN_any (Db D y : Nat) (w : World) (hDM : D < M) (hy : y < M) (hD : w.heap[Db]? = some (.cells (wcells D) 24 (0, 0))) :
    Calls Tryz.prog 115 #[wv y, .pointer (some ⟨Db, 0, none⟩)] w fun e w' => e = .returned (wv (nwG D y)) ∧ Below w.heap.size w w' := by
  have hA : D * y / P2 (clampP 128) % M < M := Nat.mod_lt _ M_pos
  have S1 := Lib.hid (fun w' => times_w D y 128 hDM hy w')
  have S2 := Lib.hid (fun w' => two_w 160 (D * y / P2 (clampP 128) % M) hA w')
  have S3 := Lib.hid (fun w' => times_w y (twoN 160 (D * y / P2 (clampP 128) % M)) 160 hy (twoN_lt _ _) w')
  unfold nwG
  obtain ⟨A, hAe⟩ : ∃ A, A = D * y / P2 (clampP 128) % M := ⟨_, rfl⟩
  rw [← hAe] at S1 S2 S3 ⊢
  obtain ⟨B, hB⟩ : ∃ B, B = twoN 160 A := ⟨_, rfl⟩
  rw [← hB] at S2 S3 ⊢
  obtain ⟨C, hC⟩ : ∃ C, C = y * B / P2 (clampP 160) % M := ⟨_, rfl⟩
  rw [← hC] at S3 ⊢
  have Gd := Lib.hid hD
  have HDB := Lib.hid (lt_of_heap hD)
  clear hDM hy hD hA hAe hB hC
  go_enter Tryz.func115, Tryz.ntmps115
  have HB := Lib.hid (Below.refl w.heap.size w)
  replace Gd := Lib.hid (keepAl (o' := .cells (wcells y) 24) Gd.out)
  have Gy := Lib.hid (alloc_new (w) (.cells (wcells y) 24))
  replace HB := Lib.hid (below_al HB.out (.cells (wcells y) 24))
  replace Gd := Lib.hid (keepAl (o' := .cells (wcells 0) 24) Gd.out)
  replace Gy := Lib.hid (keepAl (o' := .cells (wcells 0) 24) Gy.out)
  have Go := Lib.hid (alloc_new' (w := (w).alloc (.cells (wcells y) 24)) (n := w.heap.size + 1) (.cells (wcells 0) 24) (by simp))
  replace HB := Lib.hid (below_al HB.out (.cells (wcells 0) 24))
  have cGd := cell_row Gd.out
  have cGy := cell_row Gy.out
  have cGo := cell_row Go.out
  go_upto_region 1 with fail
  clear cGd cGy cGo
  obtain ⟨w2, hw⟩ : ∃ wx, wx = ((w).alloc (.cells (wcells y) 24)).alloc (.cells (wcells 0) 24) := ⟨_, rfl⟩
  rw [← hw] at Gd Gy Go HB ⊢
  clear hw
  refine wp_region_store [⟨w.heap.size + 1, 24, .tmp 9⟩] (by kernel_rfl) (by kernel_rfl) (by kernel_rfl) rfl (List.pairwise_singleton _ _) ?_ ?_
  · intro r hr
    simp only [List.mem_cons, List.not_mem_nil, or_false] at hr
    subst hr
    exact ⟨_, Go.out, by kernel_rfl⟩
  have xGd := extR_row (B := w2.heap.size) (R := [⟨w.heap.size + 1, 24, .tmp 9⟩]) Gd.out (lt_of_heap Gd.out) (by intro r hr; simp only [List.mem_cons, List.not_mem_nil, or_false] at hr; subst hr <;> dsimp only <;> (have := HDB.out; omega))
  have xGy := extR_row (B := w2.heap.size) (R := [⟨w.heap.size + 1, 24, .tmp 9⟩]) Gy.out (lt_of_heap Gy.out) (by intro r hr; simp only [List.mem_cons, List.not_mem_nil, or_false] at hr; subst hr <;> dsimp only <;> (have := HDB.out; omega))
  repeat (refine wpCalm_step (fun K hK => ?_); go_simp; first | (refine hK _ ?_; clear hK K) | (apply Exists.intro; refine ⟨fun _ => ?_, hK _ ?_⟩; (first | with_reducible exact S1.out _ | with_reducible exact S2.out _ | with_reducible exact S3.out _ | exact S1.out _ | exact S2.out _ | exact S3.out _); clear hK K))
  refine wpCalm_nil ⟨?_, fun x hx => ?_⟩
  · intro r hr
    simp only [List.mem_cons, List.not_mem_nil, or_false] at hr
    subst hr <;> exact fits_wv (by kernel_rfl) _
  replace Go : Hid (x.val.heap[w.heap.size + 1]? = some (.cells (wcells (C)) 24 (0, 0))) := Lib.hid (hx ⟨w.heap.size + 1, 24, .tmp 9⟩ (by simp))
  replace Gd := Lib.hid (extR_block x Gd.out (lt_of_heap Gd.out) (by intro r hr; simp only [List.mem_cons, List.not_mem_nil, or_false] at hr; subst hr <;> dsimp only <;> (have := HDB.out; omega)))
  replace Gy := Lib.hid (extR_block x Gy.out (lt_of_heap Gy.out) (by intro r hr; simp only [List.mem_cons, List.not_mem_nil, or_false] at hr; subst hr <;> dsimp only <;> (have := HDB.out; omega)))
  replace HB := Lib.hid (extR_below x HB.out HB.out.size (by intro r hr; simp only [List.mem_cons, List.not_mem_nil, or_false] at hr; subst hr <;> dsimp only <;> (have := HDB.out; omega)))
  clear hx xGd xGy
  obtain ⟨w3, hw⟩ : ∃ wx, wx = x.val := ⟨_, rfl⟩
  rw [← hw] at Gd Gy Go HB ⊢
  clear hw x
  have cGd := cell_row Gd.out
  have cGy := cell_row Gy.out
  have cGo := cell_row Go.out
  go_wp2
  (try rw [Exit.noGoto_ret])
  (try rw [Exit.noGoto_ret])
  (try rw [Exit.noGoto_ret])
  exact bodyPost_ret (v := wv C) (res_c Tryz.results115 _ _ _ _ _ _ rfl Go.out aggW) rfl ⟨rfl, HB.out⟩
theorem enters_roundN : Enters Tryz.prog 115 := fun args w => by simp [go_sem]
theorem nwG_eq {D k : Nat} (h : NwK D k) (h1 : P2 127 ≤ D) : nwG D (nwY D k) = nwY D (k + 1) := by
  have e1 : clampP 128 = 128 := by decide
  have e2 : clampP 160 = 160 := by decide
  have hl := h.less
  have hs := h.small h1
  have m161 : P2 161 < M := by rw [M_eq]; exact P2_lt (by omega)
  have m323 : P2 (162 + 161) < M := by rw [M_eq]; exact P2_lt (by omega)
  rw [nwY_succ]
  unfold nwG
  rw [e1, e2]
  obtain ⟨A, hA⟩ : ∃ A, A = D * nwY D k / P2 128 := ⟨_, rfl⟩
  rw [← hA] at hl ⊢
  rw [Nat.mod_eq_of_lt (show A < M by omega)]
  have e3 : twoN 160 A = P2 161 - A := by
    unfold twoN
    rw [if_neg (by decide)]
    show subN (P2 161) A = _
    unfold subN
    rw [show P2 161 + M - A = (P2 161 - A) + M by omega, Nat.add_mod_right, Nat.mod_eq_of_lt (by omega)]
  rw [e3]
  apply Nat.mod_eq_of_lt
  have g := Nat.mul_le_mul (Nat.le_of_lt hs) (Nat.sub_le (P2 161) A)
  rw [← P2_add] at g
  exact Nat.lt_of_le_of_lt (Nat.le_trans (Nat.div_le_self _ _) g) m323
theorem itN_nw {D : Nat} (hb : blen D = 128) (h1 : P2 127 ≤ D) (hD : D < P2 128) : ∀ k, itN (nwG D) (nwY D 0) k = nwY D k
  | 0 => rfl
  | k + 1 => by
    show nwG D (itN (nwG D) (nwY D 0) k) = _
    rw [itN_nw hb h1 hD k]
    exact nwG_eq (nw_all hb hD k) h1
end Go.Proofs.YtegmmaaapdgocaaGreat

/- THE WALKS of newton, going on: the first guess; a divisor's reciprocal; the guess for a quotient; an engine made. -/
namespace Go.Proofs.YtegmmaaapdgocaaGreat
open Go Go.RowKit

theorem guessV_le (d : Nat) : guessV d ≤ 131072 := by
  unfold guessV
  split
  · unfold rcpN; exact Nat.div_le_self _ _
  · exact Nat.zero_le _
theorem shlN_w (v c : Nat) (hc : c ≤ 512) (h : v * P2 c < M) (w : World) : Calls Tryz.prog 86 #[wv v, .int .i64 (c : Int)] w fun e w' => e = .returned (wv (v * P2 c)) ∧ Below w.heap.size w w' := by
  have := shl_any v (c : Int) w (by omega) (by omega)
  rw [clampN_at hc, Nat.mod_eq_of_lt h] at this
  exact this
theorem guess_151 (d : Nat) : guessV d * P2 151 < M := by
  have h := Nat.mul_le_mul_right (P2 151) (guessV_le d)
  rw [show (131072 : Nat) = P2 17 by rw [P2_eq], ← P2_add] at h
  have : P2 (17 + 151) < M := by rw [M_eq]; exact P2_lt (by omega)
  omega
attribute [local go_sem ↓] Go.wp_at_zero Go.wp_at_succ
set_option maxRecDepth 100000 in
set_option maxHeartbeats 1000000 in
theorem seedN_w (g D : Nat) (hD : D < M) (w : World) (h : IsRom w g) :
    Calls Tryz.prog 114 #[.agg #[.pointer (some ⟨g, 0, none⟩)], wv D] w fun e w' => e = .returned (wv (nwY D 0)) ∧ VG g w w' := by
  have S1 := Lib.hid (fun w' h => Calls.vOk h (guess_any g D hD w' h))
  have hle := guessV_le D
  have S2 := Lib.hid (fun w' p h => of_one (guessV D) (by omega) w' p h)
  have S3 := Lib.hid (fun w' => shlN_w (guessV D) 151 (by omega) (guess_151 D) w')
  rw [show nwY D 0 = guessV D * P2 151 from rfl]
  obtain ⟨y, hy⟩ : ∃ y, y = guessV D * P2 151 := ⟨_, rfl⟩
  rw [← hy] at S3 ⊢
  obtain ⟨v, hv⟩ : ∃ v, v = guessV D := ⟨_, rfl⟩
  rw [← hv] at S1 S2 S3
  obtain ⟨b, hb⟩ : ∃ v, v = guessB D := ⟨_, rfl⟩
  rw [← hb] at S1
  have VB := Lib.hid (VG.refl h)
  clear hD h hle hy hv hb
  go_enter Tryz.func114, Tryz.ntmps114
  have Gs := Lib.hid (alloc_new (w) (.cells #[.pointer (some ⟨g, 0, none⟩)] 106))
  replace VB := Lib.hid (VB.out.al (.cells #[.pointer (some ⟨g, 0, none⟩)] 106))
  replace Gs := Lib.hid (keepAl (o' := .cells (wcells D) 24) Gs.out)
  have Gd := Lib.hid (alloc_new' (w := (w).alloc (.cells #[.pointer (some ⟨g, 0, none⟩)] 106)) (n := w.heap.size + 1) (.cells (wcells D) 24) (by simp))
  replace VB := Lib.hid (VB.out.al (.cells (wcells D) 24))
  replace Gs := Lib.hid (keepAl (o' := .cells (wcells 0) 24) Gs.out)
  replace Gd := Lib.hid (keepAl (o' := .cells (wcells 0) 24) Gd.out)
  have Go := Lib.hid (alloc_new' (w := ((w).alloc (.cells #[.pointer (some ⟨g, 0, none⟩)] 106)).alloc (.cells (wcells D) 24)) (n := w.heap.size + 1 + 1) (.cells (wcells 0) 24) (by simp))
  replace VB := Lib.hid (VB.out.al (.cells (wcells 0) 24))
  have cGs := cell_row Gs.out
  have cGd := cell_row Gd.out
  have cGo := cell_row Go.out
  go_wp2_with fail
  refine (S1.out _ VB.out.rom).mono ?_
  rintro e w1 ⟨rfl, hv⟩
  clear cGs cGd cGo
  replace Gs := Lib.hid (hv.heap Gs.out (by have := VB.out.lt; (try have := HNE.out); (try have := HZ.out); omega))
  replace Gd := Lib.hid (hv.heap Gd.out (by have := VB.out.lt; (try have := HNE.out); (try have := HZ.out); omega))
  replace Go := Lib.hid (hv.heap Go.out (by have := VB.out.lt; (try have := HNE.out); (try have := HZ.out); omega))
  replace VB := Lib.hid (VB.out.trans hv)
  clear hv
  have HZ := Lib.hid (lt_of_heap Go.out)
  replace Go := Lib.hid (keepAl (o' := .cells #[.int .u64 (v : Int)] 22) Go.out)
  have Gl := Lib.hid (alloc_new (w1) (.cells #[.int .u64 (v : Int)] 22))
  replace VB := Lib.hid (VB.out.al (.cells #[.int .u64 (v : Int)] 22))
  have cGo := cell_row Go.out
  have cGl := cell_row Gl.out
  go_wp2_with fail
  refine (S2.out _ _ Gl.out).mono ?_
  rintro e w2 ⟨rfl, hb⟩
  clear cGo cGl
  replace VB := Lib.hid (VB.out.below hb)
  replace Go := Lib.hid ((hb.block _ (lt_of_heap Go.out)).trans Go.out)
  replace Gl := Lib.hid ((hb.block _ (lt_of_heap Gl.out)).trans Gl.out)
  clear hb
  have cGo := cell_row Go.out
  go_wp2_with fail
  refine (S3.out _).mono ?_
  rintro e w3 ⟨rfl, hb⟩
  clear cGo
  replace VB := Lib.hid (VB.out.below hb)
  replace Go := Lib.hid ((hb.block _ (lt_of_heap Go.out)).trans Go.out)
  clear hb
  have sto := st_row (P := Tryz.prog) Go.out rfl (y)
  replace Go := Lib.hid (setRow_heap (w3) (w.heap.size + 1 + 1) _ (wcells (y)) _ _ Go.out)
  replace VB := Lib.hid (VB.out.row (show _ ≤ w.heap.size + 1 + 1 by (have := HZ.out; omega)) (wcells (y)))
  have cGo := cell_row Go.out
  go_wp2
  exact bodyPost_ret (v := wv y) (res_c Tryz.results114 _ _ _ _ _ _ rfl Go.out aggW) rfl ⟨rfl, VB.out⟩
set_option maxRecDepth 100000 in
set_option maxHeartbeats 1000000 in
theorem recipN_w (e g D k : Nat) (hb : blen D = 128) (h1 : P2 127 ≤ D) (hD : D < P2 128) (hk : k ≤ 10) (w : World) (hE : w.heap[e]? = some (.cells #[.pointer (some ⟨g, 0, none⟩)] 108 (0, 0))) (hI : IsRom w g) (hne : e ≠ g) :
    Calls Tryz.prog 85 #[.pointer (some ⟨e, 0, none⟩), wv D, .int .i64 (k : Int)] w fun x w' => x = .returned (wv (nwY D k)) ∧ VG g w w' := by
  have hDM : D < M := Nat.lt_trans hD (by rw [M_eq]; exact P2_lt (by omega))
  have S1 := Lib.hid (fun w' h => seedN_w g D hDM w' h)
  have S2 : Hid (∀ w' : World, w'.heap[w.heap.size]? = some (.cells (wcells D) 24 (0, 0)) → Calls Tryz.prog 113 #[.int .i64 (k : Int), wv (nwY D 0), .func (.func 115) #[] #[.pointer (some ⟨w.heap.size, 0, none⟩)]] w' fun e w'' => e = .returned (wv (nwY D k)) ∧ Below w'.heap.size w' w'') := Lib.hid fun w' h => by
    have := repeatN_any 115 w.heap.size D k (nwY D 0) (nwG D) w' (by omega) h enters_roundN (guess_151 D) (nwG_lt D) (fun x w'' hx h2 => roundN_any w.heap.size D x w'' hDM hx h2)
    rw [itN_nw hb h1 hD k] at this
    exact this
  obtain ⟨y, hy⟩ : ∃ y, y = nwY D k := ⟨_, rfl⟩
  obtain ⟨a, ha⟩ : ∃ y, y = nwY D 0 := ⟨_, rfl⟩
  rw [← hy, ← ha] at S2
  rw [← ha] at S1
  rw [← hy]
  have VB := Lib.hid (VG.refl hI)
  have Ge := Lib.hid hE
  have HNE := Lib.hid hne
  clear hb h1 hD hk hE hI hne hDM hy ha
  go_enter Tryz.func85, Tryz.ntmps85
  replace Ge := Lib.hid (keepAl (o' := .cells (wcells D) 24) Ge.out)
  have Gd := Lib.hid (alloc_new (w) (.cells (wcells D) 24))
  replace VB := Lib.hid (VB.out.al (.cells (wcells D) 24))
  replace Ge := Lib.hid (keepAl (o' := .cells (wcells 0) 24) Ge.out)
  replace Gd := Lib.hid (keepAl (o' := .cells (wcells 0) 24) Gd.out)
  have Go := Lib.hid (alloc_new' (w := (w).alloc (.cells (wcells D) 24)) (n := w.heap.size + 1) (.cells (wcells 0) 24) (by simp))
  replace VB := Lib.hid (VB.out.al (.cells (wcells 0) 24))
  have cGe := cell_row Ge.out
  have cGd := cell_row Gd.out
  have cGo := cell_row Go.out
  go_upto_region 1 with fail
  clear cGe cGd cGo
  obtain ⟨w4, hw⟩ : ∃ wx, wx = ((w).alloc (.cells (wcells D) 24)).alloc (.cells (wcells 0) 24) := ⟨_, rfl⟩
  rw [← hw] at Ge Gd Go VB ⊢
  clear hw
  have xGe := extg_row (g := g) (B := w4.heap.size) Ge.out (lt_of_heap Ge.out) (by have := VB.out.lt; (try have := HNE.out); (try have := HZ.out); omega)
  have xGd := extg_row (g := g) (B := w4.heap.size) Gd.out (lt_of_heap Gd.out) (by have := VB.out.lt; (try have := HNE.out); (try have := HZ.out); omega)
  have xGo := extg_row (g := g) (B := w4.heap.size) Go.out (lt_of_heap Go.out) (by have := VB.out.lt; (try have := HNE.out); (try have := HZ.out); omega)
  have hnx : Nonempty (ExtG g w4.heap.size w4) := ⟨⟨w4, BelowG.refl VB.out.rom _⟩⟩
  refine wp_region_tailG _ 9 w4.heap.size VB.out.rom (by kernel_rfl) (by kernel_rfl) ?_
  simp only [List.take_succ_cons, List.take_zero, List.drop_succ_cons, List.drop_zero]
  repeat (go_big_quiet_step (first | (go_at_call 114; with_reducible exact Calls.quietG (Nat.le_refl _) (Calls.stepV (S1.out _ (extg_rom _)))) | (go_at_call 113; with_reducible exact Calls.quietG (Nat.le_refl _) (Calls.stepG _ (S2.out _ (extg_block Gd.out (lt_of_heap Gd.out) (by have := VB.out.lt; omega) _))))))
  refine wpQuiet_nil ?_
  intro w5 hv
  clear xGe xGd xGo hnx
  replace Ge := Lib.hid ((hv.block _ (lt_of_heap Ge.out) (by have := VB.out.lt; (try have := HNE.out); (try have := HZ.out); omega)).trans Ge.out)
  replace Gd := Lib.hid ((hv.block _ (lt_of_heap Gd.out) (by have := VB.out.lt; (try have := HNE.out); (try have := HZ.out); omega)).trans Gd.out)
  replace Go := Lib.hid ((hv.block _ (lt_of_heap Go.out) (by have := VB.out.lt; (try have := HNE.out); (try have := HZ.out); omega)).trans Go.out)
  replace VB := Lib.hid (VB.out.trans' hv)
  clear hv
  have HZ := Lib.hid (lt_of_heap Go.out)
  have sto := st_row (P := Tryz.prog) Go.out rfl (y)
  replace Gd := Lib.hid ((setRow_other (w5) (w.heap.size + 1) _ (wcells (y)) (by (omega))).trans Gd.out)
  replace Go := Lib.hid (setRow_heap (w5) (w.heap.size + 1) _ (wcells (y)) _ _ Go.out)
  replace VB := Lib.hid (VB.out.row (show _ ≤ w.heap.size + 1 by (omega)) (wcells (y)))
  have cGd := cell_row Gd.out
  have cGo := cell_row Go.out
  go_wp2
  exact bodyPost_ret (v := wv y) (res_c Tryz.results85 _ _ _ _ _ _ rfl Go.out aggW) rfl ⟨rfl, VB.out⟩
end Go.Proofs.YtegmmaaapdgocaaGreat

/- THE WALKS of newton, going on: the guess for a quotient; why there is none; quotients; an engine made. -/
namespace Go.Proofs.YtegmmaaapdgocaaGreat
open Go Go.RowKit

/-- The guess for a quotient of two that may be divided. -/
def nwq (n d : Nat) : Nat := n * P2 (128 - blen d) * nwY (d * P2 (128 - blen d)) 5 / P2 288
theorem up_len {n d : Nat} (h : mayN n d = 0) : blen (d * P2 (128 - blen d)) = 128 := by
  obtain ⟨h1, h2, _⟩ := shift_range h
  exact blen_eq h2 fun _ => h1
theorem nwq_near {n d : Nat} (h : mayN n d = 0) : nwq n d ≤ n / d + 1 ∧ n / d ≤ nwq n d + 1 := by
  obtain ⟨h1, h2, h3, h4, _⟩ := shift_range h
  have := nw_guess (up_len h) h1 h2 h3
  rw [h4] at this
  exact this
theorem quo_128 {n d : Nat} (h : mayN n d = 0) : n / d < P2 128 := by
  obtain ⟨h1, _, h3⟩ := may_ok h
  exact (Nat.div_lt_iff_lt_mul h1).2 (by rw [Nat.mul_comm]; exact h3)
theorem near_small {g n d : Nat} (h : mayN n d = 0) (hg : g ≤ n / d + 1) : g < P2 200 := by
  have h1 := quo_128 h
  have : P2 128 < P2 200 := P2_lt (by omega)
  omega
theorem near_4 {g q : Nat} (h1 : g ≤ q + 1) (h2 : q ≤ g + 1) : (g - q) + (q - g) ≤ 4 := by omega
theorem may_N {n d : Nat} (h : mayN n d = 0) : n * P2 (128 - blen d) < P2 256 := by
  obtain ⟨h1, h2, h3, _⟩ := shift_range h
  have : d * P2 (128 - blen d) * P2 128 < P2 128 * P2 128 := Nat.mul_lt_mul_of_pos_right h2 (P2_pos _)
  rw [← P2_add] at this
  exact Nat.lt_trans h3 this
theorem times_small (a b c : Nat) (ha : a < M) (hb : b < M) (hc : c ≤ 512) (h : a * b / P2 c < M) (w : World) : Calls Tryz.prog 93 #[wv a, wv b, .int .i64 (c : Int)] w fun e w' => e = .returned (wv (a * b / P2 c)) ∧ Below w.heap.size w w' := by
  have := times_w a b (c : Int) ha hb w
  rw [show clampP (c : Int) = c by unfold clampP; rw [if_neg (by omega), if_neg (by omega)]; exact Int.toNat_natCast c, Nat.mod_eq_of_lt h] at this
  exact this
attribute [local go_sem ↓] Go.wp_at_zero Go.wp_at_succ
set_option maxRecDepth 100000 in
set_option maxHeartbeats 1000000 in
theorem guessN_w (e g n d : Nat) (hm : mayN n d = 0) (w : World) (hE : w.heap[e]? = some (.cells #[.pointer (some ⟨g, 0, none⟩)] 108 (0, 0))) (hI : IsRom w g) (hne : e ≠ g) :
    Calls Tryz.prog 69 #[.pointer (some ⟨e, 0, none⟩), wv n, wv d] w fun x w' => x = .returned (wv (nwq n d)) ∧ VG g w w' := by
  obtain ⟨m1, m2, m3⟩ := may_ok hm
  obtain ⟨h1, h2, h3, h4, _⟩ := shift_range hm
  have h256 : P2 256 < M := by rw [M_eq]; exact P2_lt (by omega)
  have h128 : P2 128 < M := by rw [M_eq]; exact P2_lt (by omega)
  have hN := may_N hm
  have hq := near_small hm (nwq_near hm).1
  have h200 : P2 200 < M := by rw [M_eq]; exact P2_lt (by omega)
  have hy : nwY (d * P2 (128 - blen d)) 5 < M := by
    have := (nw_all (up_len hm) h2 5).small h1
    have h162 : P2 162 < M := by rw [M_eq]; exact P2_lt (by omega)
    omega
  have S1 := Lib.hid (fun w' => normT_yes d (by omega) m2 w')
  have S2 := Lib.hid (fun w' => shlN_w n (128 - blen d) (by omega) (by omega) w')
  have S3 := Lib.hid (fun w' hE hI => recipN_w e g (d * P2 (128 - blen d)) 5 (up_len hm) h1 h2 (by decide) w' hE hI hne)
  have S4 : Hid (∀ w' : World, Calls Tryz.prog 93 #[wv (n * P2 (128 - blen d)), wv (nwY (d * P2 (128 - blen d)) 5), .int .i64 288] w' fun e w'' => e = .returned (wv (nwq n d)) ∧ Below w'.heap.size w' w'') := Lib.hid fun w' => times_small _ _ 288 (by omega) hy (by decide) (show nwq n d < M by omega) w'
  obtain ⟨q, hqe⟩ : ∃ q, q = nwq n d := ⟨_, rfl⟩
  rw [← hqe] at S4 ⊢
  obtain ⟨N, hNe⟩ : ∃ q, q = n * P2 (128 - blen d) := ⟨_, rfl⟩
  rw [← hNe] at S2 S4
  obtain ⟨y, hye⟩ : ∃ q, q = nwY (d * P2 (128 - blen d)) 5 := ⟨_, rfl⟩
  rw [← hye] at S3 S4
  obtain ⟨D, hDe⟩ : ∃ q, q = d * P2 (128 - blen d) := ⟨_, rfl⟩
  rw [← hDe] at S1 S3
  obtain ⟨b, hbe⟩ : ∃ q, q = 128 - blen d := ⟨_, rfl⟩
  rw [← hbe] at S1 S2
  have VB := Lib.hid (VG.refl hI)
  have Ge := Lib.hid hE
  have HNE := Lib.hid hne
  clear hm hE hI hne m1 m2 m3 h1 h2 h3 h4 h256 h128 hN hq h200 hy hqe hNe hye hDe hbe
  go_enter Tryz.func69, Tryz.ntmps69
  replace Ge := Lib.hid (keepAl (o' := .cells (wcells n) 24) Ge.out)
  have Gn := Lib.hid (alloc_new (w) (.cells (wcells n) 24))
  replace VB := Lib.hid (VB.out.al (.cells (wcells n) 24))
  replace Ge := Lib.hid (keepAl (o' := .cells (wcells d) 24) Ge.out)
  replace Gn := Lib.hid (keepAl (o' := .cells (wcells d) 24) Gn.out)
  have Gd := Lib.hid (alloc_new' (w := (w).alloc (.cells (wcells n) 24)) (n := w.heap.size + 1) (.cells (wcells d) 24) (by simp))
  replace VB := Lib.hid (VB.out.al (.cells (wcells d) 24))
  replace Ge := Lib.hid (keepAl (o' := .cells (wcells 0) 24) Ge.out)
  replace Gn := Lib.hid (keepAl (o' := .cells (wcells 0) 24) Gn.out)
  replace Gd := Lib.hid (keepAl (o' := .cells (wcells 0) 24) Gd.out)
  have Go := Lib.hid (alloc_new' (w := ((w).alloc (.cells (wcells n) 24)).alloc (.cells (wcells d) 24)) (n := w.heap.size + 1 + 1) (.cells (wcells 0) 24) (by simp))
  replace VB := Lib.hid (VB.out.al (.cells (wcells 0) 24))
  have cGe := cell_row Ge.out
  have cGn := cell_row Gn.out
  have cGd := cell_row Gd.out
  have cGo := cell_row Go.out
  go_wp2_with fail
  refine (S1.out _).mono ?_
  rintro e w1 ⟨rfl, hb⟩
  clear cGe cGn cGd cGo
  replace VB := Lib.hid (VB.out.below hb)
  replace Ge := Lib.hid ((hb.block _ (lt_of_heap Ge.out)).trans Ge.out)
  replace Gn := Lib.hid ((hb.block _ (lt_of_heap Gn.out)).trans Gn.out)
  replace Gd := Lib.hid ((hb.block _ (lt_of_heap Gd.out)).trans Gd.out)
  replace Go := Lib.hid ((hb.block _ (lt_of_heap Go.out)).trans Go.out)
  clear hb
  have HZ := Lib.hid (lt_of_heap Go.out)
  replace Ge := Lib.hid (keepAl (o' := .cells (wcells D) 24) Ge.out)
  replace Gn := Lib.hid (keepAl (o' := .cells (wcells D) 24) Gn.out)
  replace Gd := Lib.hid (keepAl (o' := .cells (wcells D) 24) Gd.out)
  replace Go := Lib.hid (keepAl (o' := .cells (wcells D) 24) Go.out)
  have Gu := Lib.hid (alloc_new (w1) (.cells (wcells D) 24))
  replace VB := Lib.hid (VB.out.al (.cells (wcells D) 24))
  have cGe := cell_row Ge.out
  have cGn := cell_row Gn.out
  have cGd := cell_row Gd.out
  have cGo := cell_row Go.out
  have cGu := cell_row Gu.out
  go_upto_region 2 with fail
  clear cGe cGn cGd cGo cGu
  obtain ⟨w2, hw⟩ : ∃ wx, wx = (w1).alloc (.cells (wcells D) 24) := ⟨_, rfl⟩
  rw [← hw] at Ge Gn Gd Go Gu VB ⊢
  clear hw
  have xGe := extg_row (g := g) (B := w2.heap.size) Ge.out (lt_of_heap Ge.out) (by have := VB.out.lt; (try have := HNE.out); (try have := HZ.out); omega)
  have xGn := extg_row (g := g) (B := w2.heap.size) Gn.out (lt_of_heap Gn.out) (by have := VB.out.lt; (try have := HNE.out); (try have := HZ.out); omega)
  have xGd := extg_row (g := g) (B := w2.heap.size) Gd.out (lt_of_heap Gd.out) (by have := VB.out.lt; (try have := HNE.out); (try have := HZ.out); omega)
  have xGo := extg_row (g := g) (B := w2.heap.size) Go.out (lt_of_heap Go.out) (by have := VB.out.lt; (try have := HNE.out); (try have := HZ.out); omega)
  have xGu := extg_row (g := g) (B := w2.heap.size) Gu.out (lt_of_heap Gu.out) (by have := VB.out.lt; (try have := HNE.out); (try have := HZ.out); omega)
  have hnx : Nonempty (ExtG g w2.heap.size w2) := ⟨⟨w2, BelowG.refl VB.out.rom _⟩⟩
  refine wp_region_tailG _ 7 w2.heap.size VB.out.rom (by kernel_rfl) (by kernel_rfl) ?_
  simp only [List.take_succ_cons, List.take_zero, List.drop_succ_cons, List.drop_zero]
  repeat (go_big_quiet_step (first | (go_at_call 86; with_reducible exact Calls.quietG (Nat.le_refl _) (Calls.stepG _ (S2.out _))) | (go_at_call 85; with_reducible exact Calls.quietG (Nat.le_refl _) (Calls.stepV (S3.out _ (extg_block Ge.out (lt_of_heap Ge.out) HNE.out _) (extg_rom _)))) | (go_at_call 93; with_reducible exact Calls.quietG (Nat.le_refl _) (Calls.stepG _ (S4.out _)))))
  refine wpQuiet_nil ?_
  intro w3 hv
  clear xGe xGn xGd xGo xGu hnx
  replace Ge := Lib.hid ((hv.block _ (lt_of_heap Ge.out) (by have := VB.out.lt; (try have := HNE.out); (try have := HZ.out); omega)).trans Ge.out)
  replace Gn := Lib.hid ((hv.block _ (lt_of_heap Gn.out) (by have := VB.out.lt; (try have := HNE.out); (try have := HZ.out); omega)).trans Gn.out)
  replace Gd := Lib.hid ((hv.block _ (lt_of_heap Gd.out) (by have := VB.out.lt; (try have := HNE.out); (try have := HZ.out); omega)).trans Gd.out)
  replace Go := Lib.hid ((hv.block _ (lt_of_heap Go.out) (by have := VB.out.lt; (try have := HNE.out); (try have := HZ.out); omega)).trans Go.out)
  replace Gu := Lib.hid ((hv.block _ (lt_of_heap Gu.out) (by have := VB.out.lt; (try have := HNE.out); (try have := HZ.out); omega)).trans Gu.out)
  replace VB := Lib.hid (VB.out.trans' hv)
  clear hv
  have sto := st_row (P := Tryz.prog) Go.out rfl (q)
  replace Go := Lib.hid (setRow_heap (w3) (w.heap.size + 1 + 1) _ (wcells (q)) _ _ Go.out)
  replace VB := Lib.hid (VB.out.row (show _ ≤ w.heap.size + 1 + 1 by (omega)) (wcells (q)))
  have cGo := cell_row Go.out
  go_wp2
  exact bodyPost_ret (v := wv q) (res_c Tryz.results69 _ _ _ _ _ _ rfl Go.out aggW) rfl ⟨rfl, VB.out⟩

theorem mayE_w (e n d : Nat) (hn : n < M) (hd : d < M) (w : World) : Calls Tryz.prog 67 #[.pointer (some ⟨e, 0, none⟩), wv n, wv d] w fun x w' => x = .returned (.int .i64 (mayN n d)) ∧ Below w.heap.size w w' := by
  have S1 := Lib.hid (fun w' => may_w n d hn hd w')
  obtain ⟨E, hE⟩ : ∃ q, q = mayN n d := ⟨_, rfl⟩
  rw [← hE] at S1 ⊢
  clear hn hd hE
  go_enter Tryz.func67, Tryz.ntmps67
  have HB := Lib.hid (Below.refl w.heap.size w)
  have Gn := Lib.hid (alloc_new (w) (.cells (wcells n) 24))
  replace HB := Lib.hid (below_al HB.out (.cells (wcells n) 24))
  replace Gn := Lib.hid (keepAl (o' := .cells (wcells d) 24) Gn.out)
  have Gd := Lib.hid (alloc_new' (w := (w).alloc (.cells (wcells n) 24)) (n := w.heap.size + 1) (.cells (wcells d) 24) (by simp))
  replace HB := Lib.hid (below_al HB.out (.cells (wcells d) 24))
  have cGn := cell_row Gn.out
  have cGd := cell_row Gd.out
  go_wp2_with fail
  refine (S1.out _).mono ?_
  rintro e w4 ⟨rfl, hb⟩
  clear cGn cGd
  replace HB := Lib.hid (below_then HB.out hb)
  replace Gn := Lib.hid ((hb.block _ (lt_of_heap Gn.out)).trans Gn.out)
  replace Gd := Lib.hid ((hb.block _ (lt_of_heap Gd.out)).trans Gd.out)
  clear hb
  have cGn := cell_row Gn.out
  have cGd := cell_row Gd.out
  go_wp2
  go_ret
  exact ⟨rfl, HB.out⟩
theorem mayE_nil (n d : Nat) (w : World) : Calls Tryz.prog 67 #[.pointer none, wv n, wv d] w fun x w' => x = .returned (.int .i64 6) ∧ Below w.heap.size w w' := by
  go_enter Tryz.func67, Tryz.ntmps67
  have HB := Lib.hid (Below.refl w.heap.size w)
  have Gn := Lib.hid (alloc_new (w) (.cells (wcells n) 24))
  replace HB := Lib.hid (below_al HB.out (.cells (wcells n) 24))
  replace Gn := Lib.hid (keepAl (o' := .cells (wcells d) 24) Gn.out)
  have Gd := Lib.hid (alloc_new' (w := (w).alloc (.cells (wcells n) 24)) (n := w.heap.size + 1) (.cells (wcells d) 24) (by simp))
  replace HB := Lib.hid (below_al HB.out (.cells (wcells d) 24))
  have cGn := cell_row Gn.out
  have cGd := cell_row Gd.out
  go_wp2
  go_ret
  exact ⟨rfl, HB.out⟩
set_option maxRecDepth 100000 in
set_option maxHeartbeats 1000000 in
theorem guessE_no (ep : Value) (n d : Nat) (E : Int) (hE : E ≠ 0) (hM : ∀ w', Calls Tryz.prog 67 #[ep, wv n, wv d] w' fun x w'' => x = .returned (.int .i64 E) ∧ Below w'.heap.size w' w'') (w : World) :
    Calls Tryz.prog 44 #[ep, wv n, wv d] w fun x w' => x = .returned (.tuple #[wv 0, .int .i64 E]) ∧ Below w.heap.size w w' := by
  have S1 := Lib.hid hM
  have hb : (E != 0) = true := by simp [hE]
  clear hM hE
  go_enter Tryz.func44, Tryz.ntmps44
  have HB := Lib.hid (Below.refl w.heap.size w)
  have Gn := Lib.hid (alloc_new (w) (.cells (wcells n) 24))
  replace HB := Lib.hid (below_al HB.out (.cells (wcells n) 24))
  replace Gn := Lib.hid (keepAl (o' := .cells (wcells d) 24) Gn.out)
  have Gd := Lib.hid (alloc_new' (w := (w).alloc (.cells (wcells n) 24)) (n := w.heap.size + 1) (.cells (wcells d) 24) (by simp))
  replace HB := Lib.hid (below_al HB.out (.cells (wcells d) 24))
  replace Gn := Lib.hid (keepAl (o' := .cells (wcells 0) 24) Gn.out)
  replace Gd := Lib.hid (keepAl (o' := .cells (wcells 0) 24) Gd.out)
  have Go := Lib.hid (alloc_new' (w := ((w).alloc (.cells (wcells n) 24)).alloc (.cells (wcells d) 24)) (n := w.heap.size + 1 + 1) (.cells (wcells 0) 24) (by simp))
  replace HB := Lib.hid (below_al HB.out (.cells (wcells 0) 24))
  have cGn := cell_row Gn.out
  have cGd := cell_row Gd.out
  have cGo := cell_row Go.out
  go_wp2_with fail
  refine (S1.out _).mono ?_
  rintro e w5 ⟨rfl, hb⟩
  clear cGn cGd cGo
  replace HB := Lib.hid (below_then HB.out hb)
  replace Gn := Lib.hid ((hb.block _ (lt_of_heap Gn.out)).trans Gn.out)
  replace Gd := Lib.hid ((hb.block _ (lt_of_heap Gd.out)).trans Gd.out)
  replace Go := Lib.hid ((hb.block _ (lt_of_heap Go.out)).trans Go.out)
  clear hb
  have sto := st_row (P := Tryz.prog) Go.out rfl (0)
  replace Gn := Lib.hid ((setRow_other (w5) (w.heap.size + 1 + 1) _ (wcells (0)) (by (omega))).trans Gn.out)
  replace Gd := Lib.hid ((setRow_other (w5) (w.heap.size + 1 + 1) _ (wcells (0)) (by (omega))).trans Gd.out)
  replace Go := Lib.hid (setRow_heap (w5) (w.heap.size + 1 + 1) _ (wcells (0)) _ _ Go.out)
  replace HB := Lib.hid (below_setRow' HB.out (show _ ≤ w.heap.size + 1 + 1 by (omega)) (wcells (0)))
  have cGn := cell_row Gn.out
  have cGd := cell_row Gd.out
  have cGo := cell_row Go.out
  go_wp2
  exact bodyPost_ret (v := .tuple #[wv 0, .int .i64 E]) (res_ct Tryz.results44 _ _ _ _ _ _ _ rfl rfl Go.out aggW) rfl ⟨rfl, HB.out⟩
set_option maxRecDepth 100000 in
set_option maxHeartbeats 1000000 in
theorem guessE_yes (e g n d : Nat) (hm : mayN n d = 0) (hn : n < M) (hd : d < M) (w : World) (hE : w.heap[e]? = some (.cells #[.pointer (some ⟨g, 0, none⟩)] 108 (0, 0))) (hI : IsRom w g) (hne : e ≠ g) :
    Calls Tryz.prog 44 #[.pointer (some ⟨e, 0, none⟩), wv n, wv d] w fun x w' => x = .returned (.tuple #[wv (nwq n d), .int .i64 0]) ∧ VG g w w' := by
  have S1 := Lib.hid (fun w' => mayE_w e n d hn hd w')
  have S2 := Lib.hid (fun w' hE hI => guessN_w e g n d hm w' hE hI hne)
  rw [hm] at S1
  obtain ⟨q, hqe⟩ : ∃ q, q = nwq n d := ⟨_, rfl⟩
  rw [← hqe] at S2 ⊢
  have VB := Lib.hid (VG.refl hI)
  have Ge := Lib.hid hE
  have HNE := Lib.hid hne
  clear hm hn hd hE hI hne hqe
  go_enter Tryz.func44, Tryz.ntmps44
  replace Ge := Lib.hid (keepAl (o' := .cells (wcells n) 24) Ge.out)
  have Gn := Lib.hid (alloc_new (w) (.cells (wcells n) 24))
  replace VB := Lib.hid (VB.out.al (.cells (wcells n) 24))
  replace Ge := Lib.hid (keepAl (o' := .cells (wcells d) 24) Ge.out)
  replace Gn := Lib.hid (keepAl (o' := .cells (wcells d) 24) Gn.out)
  have Gd := Lib.hid (alloc_new' (w := (w).alloc (.cells (wcells n) 24)) (n := w.heap.size + 1) (.cells (wcells d) 24) (by simp))
  replace VB := Lib.hid (VB.out.al (.cells (wcells d) 24))
  replace Ge := Lib.hid (keepAl (o' := .cells (wcells 0) 24) Ge.out)
  replace Gn := Lib.hid (keepAl (o' := .cells (wcells 0) 24) Gn.out)
  replace Gd := Lib.hid (keepAl (o' := .cells (wcells 0) 24) Gd.out)
  have Go := Lib.hid (alloc_new' (w := ((w).alloc (.cells (wcells n) 24)).alloc (.cells (wcells d) 24)) (n := w.heap.size + 1 + 1) (.cells (wcells 0) 24) (by simp))
  replace VB := Lib.hid (VB.out.al (.cells (wcells 0) 24))
  have cGe := cell_row Ge.out
  have cGn := cell_row Gn.out
  have cGd := cell_row Gd.out
  have cGo := cell_row Go.out
  go_wp2_with fail
  refine (S1.out _).mono ?_
  rintro e w6 ⟨rfl, hb⟩
  clear cGe cGn cGd cGo
  replace VB := Lib.hid (VB.out.below hb)
  replace Ge := Lib.hid ((hb.block _ (lt_of_heap Ge.out)).trans Ge.out)
  replace Gn := Lib.hid ((hb.block _ (lt_of_heap Gn.out)).trans Gn.out)
  replace Gd := Lib.hid ((hb.block _ (lt_of_heap Gd.out)).trans Gd.out)
  replace Go := Lib.hid ((hb.block _ (lt_of_heap Go.out)).trans Go.out)
  clear hb
  have cGe := cell_row Ge.out
  have cGn := cell_row Gn.out
  have cGd := cell_row Gd.out
  have cGo := cell_row Go.out
  go_wp2_with fail
  refine (S2.out _ Ge.out VB.out.rom).mono ?_
  rintro e w7 ⟨rfl, hv⟩
  clear cGe cGn cGd cGo
  replace Ge := Lib.hid (hv.heap Ge.out (by have := VB.out.lt; (try have := HNE.out); (try have := HZ.out); omega))
  replace Gn := Lib.hid (hv.heap Gn.out (by have := VB.out.lt; (try have := HNE.out); (try have := HZ.out); omega))
  replace Gd := Lib.hid (hv.heap Gd.out (by have := VB.out.lt; (try have := HNE.out); (try have := HZ.out); omega))
  replace Go := Lib.hid (hv.heap Go.out (by have := VB.out.lt; (try have := HNE.out); (try have := HZ.out); omega))
  replace VB := Lib.hid (VB.out.trans hv)
  clear hv
  have sto := st_row (P := Tryz.prog) Go.out rfl (q)
  replace Go := Lib.hid (setRow_heap (w7) (w.heap.size + 1 + 1) _ (wcells (q)) _ _ Go.out)
  replace VB := Lib.hid (VB.out.row (show _ ≤ w.heap.size + 1 + 1 by (omega)) (wcells (q)))
  have cGo := cell_row Go.out
  go_wp2
  exact bodyPost_ret (v := .tuple #[wv q, .int .i64 0]) (res_ct Tryz.results44 _ _ _ _ _ _ _ rfl rfl Go.out aggW) rfl ⟨rfl, VB.out⟩
set_option maxRecDepth 100000 in
set_option maxHeartbeats 1000000 in
theorem divE_no (ep : Value) (n d : Nat) (E : Int) (hE : E ≠ 0) (hM : ∀ w', Calls Tryz.prog 67 #[ep, wv n, wv d] w' fun x w'' => x = .returned (.int .i64 E) ∧ Below w'.heap.size w' w'') (w : World) :
    Calls Tryz.prog 21 #[ep, wv n, wv d] w fun x w' => x = .returned (.tuple #[wv 0, wv 0, .int .i64 E]) ∧ Below w.heap.size w w' := by
  have S1 := Lib.hid hM
  have hb : (E != 0) = true := by simp [hE]
  clear hM hE
  go_enter Tryz.func21, Tryz.ntmps21
  have HB := Lib.hid (Below.refl w.heap.size w)
  have Gn := Lib.hid (alloc_new (w) (.cells (wcells n) 24))
  replace HB := Lib.hid (below_al HB.out (.cells (wcells n) 24))
  replace Gn := Lib.hid (keepAl (o' := .cells (wcells d) 24) Gn.out)
  have Gd := Lib.hid (alloc_new' (w := (w).alloc (.cells (wcells n) 24)) (n := w.heap.size + 1) (.cells (wcells d) 24) (by simp))
  replace HB := Lib.hid (below_al HB.out (.cells (wcells d) 24))
  replace Gn := Lib.hid (keepAl (o' := .cells (wcells 0) 24) Gn.out)
  replace Gd := Lib.hid (keepAl (o' := .cells (wcells 0) 24) Gd.out)
  have Gx := Lib.hid (alloc_new' (w := ((w).alloc (.cells (wcells n) 24)).alloc (.cells (wcells d) 24)) (n := w.heap.size + 1 + 1) (.cells (wcells 0) 24) (by simp))
  replace HB := Lib.hid (below_al HB.out (.cells (wcells 0) 24))
  replace Gn := Lib.hid (keepAl (o' := .cells (wcells 0) 24) Gn.out)
  replace Gd := Lib.hid (keepAl (o' := .cells (wcells 0) 24) Gd.out)
  replace Gx := Lib.hid (keepAl (o' := .cells (wcells 0) 24) Gx.out)
  have Gy := Lib.hid (alloc_new' (w := (((w).alloc (.cells (wcells n) 24)).alloc (.cells (wcells d) 24)).alloc (.cells (wcells 0) 24)) (n := w.heap.size + 1 + 1 + 1) (.cells (wcells 0) 24) (by simp))
  replace HB := Lib.hid (below_al HB.out (.cells (wcells 0) 24))
  have cGn := cell_row Gn.out
  have cGd := cell_row Gd.out
  have cGx := cell_row Gx.out
  have cGy := cell_row Gy.out
  go_wp2_with fail
  refine (S1.out _).mono ?_
  rintro e w8 ⟨rfl, hb⟩
  clear cGn cGd cGx cGy
  replace HB := Lib.hid (below_then HB.out hb)
  replace Gn := Lib.hid ((hb.block _ (lt_of_heap Gn.out)).trans Gn.out)
  replace Gd := Lib.hid ((hb.block _ (lt_of_heap Gd.out)).trans Gd.out)
  replace Gx := Lib.hid ((hb.block _ (lt_of_heap Gx.out)).trans Gx.out)
  replace Gy := Lib.hid ((hb.block _ (lt_of_heap Gy.out)).trans Gy.out)
  clear hb
  have stx := st_row (P := Tryz.prog) Gx.out rfl (0)
  replace Gn := Lib.hid ((setRow_other (w8) (w.heap.size + 1 + 1) _ (wcells (0)) (by (omega))).trans Gn.out)
  replace Gd := Lib.hid ((setRow_other (w8) (w.heap.size + 1 + 1) _ (wcells (0)) (by (omega))).trans Gd.out)
  replace Gy := Lib.hid ((setRow_other (w8) (w.heap.size + 1 + 1) _ (wcells (0)) (by (omega))).trans Gy.out)
  replace Gx := Lib.hid (setRow_heap (w8) (w.heap.size + 1 + 1) _ (wcells (0)) _ _ Gx.out)
  replace HB := Lib.hid (below_setRow' HB.out (show _ ≤ w.heap.size + 1 + 1 by (omega)) (wcells (0)))
  have q1 := stx
  clear stx
  have sty := st_row (P := Tryz.prog) Gy.out rfl (0)
  replace Gn := Lib.hid ((setRow_other ((w8).setRow (w.heap.size + 1 + 1) (wcells (0))) (w.heap.size + 1 + 1 + 1) _ (wcells (0)) (by (omega))).trans Gn.out)
  replace Gd := Lib.hid ((setRow_other ((w8).setRow (w.heap.size + 1 + 1) (wcells (0))) (w.heap.size + 1 + 1 + 1) _ (wcells (0)) (by (omega))).trans Gd.out)
  replace Gx := Lib.hid ((setRow_other ((w8).setRow (w.heap.size + 1 + 1) (wcells (0))) (w.heap.size + 1 + 1 + 1) _ (wcells (0)) (by (omega))).trans Gx.out)
  replace Gy := Lib.hid (setRow_heap ((w8).setRow (w.heap.size + 1 + 1) (wcells (0))) (w.heap.size + 1 + 1 + 1) _ (wcells (0)) _ _ Gy.out)
  replace HB := Lib.hid (below_setRow' HB.out (show _ ≤ w.heap.size + 1 + 1 + 1 by (omega)) (wcells (0)))
  have cGn := cell_row Gn.out
  have cGd := cell_row Gd.out
  have cGx := cell_row Gx.out
  have cGy := cell_row Gy.out
  go_wp2
  exact bodyPost_ret (v := .tuple #[wv 0, wv 0, .int .i64 E]) (res_cct Tryz.results21 _ _ _ _ _ _ _ _ _ _ _ rfl rfl rfl Gx.out Gy.out aggW aggW) rfl ⟨rfl, HB.out⟩
set_option maxRecDepth 100000 in
set_option maxHeartbeats 2000000 in
theorem divE_yes (e g n d : Nat) (hm : mayN n d = 0) (hn : n < M) (hd : d < M) (w : World) (hE : w.heap[e]? = some (.cells #[.pointer (some ⟨g, 0, none⟩)] 108 (0, 0))) (hI : IsRom w g) (hne : e ≠ g) :
    Calls Tryz.prog 21 #[.pointer (some ⟨e, 0, none⟩), wv n, wv d] w fun x w' => x = .returned (.tuple #[wv (n / d), wv (n % d), .int .i64 0]) ∧ VG g w w' := by
  have S1 := Lib.hid (fun w' => mayE_w e n d hn hd w')
  have S2 := Lib.hid (fun w' hE hI => guessN_w e g n d hm w' hE hI hne)
  obtain ⟨n1, n2⟩ := nwq_near hm
  have S3 := Lib.hid (fun w' => quotient_yes n d (nwq n d) 4 hn hd hm (near_small hm n1) (by decide) (near_4 n1 n2) w')
  rw [hm] at S1
  obtain ⟨D, hDe⟩ : ∃ q : Nat, q = (nwq n d - n / d) + (n / d - nwq n d) := ⟨_, rfl⟩
  rw [← hDe] at S3
  obtain ⟨G, hGe⟩ : ∃ q, q = nwq n d := ⟨_, rfl⟩
  rw [← hGe] at S2 S3
  obtain ⟨Q, hQe⟩ : ∃ q, q = n / d := ⟨_, rfl⟩
  obtain ⟨R, hRe⟩ : ∃ q, q = n % d := ⟨_, rfl⟩
  rw [← hQe, ← hRe] at S3 ⊢
  have VB := Lib.hid (VG.refl hI)
  have Ge := Lib.hid hE
  have HNE := Lib.hid hne
  clear hm hn hd hE hI hne n1 n2 hDe hGe hQe hRe
  go_enter Tryz.func21, Tryz.ntmps21
  replace Ge := Lib.hid (keepAl (o' := .cells (wcells n) 24) Ge.out)
  have Gn := Lib.hid (alloc_new (w) (.cells (wcells n) 24))
  replace VB := Lib.hid (VB.out.al (.cells (wcells n) 24))
  replace Ge := Lib.hid (keepAl (o' := .cells (wcells d) 24) Ge.out)
  replace Gn := Lib.hid (keepAl (o' := .cells (wcells d) 24) Gn.out)
  have Gd := Lib.hid (alloc_new' (w := (w).alloc (.cells (wcells n) 24)) (n := w.heap.size + 1) (.cells (wcells d) 24) (by simp))
  replace VB := Lib.hid (VB.out.al (.cells (wcells d) 24))
  replace Ge := Lib.hid (keepAl (o' := .cells (wcells 0) 24) Ge.out)
  replace Gn := Lib.hid (keepAl (o' := .cells (wcells 0) 24) Gn.out)
  replace Gd := Lib.hid (keepAl (o' := .cells (wcells 0) 24) Gd.out)
  have Gx := Lib.hid (alloc_new' (w := ((w).alloc (.cells (wcells n) 24)).alloc (.cells (wcells d) 24)) (n := w.heap.size + 1 + 1) (.cells (wcells 0) 24) (by simp))
  replace VB := Lib.hid (VB.out.al (.cells (wcells 0) 24))
  replace Ge := Lib.hid (keepAl (o' := .cells (wcells 0) 24) Ge.out)
  replace Gn := Lib.hid (keepAl (o' := .cells (wcells 0) 24) Gn.out)
  replace Gd := Lib.hid (keepAl (o' := .cells (wcells 0) 24) Gd.out)
  replace Gx := Lib.hid (keepAl (o' := .cells (wcells 0) 24) Gx.out)
  have Gy := Lib.hid (alloc_new' (w := (((w).alloc (.cells (wcells n) 24)).alloc (.cells (wcells d) 24)).alloc (.cells (wcells 0) 24)) (n := w.heap.size + 1 + 1 + 1) (.cells (wcells 0) 24) (by simp))
  replace VB := Lib.hid (VB.out.al (.cells (wcells 0) 24))
  have cGe := cell_row Ge.out
  have cGn := cell_row Gn.out
  have cGd := cell_row Gd.out
  have cGx := cell_row Gx.out
  have cGy := cell_row Gy.out
  go_wp2_with fail
  refine (S1.out _).mono ?_
  rintro e w9 ⟨rfl, hb⟩
  clear cGe cGn cGd cGx cGy
  replace VB := Lib.hid (VB.out.below hb)
  replace Ge := Lib.hid ((hb.block _ (lt_of_heap Ge.out)).trans Ge.out)
  replace Gn := Lib.hid ((hb.block _ (lt_of_heap Gn.out)).trans Gn.out)
  replace Gd := Lib.hid ((hb.block _ (lt_of_heap Gd.out)).trans Gd.out)
  replace Gx := Lib.hid ((hb.block _ (lt_of_heap Gx.out)).trans Gx.out)
  replace Gy := Lib.hid ((hb.block _ (lt_of_heap Gy.out)).trans Gy.out)
  clear hb
  have cGe := cell_row Ge.out
  have cGn := cell_row Gn.out
  have cGd := cell_row Gd.out
  have cGx := cell_row Gx.out
  have cGy := cell_row Gy.out
  go_upto_region 4 with fail
  clear cGe cGn cGd cGx cGy
  have HZ := Lib.hid (lt_of_heap Gy.out)
  have xGe := extg_row (g := g) (B := w9.heap.size) Ge.out (lt_of_heap Ge.out) (by have := VB.out.lt; (try have := HNE.out); (try have := HZ.out); omega)
  have xGn := extg_row (g := g) (B := w9.heap.size) Gn.out (lt_of_heap Gn.out) (by have := VB.out.lt; (try have := HNE.out); (try have := HZ.out); omega)
  have xGd := extg_row (g := g) (B := w9.heap.size) Gd.out (lt_of_heap Gd.out) (by have := VB.out.lt; (try have := HNE.out); (try have := HZ.out); omega)
  have xGx := extg_row (g := g) (B := w9.heap.size) Gx.out (lt_of_heap Gx.out) (by have := VB.out.lt; (try have := HNE.out); (try have := HZ.out); omega)
  have xGy := extg_row (g := g) (B := w9.heap.size) Gy.out (lt_of_heap Gy.out) (by have := VB.out.lt; (try have := HNE.out); (try have := HZ.out); omega)
  have hnx : Nonempty (ExtG g w9.heap.size w9) := ⟨⟨w9, BelowG.refl VB.out.rom _⟩⟩
  apply wp_region_looseG VB.out.rom (looseRV [_, _, _, _, _, _, _, _, _, _, _, _, undef, undef, undef, undef, _, _]) (pureL [2, 7, 8, 9, 10, 11, 16, 17])
  · kernel_rfl
  · kernel_rfl
  · kernel_rfl
  · exact allocs_ok [24, 24] rfl (by intro T hT; simp only [List.mem_cons, List.not_mem_nil, or_false, or_self] at hT; subst hT; exact makes_wide)
  · exact looseRV_st _ _
  · change wpLG _ _ _ _ _ _ _ _ 18 0 _ _
    refine wpL_calmG w9 rfl rfl rfl rfl (fun K hK K0 hK0 => ?_)
    go_simp
    first | refine hK _ _ rfl rfl ?_ | refine hK0 _ rfl ?_
    clear hK hK0 K K0
    refine wpL_calmG w9 rfl rfl rfl rfl (fun K hK K0 hK0 => ?_)
    go_simp
    first | refine hK _ _ rfl rfl ?_ | refine hK0 _ rfl ?_
    clear hK hK0 K K0
    refine wpL_pureG w9 rfl rfl rfl rfl (fun K hK K0 hK0 => ?_)
    go_simp
    first | refine hK _ _ rfl rfl ?_ | refine hK0 _ rfl ?_
    clear hK hK0 K K0
    refine wpL_calmG w9 rfl rfl rfl rfl (fun K hK K0 hK0 => ?_)
    go_simp
    first | refine hK _ _ rfl rfl ?_ | refine hK0 _ rfl ?_
    clear hK hK0 K K0
    refine wpL_calmG w9 rfl rfl rfl rfl (fun K hK K0 hK0 => ?_)
    go_simp
    first | refine hK _ _ rfl rfl ?_ | refine hK0 _ rfl ?_
    clear hK hK0 K K0
    refine wpL_calmG w9 rfl rfl rfl rfl (fun K hK K0 hK0 => ?_)
    go_simp
    apply Exists.intro
    apply And.intro
    · intro x
      go_at_call 69
      with_reducible exact Calls.stepV (S2.out _ (extg_block Ge.out (lt_of_heap Ge.out) HNE.out _) (extg_rom _))
    refine hK _ _ rfl rfl ?_
    clear hK hK0 K K0
    refine wpL_calmG w9 rfl rfl rfl rfl (fun K hK K0 hK0 => ?_)
    go_simp
    apply Exists.intro
    apply And.intro
    · intro x
      go_at_call 68
      with_reducible exact Calls.stepG _ (S3.out _)
    refine hK _ _ rfl rfl ?_
    clear hK hK0 K K0
    refine wpL_pureG w9 rfl rfl rfl rfl (fun K hK K0 hK0 => ?_)
    go_simp
    first | refine hK _ _ rfl rfl ?_ | refine hK0 _ rfl ?_
    clear hK hK0 K K0
    refine wpL_pureG w9 rfl rfl rfl rfl (fun K hK K0 hK0 => ?_)
    go_simp
    first | refine hK _ _ rfl rfl ?_ | refine hK0 _ rfl ?_
    clear hK hK0 K K0
    refine wpL_pureG w9 rfl rfl rfl rfl (fun K hK K0 hK0 => ?_)
    go_simp
    first | refine hK _ _ rfl rfl ?_ | refine hK0 _ rfl ?_
    clear hK hK0 K K0
    refine wpL_pureG w9 rfl rfl rfl rfl (fun K hK K0 hK0 => ?_)
    go_simp
    first | refine hK _ _ rfl rfl ?_ | refine hK0 _ rfl ?_
    clear hK hK0 K K0
    refine wpL_pureG w9 rfl rfl rfl rfl (fun K hK K0 hK0 => ?_)
    go_simp
    first | refine hK _ _ rfl rfl ?_ | refine hK0 _ rfl ?_
    clear hK hK0 K K0
    refine wpL_allocG rfl rfl rfl rfl (fun g12 hg12 => ?_)
    refine wpL_allocG rfl rfl rfl rfl (fun g13 hg13 => ?_)
    refine wpL_storeG rfl rfl ?_
    refine wpL_storeG rfl rfl ?_
    refine wpL_pureG w9 rfl rfl rfl rfl (fun K hK K0 hK0 => ?_)
    go_simp
    first | refine hK _ _ rfl rfl ?_ | refine hK0 _ rfl ?_
    clear hK hK0 K K0
    refine wpL_pureG w9 rfl rfl rfl rfl (fun K hK K0 hK0 => ?_)
    go_simp
    first | refine hK _ _ rfl rfl ?_ | refine hK0 _ rfl ?_
    clear hK hK0 K K0
    refine wpL_nilG (endLG [(24, .tmp 10, .tmp 31), (24, .tmp 11, .tmp 32)] rfl (by intro q hq; simp only [List.mem_cons, List.not_mem_nil, or_false] at hq; rcases hq with rfl | rfl <;> exact fits_wv (by kernel_rfl) _) (fun w10 hv hst hap hfin => ?_))
    have Gq : Hid (w10.heap[g12]? = some (.cells (wcells (Q)) 24 (0, 0))) := Lib.hid (hst 14 _ _ _ _ g12 rfl rfl rfl)
    have Gr : Hid (w10.heap[g13]? = some (.cells (wcells (R)) 24 (0, 0))) := Lib.hid (hst 15 _ _ _ _ g13 rfl rfl rfl)
    have hne12_13 : g12 ≠ g13 := fun h => hap 12 _ _ _ 13 _ _ _ rfl rfl rfl rfl rfl rfl (by decide) (by subst h; rfl)
    replace Ge := Lib.hid ((hv.block _ (lt_of_heap Ge.out) (by have := VB.out.lt; (try have := HNE.out); (try have := HZ.out); omega)).trans Ge.out)
    replace Gn := Lib.hid ((hv.block _ (lt_of_heap Gn.out) (by have := VB.out.lt; (try have := HNE.out); (try have := HZ.out); omega)).trans Gn.out)
    replace Gd := Lib.hid ((hv.block _ (lt_of_heap Gd.out) (by have := VB.out.lt; (try have := HNE.out); (try have := HZ.out); omega)).trans Gd.out)
    replace Gx := Lib.hid ((hv.block _ (lt_of_heap Gx.out) (by have := VB.out.lt; (try have := HNE.out); (try have := HZ.out); omega)).trans Gx.out)
    replace Gy := Lib.hid ((hv.block _ (lt_of_heap Gy.out) (by have := VB.out.lt; (try have := HNE.out); (try have := HZ.out); omega)).trans Gy.out)
    have HG12 := Lib.hid hg12
    have HG13 := Lib.hid hg13
    replace VB := Lib.hid (VB.out.trans' hv)
    clear hv hst hap hfin xGe xGn xGd xGx xGy hnx
    have cGx := cell_row Gx.out
    have cGy := cell_row Gy.out
    have cGq := cell_row Gq.out
    have cGr := cell_row Gr.out
    go_upto_region 5 with fail
    clear cGx cGy cGq cGr
    refine wp_region_store [⟨w.heap.size + 1 + 1, 24, .tmp 35⟩, ⟨w.heap.size + 1 + 1 + 1, 24, .tmp 36⟩] (by kernel_rfl) (by kernel_rfl) (by kernel_rfl) rfl (List.Pairwise.cons (by intro r hr; simp only [List.mem_cons, List.not_mem_nil, or_false] at hr; subst hr <;> dsimp only <;> (have := HZ.out; have := HG12.out; have := HG13.out; omega)) (List.pairwise_singleton _ _)) ?_ ?_
    · intro r hr
      simp only [List.mem_cons, List.not_mem_nil, or_false] at hr
      rcases hr with rfl | rfl
      · exact ⟨_, Gx.out, by kernel_rfl⟩
      · exact ⟨_, Gy.out, by kernel_rfl⟩
    have xGq := extR_row (B := w10.heap.size) (R := [⟨w.heap.size + 1 + 1, 24, .tmp 35⟩, ⟨w.heap.size + 1 + 1 + 1, 24, .tmp 36⟩]) Gq.out (lt_of_heap Gq.out) (by intro r hr; simp only [List.mem_cons, List.not_mem_nil, or_false] at hr; rcases hr with rfl | rfl <;> dsimp only <;> (have := HZ.out; have := HG12.out; have := HG13.out; omega))
    have xGr := extR_row (B := w10.heap.size) (R := [⟨w.heap.size + 1 + 1, 24, .tmp 35⟩, ⟨w.heap.size + 1 + 1 + 1, 24, .tmp 36⟩]) Gr.out (lt_of_heap Gr.out) (by intro r hr; simp only [List.mem_cons, List.not_mem_nil, or_false] at hr; rcases hr with rfl | rfl <;> dsimp only <;> (have := HZ.out; have := HG12.out; have := HG13.out; omega))
    repeat (refine wpCalm_step (fun K hK => ?_); go_simp; first | (refine hK _ ?_; clear hK K) | (apply Exists.intro; refine ⟨fun _ => ?_, hK _ ?_⟩; (first | fail); clear hK K))
    refine wpCalm_nil ⟨?_, fun x hx => ?_⟩
    · intro r hr
      simp only [List.mem_cons, List.not_mem_nil, or_false] at hr
      rcases hr with rfl | rfl <;> exact fits_wv (by kernel_rfl) _
    replace Gx : Hid (x.val.heap[w.heap.size + 1 + 1]? = some (.cells (wcells (Q)) 24 (0, 0))) := Lib.hid (hx ⟨w.heap.size + 1 + 1, 24, .tmp 35⟩ (by simp))
    replace Gy : Hid (x.val.heap[w.heap.size + 1 + 1 + 1]? = some (.cells (wcells (R)) 24 (0, 0))) := Lib.hid (hx ⟨w.heap.size + 1 + 1 + 1, 24, .tmp 36⟩ (by simp))
    replace Gq := Lib.hid (extR_block x Gq.out (lt_of_heap Gq.out) (by intro r hr; simp only [List.mem_cons, List.not_mem_nil, or_false] at hr; rcases hr with rfl | rfl <;> dsimp only <;> (have := HZ.out; have := HG12.out; have := HG13.out; omega)))
    replace Gr := Lib.hid (extR_block x Gr.out (lt_of_heap Gr.out) (by intro r hr; simp only [List.mem_cons, List.not_mem_nil, or_false] at hr; rcases hr with rfl | rfl <;> dsimp only <;> (have := HZ.out; have := HG12.out; have := HG13.out; omega)))
    replace VB := Lib.hid (VB.out.extR x (by intro r hr; simp only [List.mem_cons, List.not_mem_nil, or_false] at hr; rcases hr with rfl | rfl <;> dsimp only <;> (have := HZ.out; have := HG12.out; have := HG13.out; omega)))
    clear hx xGq xGr
    obtain ⟨w11, hw⟩ : ∃ wx, wx = x.val := ⟨_, rfl⟩
    rw [← hw] at Gx Gy Gq Gr VB ⊢
    clear hw x
    have cGx := cell_row Gx.out
    have cGy := cell_row Gy.out
    have cGq := cell_row Gq.out
    have cGr := cell_row Gr.out
    go_wp2
    exact bodyPost_ret (v := .tuple #[wv Q, wv R, .int .i64 0]) (res_cct Tryz.results21 _ _ _ _ _ _ _ _ _ _ _ rfl rfl rfl Gx.out Gy.out aggW aggW) rfl ⟨rfl, VB.out⟩
end Go.Proofs.YtegmmaaapdgocaaGreat

/- THE WALKS of newton, going on: reciprocals, or why there is none; an engine made. -/
namespace Go.Proofs.YtegmmaaapdgocaaGreat
open Go Go.RowKit

theorem normT_some (d : Nat) (hd : d < M) : ∃ (U : Nat) (b : Int), ∀ w : World, Calls Tryz.prog 84 #[wv d] w fun e w' => e = .returned (.tuple #[wv U, .int .i64 b, .bool (decide (d ≠ 0 ∧ d < P2 120))]) ∧ Below w.heap.size w w' := by
  by_cases h : d ≠ 0 ∧ d < P2 120
  · refine ⟨d * P2 (128 - blen d), ((128 - blen d : Nat) : Int), fun w => ?_⟩
    rw [decide_eq_true h]
    exact normT_yes d h.1 h.2 w
  · refine ⟨0, 0, fun w => ?_⟩
    rw [decide_eq_false h]
    exact normT_no d hd (by by_cases h0 : d = 0; exact Or.inl h0; exact Or.inr fun h1 => h ⟨h0, h1⟩) w
attribute [local go_sem ↓] Go.wp_at_zero Go.wp_at_succ
set_option maxRecDepth 100000 in
set_option maxHeartbeats 2000000 in
theorem recE_nil (d : Nat) (k : Int) (hd : d < M) (w : World) :
    Calls Tryz.prog 58 #[.pointer none, wv d, .int .i64 k] w fun x w' => x = .returned (.tuple #[wv 0, .int .i64 6]) ∧ Below w.heap.size w w' := by
  obtain ⟨U, b, hN⟩ := normT_some d hd
  have S1 := Lib.hid hN
  obtain ⟨ok, hok⟩ : ∃ x, x = decide (d ≠ 0 ∧ d < P2 120) := ⟨_, rfl⟩
  rw [← hok] at S1
  clear hN hd hok
  go_enter Tryz.func58, Tryz.ntmps58
  have HB := Lib.hid (Below.refl w.heap.size w)
  have Gd := Lib.hid (alloc_new (w) (.cells (wcells d) 24))
  replace HB := Lib.hid (below_al HB.out (.cells (wcells d) 24))
  replace Gd := Lib.hid (keepAl (o' := .cells (wcells 0) 24) Gd.out)
  have Go := Lib.hid (alloc_new' (w := (w).alloc (.cells (wcells d) 24)) (n := w.heap.size + 1) (.cells (wcells 0) 24) (by simp))
  replace HB := Lib.hid (below_al HB.out (.cells (wcells 0) 24))
  have cGd := cell_row Gd.out
  have cGo := cell_row Go.out
  go_wp2_with fail
  refine (S1.out _).mono ?_
  rintro e w1 ⟨rfl, hb⟩
  clear cGd cGo
  replace HB := Lib.hid (below_then HB.out hb)
  replace Gd := Lib.hid ((hb.block _ (lt_of_heap Gd.out)).trans Gd.out)
  replace Go := Lib.hid ((hb.block _ (lt_of_heap Go.out)).trans Go.out)
  clear hb
  have HZ := Lib.hid (lt_of_heap Go.out)
  replace Gd := Lib.hid (keepAl (o' := .cells (wcells U) 24) Gd.out)
  replace Go := Lib.hid (keepAl (o' := .cells (wcells U) 24) Go.out)
  have Gu := Lib.hid (alloc_new (w1) (.cells (wcells U) 24))
  replace HB := Lib.hid (below_al HB.out (.cells (wcells U) 24))
  have pd := cell_row Gd.out
  have sto := st_row (P := Tryz.prog) Go.out rfl (0)
  replace Gd := Lib.hid ((setRow_other ((w1).alloc (.cells (wcells U) 24)) (w.heap.size + 1) _ (wcells (0)) (by (have := HZ.out; omega))).trans Gd.out)
  replace Gu := Lib.hid ((setRow_other ((w1).alloc (.cells (wcells U) 24)) (w.heap.size + 1) _ (wcells (0)) (by (have := HZ.out; omega))).trans Gu.out)
  replace Go := Lib.hid (setRow_heap ((w1).alloc (.cells (wcells U) 24)) (w.heap.size + 1) _ (wcells (0)) _ _ Go.out)
  replace HB := Lib.hid (below_setRow' HB.out (show _ ≤ w.heap.size + 1 by (have := HZ.out; omega)) (wcells (0)))
  have cGd := cell_row Gd.out
  have cGo := cell_row Go.out
  have cGu := cell_row Gu.out
  go_wp2
  exact bodyPost_ret (v := .tuple #[wv 0, .int .i64 6]) (res_ct Tryz.results58 _ _ _ _ _ _ _ rfl rfl Go.out aggW) rfl ⟨rfl, HB.out⟩
set_option maxRecDepth 100000 in
set_option maxHeartbeats 2000000 in
theorem recE_range (e d : Nat) (k : Int) (hd : d < M) (hk : k < 0 ∨ 10 < k) (w : World) :
    Calls Tryz.prog 58 #[.pointer (some ⟨e, 0, none⟩), wv d, .int .i64 k] w fun x w' => x = .returned (.tuple #[wv 0, .int .i64 4]) ∧ Below w.heap.size w w' := by
  obtain ⟨U, b, hN⟩ := normT_some d hd
  have S1 := Lib.hid hN
  obtain ⟨ok, hok⟩ : ∃ x, x = decide (d ≠ 0 ∧ d < P2 120) := ⟨_, rfl⟩
  rw [← hok] at S1
  clear hN hd hok
  by_cases h0 : k < 0
  · have h1 : decide (k < 0) = true := decide_eq_true h0
    clear hk h0
    go_enter Tryz.func58, Tryz.ntmps58
    have HB := Lib.hid (Below.refl w.heap.size w)
    have Gd := Lib.hid (alloc_new (w) (.cells (wcells d) 24))
    replace HB := Lib.hid (below_al HB.out (.cells (wcells d) 24))
    replace Gd := Lib.hid (keepAl (o' := .cells (wcells 0) 24) Gd.out)
    have Go := Lib.hid (alloc_new' (w := (w).alloc (.cells (wcells d) 24)) (n := w.heap.size + 1) (.cells (wcells 0) 24) (by simp))
    replace HB := Lib.hid (below_al HB.out (.cells (wcells 0) 24))
    have cGd := cell_row Gd.out
    have cGo := cell_row Go.out
    go_wp2_with fail
    refine (S1.out _).mono ?_
    rintro e w2 ⟨rfl, hb⟩
    clear cGd cGo
    replace HB := Lib.hid (below_then HB.out hb)
    replace Gd := Lib.hid ((hb.block _ (lt_of_heap Gd.out)).trans Gd.out)
    replace Go := Lib.hid ((hb.block _ (lt_of_heap Go.out)).trans Go.out)
    clear hb
    have HZ := Lib.hid (lt_of_heap Go.out)
    replace Gd := Lib.hid (keepAl (o' := .cells (wcells U) 24) Gd.out)
    replace Go := Lib.hid (keepAl (o' := .cells (wcells U) 24) Go.out)
    have Gu := Lib.hid (alloc_new (w2) (.cells (wcells U) 24))
    replace HB := Lib.hid (below_al HB.out (.cells (wcells U) 24))
    have pd := cell_row Gd.out
    have sto := st_row (P := Tryz.prog) Go.out rfl (0)
    replace Gd := Lib.hid ((setRow_other ((w2).alloc (.cells (wcells U) 24)) (w.heap.size + 1) _ (wcells (0)) (by (have := HZ.out; omega))).trans Gd.out)
    replace Gu := Lib.hid ((setRow_other ((w2).alloc (.cells (wcells U) 24)) (w.heap.size + 1) _ (wcells (0)) (by (have := HZ.out; omega))).trans Gu.out)
    replace Go := Lib.hid (setRow_heap ((w2).alloc (.cells (wcells U) 24)) (w.heap.size + 1) _ (wcells (0)) _ _ Go.out)
    replace HB := Lib.hid (below_setRow' HB.out (show _ ≤ w.heap.size + 1 by (have := HZ.out; omega)) (wcells (0)))
    have cGd := cell_row Gd.out
    have cGo := cell_row Go.out
    have cGu := cell_row Gu.out
    go_wp2
    exact bodyPost_ret (v := .tuple #[wv 0, .int .i64 4]) (res_ct Tryz.results58 _ _ _ _ _ _ _ rfl rfl Go.out aggW) rfl ⟨rfl, HB.out⟩
  · have h1 : decide (k < 0) = false := decide_eq_false h0
    have h2 : decide (10 < k) = true := decide_eq_true (by omega)
    clear hk h0
    go_enter Tryz.func58, Tryz.ntmps58
    have HB := Lib.hid (Below.refl w.heap.size w)
    have Gd := Lib.hid (alloc_new (w) (.cells (wcells d) 24))
    replace HB := Lib.hid (below_al HB.out (.cells (wcells d) 24))
    replace Gd := Lib.hid (keepAl (o' := .cells (wcells 0) 24) Gd.out)
    have Go := Lib.hid (alloc_new' (w := (w).alloc (.cells (wcells d) 24)) (n := w.heap.size + 1) (.cells (wcells 0) 24) (by simp))
    replace HB := Lib.hid (below_al HB.out (.cells (wcells 0) 24))
    have cGd := cell_row Gd.out
    have cGo := cell_row Go.out
    go_wp2_with fail
    refine (S1.out _).mono ?_
    rintro e w3 ⟨rfl, hb⟩
    clear cGd cGo
    replace HB := Lib.hid (below_then HB.out hb)
    replace Gd := Lib.hid ((hb.block _ (lt_of_heap Gd.out)).trans Gd.out)
    replace Go := Lib.hid ((hb.block _ (lt_of_heap Go.out)).trans Go.out)
    clear hb
    have HZ := Lib.hid (lt_of_heap Go.out)
    replace Gd := Lib.hid (keepAl (o' := .cells (wcells U) 24) Gd.out)
    replace Go := Lib.hid (keepAl (o' := .cells (wcells U) 24) Go.out)
    have Gu := Lib.hid (alloc_new (w3) (.cells (wcells U) 24))
    replace HB := Lib.hid (below_al HB.out (.cells (wcells U) 24))
    have pd := cell_row Gd.out
    have sto := st_row (P := Tryz.prog) Go.out rfl (0)
    replace Gd := Lib.hid ((setRow_other ((w3).alloc (.cells (wcells U) 24)) (w.heap.size + 1) _ (wcells (0)) (by (have := HZ.out; omega))).trans Gd.out)
    replace Gu := Lib.hid ((setRow_other ((w3).alloc (.cells (wcells U) 24)) (w.heap.size + 1) _ (wcells (0)) (by (have := HZ.out; omega))).trans Gu.out)
    replace Go := Lib.hid (setRow_heap ((w3).alloc (.cells (wcells U) 24)) (w.heap.size + 1) _ (wcells (0)) _ _ Go.out)
    replace HB := Lib.hid (below_setRow' HB.out (show _ ≤ w.heap.size + 1 by (have := HZ.out; omega)) (wcells (0)))
    have cGd := cell_row Gd.out
    have cGo := cell_row Go.out
    have cGu := cell_row Gu.out
    go_wp2
    exact bodyPost_ret (v := .tuple #[wv 0, .int .i64 4]) (res_ct Tryz.results58 _ _ _ _ _ _ _ rfl rfl Go.out aggW) rfl ⟨rfl, HB.out⟩
set_option maxRecDepth 100000 in
set_option maxHeartbeats 2000000 in
theorem recE_zero (e : Nat) (k : Int) (h0 : 0 ≤ k) (h1 : k ≤ 10) (w : World) :
    Calls Tryz.prog 58 #[.pointer (some ⟨e, 0, none⟩), wv 0, .int .i64 k] w fun x w' => x = .returned (.tuple #[wv 0, .int .i64 5]) ∧ Below w.heap.size w w' := by
  have S1 := Lib.hid (fun w' => normT_no 0 M_pos (Or.inl rfl) w')
  have h2 : decide (k < 0) = false := decide_eq_false (by omega)
  have h3 : decide (10 < k) = false := decide_eq_false (by omega)
  obtain ⟨U, hU⟩ : ∃ U : Nat, U = 0 := ⟨_, rfl⟩
  clear hU h0 h1
  go_enter Tryz.func58, Tryz.ntmps58
  have HB := Lib.hid (Below.refl w.heap.size w)
  have Gd := Lib.hid (alloc_new (w) (.cells (wcells 0) 24))
  replace HB := Lib.hid (below_al HB.out (.cells (wcells 0) 24))
  replace Gd := Lib.hid (keepAl (o' := .cells (wcells 0) 24) Gd.out)
  have Go := Lib.hid (alloc_new' (w := (w).alloc (.cells (wcells 0) 24)) (n := w.heap.size + 1) (.cells (wcells 0) 24) (by simp))
  replace HB := Lib.hid (below_al HB.out (.cells (wcells 0) 24))
  have cGd := cell_row Gd.out
  have cGo := cell_row Go.out
  go_wp2_with fail
  refine (S1.out _).mono ?_
  rintro e w4 ⟨rfl, hb⟩
  clear cGd cGo
  replace HB := Lib.hid (below_then HB.out hb)
  replace Gd := Lib.hid ((hb.block _ (lt_of_heap Gd.out)).trans Gd.out)
  replace Go := Lib.hid ((hb.block _ (lt_of_heap Go.out)).trans Go.out)
  clear hb
  have HZ := Lib.hid (lt_of_heap Go.out)
  replace Gd := Lib.hid (keepAl (o' := .cells (wcells 0) 24) Gd.out)
  replace Go := Lib.hid (keepAl (o' := .cells (wcells 0) 24) Go.out)
  have Gu := Lib.hid (alloc_new (w4) (.cells (wcells 0) 24))
  replace HB := Lib.hid (below_al HB.out (.cells (wcells 0) 24))
  have pd := cell_row Gd.out
  have sto := st_row (P := Tryz.prog) Go.out rfl (0)
  replace Gd := Lib.hid ((setRow_other ((w4).alloc (.cells (wcells 0) 24)) (w.heap.size + 1) _ (wcells (0)) (by (have := HZ.out; omega))).trans Gd.out)
  replace Gu := Lib.hid ((setRow_other ((w4).alloc (.cells (wcells 0) 24)) (w.heap.size + 1) _ (wcells (0)) (by (have := HZ.out; omega))).trans Gu.out)
  replace Go := Lib.hid (setRow_heap ((w4).alloc (.cells (wcells 0) 24)) (w.heap.size + 1) _ (wcells (0)) _ _ Go.out)
  replace HB := Lib.hid (below_setRow' HB.out (show _ ≤ w.heap.size + 1 by (have := HZ.out; omega)) (wcells (0)))
  have cGd := cell_row Gd.out
  have cGo := cell_row Go.out
  have cGu := cell_row Gu.out
  go_wp2
  exact bodyPost_ret (v := .tuple #[wv 0, .int .i64 5]) (res_ct Tryz.results58 _ _ _ _ _ _ _ rfl rfl Go.out aggW) rfl ⟨rfl, HB.out⟩
set_option maxRecDepth 100000 in
set_option maxHeartbeats 2000000 in
theorem recE_great (e d : Nat) (k : Int) (hd : d < M) (h0 : 0 ≤ k) (h1 : k ≤ 10) (hd0 : d ≠ 0) (hg : ¬ d < P2 120) (w : World) :
    Calls Tryz.prog 58 #[.pointer (some ⟨e, 0, none⟩), wv d, .int .i64 k] w fun x w' => x = .returned (.tuple #[wv 0, .int .i64 4]) ∧ Below w.heap.size w w' := by
  have S1 := Lib.hid (fun w' => normT_no d hd (Or.inr hg) w')
  have h2 : decide (k < 0) = false := decide_eq_false (by omega)
  have h3 : decide (10 < k) = false := decide_eq_false (by omega)
  have hz := isZ_no hd hd0
  clear h0 h1 hd hd0 hg
  go_enter Tryz.func58, Tryz.ntmps58
  have HB := Lib.hid (Below.refl w.heap.size w)
  have Gd := Lib.hid (alloc_new (w) (.cells (wcells d) 24))
  replace HB := Lib.hid (below_al HB.out (.cells (wcells d) 24))
  replace Gd := Lib.hid (keepAl (o' := .cells (wcells 0) 24) Gd.out)
  have Go := Lib.hid (alloc_new' (w := (w).alloc (.cells (wcells d) 24)) (n := w.heap.size + 1) (.cells (wcells 0) 24) (by simp))
  replace HB := Lib.hid (below_al HB.out (.cells (wcells 0) 24))
  have cGd := cell_row Gd.out
  have cGo := cell_row Go.out
  go_wp2_with fail
  refine (S1.out _).mono ?_
  rintro e w5 ⟨rfl, hb⟩
  clear cGd cGo
  replace HB := Lib.hid (below_then HB.out hb)
  replace Gd := Lib.hid ((hb.block _ (lt_of_heap Gd.out)).trans Gd.out)
  replace Go := Lib.hid ((hb.block _ (lt_of_heap Go.out)).trans Go.out)
  clear hb
  have HZ := Lib.hid (lt_of_heap Go.out)
  replace Gd := Lib.hid (keepAl (o' := .cells (wcells 0) 24) Gd.out)
  replace Go := Lib.hid (keepAl (o' := .cells (wcells 0) 24) Go.out)
  have Gu := Lib.hid (alloc_new (w5) (.cells (wcells 0) 24))
  replace HB := Lib.hid (below_al HB.out (.cells (wcells 0) 24))
  have pd := cell_row Gd.out
  have sto := st_row (P := Tryz.prog) Go.out rfl (0)
  replace Gd := Lib.hid ((setRow_other ((w5).alloc (.cells (wcells 0) 24)) (w.heap.size + 1) _ (wcells (0)) (by (have := HZ.out; omega))).trans Gd.out)
  replace Gu := Lib.hid ((setRow_other ((w5).alloc (.cells (wcells 0) 24)) (w.heap.size + 1) _ (wcells (0)) (by (have := HZ.out; omega))).trans Gu.out)
  replace Go := Lib.hid (setRow_heap ((w5).alloc (.cells (wcells 0) 24)) (w.heap.size + 1) _ (wcells (0)) _ _ Go.out)
  replace HB := Lib.hid (below_setRow' HB.out (show _ ≤ w.heap.size + 1 by (have := HZ.out; omega)) (wcells (0)))
  have cGd := cell_row Gd.out
  have cGo := cell_row Go.out
  have cGu := cell_row Gu.out
  go_wp2
  exact bodyPost_ret (v := .tuple #[wv 0, .int .i64 4]) (res_ct Tryz.results58 _ _ _ _ _ _ _ rfl rfl Go.out aggW) rfl ⟨rfl, HB.out⟩
set_option maxRecDepth 100000 in
set_option maxHeartbeats 2000000 in
theorem recE_yes (e g d k : Nat) (hk : k ≤ 10) (hd0 : d ≠ 0) (hd : d < P2 120) (w : World) (hE : w.heap[e]? = some (.cells #[.pointer (some ⟨g, 0, none⟩)] 108 (0, 0))) (hI : IsRom w g) (hne : e ≠ g) :
    Calls Tryz.prog 58 #[.pointer (some ⟨e, 0, none⟩), wv d, .int .i64 (k : Int)] w fun x w' => x = .returned (.tuple #[wv (nwY (d * P2 (128 - blen d)) k), .int .i64 0]) ∧ VG g w w' := by
  have hm : mayN 0 d = 0 := may_yes (by omega) hd (Nat.mul_pos (by omega) (P2_pos _))
  obtain ⟨r1, r2, _⟩ := shift_range hm
  have S1 := Lib.hid (fun w' => normT_yes d hd0 hd w')
  have S2 := Lib.hid (fun w' hE hI => recipN_w e g (d * P2 (128 - blen d)) k (up_len hm) r1 r2 hk w' hE hI hne)
  have h2 : decide ((k : Int) < 0) = false := decide_eq_false (by omega)
  have h3 : decide ((10 : Int) < (k : Int)) = false := decide_eq_false (by omega)
  have hz := isZ_no (Nat.lt_trans hd (by rw [M_eq]; exact P2_lt (by omega))) hd0
  obtain ⟨y, hy⟩ : ∃ y, y = nwY (d * P2 (128 - blen d)) k := ⟨_, rfl⟩
  rw [← hy] at S2 ⊢
  obtain ⟨D, hD⟩ : ∃ y, y = d * P2 (128 - blen d) := ⟨_, rfl⟩
  rw [← hD] at S1 S2
  obtain ⟨b, hb⟩ : ∃ y, y = 128 - blen d := ⟨_, rfl⟩
  rw [← hb] at S1
  have VB := Lib.hid (VG.refl hI)
  have Ge := Lib.hid hE
  have HNE := Lib.hid hne
  clear hm hk hd0 hd hE hI hne r1 r2 hy hD hb
  go_enter Tryz.func58, Tryz.ntmps58
  replace Ge := Lib.hid (keepAl (o' := .cells (wcells d) 24) Ge.out)
  have Gd := Lib.hid (alloc_new (w) (.cells (wcells d) 24))
  replace VB := Lib.hid (VB.out.al (.cells (wcells d) 24))
  replace Ge := Lib.hid (keepAl (o' := .cells (wcells 0) 24) Ge.out)
  replace Gd := Lib.hid (keepAl (o' := .cells (wcells 0) 24) Gd.out)
  have Go := Lib.hid (alloc_new' (w := (w).alloc (.cells (wcells d) 24)) (n := w.heap.size + 1) (.cells (wcells 0) 24) (by simp))
  replace VB := Lib.hid (VB.out.al (.cells (wcells 0) 24))
  have cGe := cell_row Ge.out
  have cGd := cell_row Gd.out
  have cGo := cell_row Go.out
  go_wp2_with fail
  refine (S1.out _).mono ?_
  rintro e w6 ⟨rfl, hb⟩
  clear cGe cGd cGo
  replace VB := Lib.hid (VB.out.below hb)
  replace Ge := Lib.hid ((hb.block _ (lt_of_heap Ge.out)).trans Ge.out)
  replace Gd := Lib.hid ((hb.block _ (lt_of_heap Gd.out)).trans Gd.out)
  replace Go := Lib.hid ((hb.block _ (lt_of_heap Go.out)).trans Go.out)
  clear hb
  have HZ := Lib.hid (lt_of_heap Go.out)
  replace Ge := Lib.hid (keepAl (o' := .cells (wcells D) 24) Ge.out)
  replace Gd := Lib.hid (keepAl (o' := .cells (wcells D) 24) Gd.out)
  replace Go := Lib.hid (keepAl (o' := .cells (wcells D) 24) Go.out)
  have Gu := Lib.hid (alloc_new (w6) (.cells (wcells D) 24))
  replace VB := Lib.hid (VB.out.al (.cells (wcells D) 24))
  have cGe := cell_row Ge.out
  have cGd := cell_row Gd.out
  have cGo := cell_row Go.out
  have cGu := cell_row Gu.out
  go_wp2_with fail
  refine (S2.out _ Ge.out VB.out.rom).mono ?_
  rintro e w7 ⟨rfl, hv⟩
  clear cGe cGd cGo cGu
  replace Ge := Lib.hid (hv.heap Ge.out (by have := VB.out.lt; (try have := HNE.out); (try have := HZ.out); omega))
  replace Gd := Lib.hid (hv.heap Gd.out (by have := VB.out.lt; (try have := HNE.out); (try have := HZ.out); omega))
  replace Go := Lib.hid (hv.heap Go.out (by have := VB.out.lt; (try have := HNE.out); (try have := HZ.out); omega))
  replace Gu := Lib.hid (hv.heap Gu.out (by have := VB.out.lt; (try have := HNE.out); (try have := HZ.out); omega))
  replace VB := Lib.hid (VB.out.trans hv)
  clear hv
  have sto := st_row (P := Tryz.prog) Go.out rfl (y)
  replace Go := Lib.hid (setRow_heap (w7) (w.heap.size + 1) _ (wcells (y)) _ _ Go.out)
  replace VB := Lib.hid (VB.out.row (show _ ≤ w.heap.size + 1 by (omega)) (wcells (y)))
  have cGo := cell_row Go.out
  go_wp2
  exact bodyPost_ret (v := .tuple #[wv y, .int .i64 0]) (res_ct Tryz.results58 _ _ _ _ _ _ _ rfl rfl Go.out aggW) rfl ⟨rfl, VB.out⟩

/-- What an engine made is: where it lies, its rom. -/
structure IsEng (T : TypeId) (B e g : Nat) (w : World) : Prop where
  eng : w.heap[e]? = some (.cells #[.pointer (some ⟨g, 0, none⟩)] T (0, 0))
  rom : IsRom w g
  ne : e ≠ g
  le : B ≤ e
  lg : B ≤ g
set_option maxRecDepth 100000 in
theorem newE_nil (w : World) : Calls Tryz.prog 20 #[.pointer none] w fun x w' => ∃ e g, x = .returned (.pointer (some ⟨e, 0, none⟩)) ∧ IsEng 108 w.heap.size e g w' ∧ Below w.heap.size w w' := by
  have S0 := Lib.hid (fun w' => romNew_any w')
  go_enter Tryz.func20, Tryz.ntmps20
  go_wp2_with fail
  refine (S0.out _).mono ?_
  rintro x w1 ⟨rfl, hn, hb⟩
  have HN := Lib.hid hn
  have HB := Lib.hid hb
  clear hn hb
  go_wp2
  go_ret
  have h1 := HN.out.lt
  exact ⟨_, _, rfl, ⟨alloc_new _ _, (show IsRom w1 w.heap.size from Or.inl HN.out).keep (alloc_old _ _ _ h1), by omega, by omega, Nat.le_refl _⟩, below_al HB _⟩
set_option maxRecDepth 100000 in
theorem newE_at (g : Nat) (w : World) (h : IsRom w g) : Calls Tryz.prog 20 #[.pointer (some ⟨g, 0, none⟩)] w fun x w' => x = .returned (.pointer (some ⟨w.heap.size, 0, none⟩)) ∧ w'.heap[w.heap.size]? = some (.cells #[.pointer (some ⟨g, 0, none⟩)] 108 (0, 0)) ∧ IsRom w' g ∧ Below w.heap.size w w' := by
  have HN := Lib.hid h
  clear h
  go_enter Tryz.func20, Tryz.ntmps20
  go_wp2
  go_ret
  exact ⟨rfl, alloc_new _ _, HN.out.keep (alloc_old _ _ _ HN.out.lt), below_al (Lib.hid (Below.refl _ _)) _⟩
end Go.Proofs.YtegmmaaapdgocaaGreat
