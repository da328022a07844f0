/- THE WALKS of newton: rounds with any function of a number. -/
import Derived.Test.YtegmmaaapdgocaaK17
import Derived.Test.YtegmmaaapdgocaaFixd
import Derived.Test.YtegmmaaapdgocaaNwtN
import Derived.WalkMore
namespace Go.Proofs.Ytegmmaaapdgocaa
open Go Go.RowKit

/-- A number behind i rounds. -/
def itN (g : Nat → Nat) (a : Nat) : Nat → Nat
  | 0 => a
  | i + 1 => g (itN g a i)
theorem itN_lt {g : Nat → Nat} {a : Nat} (hg : ∀ x, g x < M) (ha : a < M) : ∀ i, itN g a i < M
  | 0 => ha
  | _ + 1 => hg _
attribute [local go_sem ↓] Go.wp_at_zero Go.wp_at_succ
set_option maxRecDepth 100000 in
set_option maxHeartbeats 2000000 in
theorem repeatN_any (f : FuncId) (Db D n a : Nat) (g : Nat → Nat) (w : World) (hn : n ≤ 100) (hD : w.heap[Db]? = some (.cells (wcells D) 24 (0, 0))) (hcall : Enters Try.prog f)
    (ha : a < M) (hg : ∀ x, g x < M)
    (hdo : ∀ x w', x < M → w'.heap[Db]? = some (.cells (wcells D) 24 (0, 0)) → Calls Try.prog f (#[wv x] ++ #[.pointer (some ⟨Db, 0, none⟩)]) w' fun e w'' => e = .returned (wv (g x)) ∧ Below w'.heap.size w' w'') :
    Calls Try.prog 70 #[.int .i64 (n : Int), wv a, .func (.func f) #[] #[.pointer (some ⟨Db, 0, none⟩)]] w fun e w' => e = .returned (wv (itN g a n)) ∧ Below w.heap.size w w' := by
  unfold Enters at hcall
  have HDO := Lib.hid hdo
  have HIT := Lib.hid (itN_lt hg ha)
  have HN := Lib.hid hn
  have Gd := Lib.hid hD
  have HDB := Lib.hid (lt_of_heap hD)
  clear hdo hn hD ha hg
  go_enter Try.func70, Try.ntmps70
  have HB := Lib.hid (Below.refl w.heap.size w)
  replace Gd := Lib.hid (keepAl (o' := .cells (wcells a) 24) Gd.out)
  have Ga := Lib.hid (alloc_new (w) (.cells (wcells a) 24))
  replace HB := Lib.hid (below_al HB.out (.cells (wcells a) 24))
  replace Gd := Lib.hid (keepAl (o' := .cells (wcells 0) 24) Gd.out)
  replace Ga := Lib.hid (keepAl (o' := .cells (wcells 0) 24) Ga.out)
  have Go := Lib.hid (alloc_new' (w := (w).alloc (.cells (wcells a) 24)) (n := w.heap.size + 1) (.cells (wcells 0) 24) (by simp))
  replace HB := Lib.hid (below_al HB.out (.cells (wcells 0) 24))
  go_wp2
  obtain ⟨wq, hw⟩ : ∃ wx, wx = ((w).alloc (.cells (wcells a) 24)).alloc (.cells (wcells 0) 24) := ⟨_, rfl⟩
  rw [← hw] at Gd Ga Go HB ⊢
  clear hw
  go_loopw [8] (fun s8 wr => ∃ i : Nat, s8 = .int .i64 (i : Int) ∧ i ≤ n ∧ Hid (wr.heap[Db]? = some (.cells (wcells D) 24 (0, 0))) ∧ Hid (wr.heap[w.heap.size]? = some (.cells (wcells (itN g a i)) 24 (0, 0))) ∧ Hid (wr.heap[w.heap.size + 1]? = some (.cells (wcells 0) 24 (0, 0))) ∧ Hid (Below w.heap.size w wr)) (fun s8 _ => n - (intOf s8).toNat)
  case atStart => exact ⟨0, rfl, by omega, Gd, Ga, Go, HB⟩
  case round =>
    clear HB Gd Ga Go
    obtain ⟨i, rfl, hi, Gd, Ga, Go, HB⟩ := hrel
    by_cases hlt : i < n
    · have hn := HN.out
      have e0 : (0 : Int) ≤ (i : Int) := by omega
      have e1 : (i : Int) < (n : Int) := by omega
      have e2 : (i : Int) < 100 := by omega
      have S1 := Lib.hid (fun w' h => HDO.out (itN g a i) w' (HIT.out i) h)
      have HX : Hid (itN g a (i + 1) = g (itN g a i)) := Lib.hid rfl
      obtain ⟨X, hX⟩ : ∃ X, X = itN g a i := ⟨_, rfl⟩
      rw [← hX] at S1 HX Ga
      obtain ⟨Y, hY⟩ : ∃ Y, Y = g X := ⟨_, rfl⟩
      rw [← hY] at S1 HX
      have HLT := Lib.hid hlt
      have hw : IntKind.i64.wrap ((i : Int) + 1) = (i : Int) + 1 := IntWalk.i64_in _ (by omega)
      clear hn hX hY hlt hi
      have cGd := cell_row Gd.out
      have cGa := cell_row Ga.out
      have cGo := cell_row Go.out
      go_wp2_with fail
      refine (S1.out _ Gd.out).mono ?_
      rintro e w1 ⟨rfl, hb⟩
      clear cGd cGa cGo
      replace HB := Lib.hid (below_then HB.out hb)
      replace Gd := Lib.hid ((hb.block _ (lt_of_heap Gd.out)).trans Gd.out)
      replace Ga := Lib.hid ((hb.block _ (lt_of_heap Ga.out)).trans Ga.out)
      replace Go := Lib.hid ((hb.block _ (lt_of_heap Go.out)).trans Go.out)
      clear hb
      have HZ := Lib.hid (lt_of_heap Go.out)
      have sta := st_row (P := Try.prog) Ga.out rfl (Y)
      replace Gd := Lib.hid ((setRow_other (w1) (w.heap.size) _ (wcells (Y)) (by (have := HDB.out; omega))).trans Gd.out)
      replace Go := Lib.hid ((setRow_other (w1) (w.heap.size) _ (wcells (Y)) (by (have := HDB.out; omega))).trans Go.out)
      replace Ga := Lib.hid (setRow_heap (w1) (w.heap.size) _ (wcells (Y)) _ _ Ga.out)
      replace HB := Lib.hid (below_setRow' HB.out (show _ ≤ w.heap.size by (have := HDB.out; omega)) (wcells (Y)))
      go_wp2
      go_roundw
      case rel => exact ⟨i + 1, by go_num, HLT.out, Gd, by rw [HX.out]; exact Ga, Go, HB⟩
      case measure => have := HLT.out; simp [intOf]; omega
    · obtain rfl : i = n := by omega
      clear hlt hi
      have ca := cell_row Ga.out
      have HZ := Lib.hid (lt_of_heap Go.out)
      have sto := st_row (P := Try.prog) Go.out rfl (itN g a i)
      replace Gd := Lib.hid ((setRow_other (wr) (w.heap.size + 1) _ (wcells (itN g a i)) (by (have := HDB.out; omega))).trans Gd.out)
      replace Ga := Lib.hid ((setRow_other (wr) (w.heap.size + 1) _ (wcells (itN g a i)) (by (have := HDB.out; omega))).trans Ga.out)
      replace Go := Lib.hid (setRow_heap (wr) (w.heap.size + 1) _ (wcells (itN g a i)) _ _ Go.out)
      replace HB := Lib.hid (below_setRow' HB.out (show _ ≤ w.heap.size + 1 by (have := HDB.out; omega)) (wcells (itN g a i)))
      have cGd := cell_row Gd.out
      have cGa := cell_row Ga.out
      have cGo := cell_row Go.out
      go_wp2
      (try rw [Exit.noGoto_ret])
      (try rw [Exit.noGoto_ret])
      (try rw [Exit.noGoto_ret])
      exact bodyPost_ret (v := wv (itN g a i)) (res_c Try.results70 _ _ _ _ _ _ rfl Go.out aggW) rfl ⟨rfl, HB.out⟩
theorem twoN_lt (p : Int) (a : Nat) : twoN p a < M := by
  unfold twoN
  split
  · exact Nat.mod_lt _ M_pos
  · exact Nat.mod_lt _ M_pos
/-- One round of a reciprocal, as the program goes it. -/
def nwG (D y : Nat) : Nat := y * twoN 160 (D * y / P2 (clampP 128) % M) / P2 (clampP 160) % M
theorem nwG_lt (D y : Nat) : nwG D y < M := Nat.mod_lt _ M_pos
set_option maxRecDepth 100000 in
set_option maxHeartbeats 2000000 in
theorem roundN_any (Db D y : Nat) (w : World) (hDM : D < M) (hy : y < M) (hD : w.heap[Db]? = some (.cells (wcells D) 24 (0, 0))) :
    Calls Try.prog 72 #[wv y, .pointer (some ⟨Db, 0, none⟩)] w fun e w' => e = .returned (wv (nwG D y)) ∧ Below w.heap.size w w' := by
  have hA : D * y / P2 (clampP 128) % M < M := Nat.mod_lt _ M_pos
  have S1 := Lib.hid (fun w' => times_w D y 128 hDM hy w')
  have S2 := Lib.hid (fun w' => two_w 160 (D * y / P2 (clampP 128) % M) hA w')
  have S3 := Lib.hid (fun w' => times_w y (twoN 160 (D * y / P2 (clampP 128) % M)) 160 hy (twoN_lt _ _) w')
  unfold nwG
  obtain ⟨A, hAe⟩ : ∃ A, A = D * y / P2 (clampP 128) % M := ⟨_, rfl⟩
  rw [← hAe] at S1 S2 S3 ⊢
  obtain ⟨B, hB⟩ : ∃ B, B = twoN 160 A := ⟨_, rfl⟩
  rw [← hB] at S2 S3 ⊢
  obtain ⟨C, hC⟩ : ∃ C, C = y * B / P2 (clampP 160) % M := ⟨_, rfl⟩
  rw [← hC] at S3 ⊢
  have Gd := Lib.hid hD
  have HDB := Lib.hid (lt_of_heap hD)
  clear hDM hy hD hA hAe hB hC
  go_enter Try.func72, Try.ntmps72
  have HB := Lib.hid (Below.refl w.heap.size w)
  replace Gd := Lib.hid (keepAl (o' := .cells (wcells y) 24) Gd.out)
  have Gy := Lib.hid (alloc_new (w) (.cells (wcells y) 24))
  replace HB := Lib.hid (below_al HB.out (.cells (wcells y) 24))
  replace Gd := Lib.hid (keepAl (o' := .cells (wcells 0) 24) Gd.out)
  replace Gy := Lib.hid (keepAl (o' := .cells (wcells 0) 24) Gy.out)
  have Go := Lib.hid (alloc_new' (w := (w).alloc (.cells (wcells y) 24)) (n := w.heap.size + 1) (.cells (wcells 0) 24) (by simp))
  replace HB := Lib.hid (below_al HB.out (.cells (wcells 0) 24))
  have cGd := cell_row Gd.out
  have cGy := cell_row Gy.out
  have cGo := cell_row Go.out
  go_upto_region 1 with fail
  clear cGd cGy cGo
  obtain ⟨w2, hw⟩ : ∃ wx, wx = ((w).alloc (.cells (wcells y) 24)).alloc (.cells (wcells 0) 24) := ⟨_, rfl⟩
  rw [← hw] at Gd Gy Go HB ⊢
  clear hw
  refine wp_region_store [⟨w.heap.size + 1, 24, .tmp 9⟩] (by kernel_rfl) (by kernel_rfl) (by kernel_rfl) rfl (List.pairwise_singleton _ _) ?_ ?_
  · intro r hr
    simp only [List.mem_cons, List.not_mem_nil, or_false] at hr
    subst hr
    exact ⟨_, Go.out, by kernel_rfl⟩
  have xGd := extR_row (B := w2.heap.size) (R := [⟨w.heap.size + 1, 24, .tmp 9⟩]) Gd.out (lt_of_heap Gd.out) (by intro r hr; simp only [List.mem_cons, List.not_mem_nil, or_false] at hr; subst hr <;> dsimp only <;> (have := HDB.out; omega))
  have xGy := extR_row (B := w2.heap.size) (R := [⟨w.heap.size + 1, 24, .tmp 9⟩]) Gy.out (lt_of_heap Gy.out) (by intro r hr; simp only [List.mem_cons, List.not_mem_nil, or_false] at hr; subst hr <;> dsimp only <;> (have := HDB.out; omega))
  repeat (refine wpCalm_step (fun K hK => ?_); go_simp; first | (refine hK _ ?_; clear hK K) | (apply Exists.intro; refine ⟨fun _ => ?_, hK _ ?_⟩; (first | with_reducible exact S1.out _ | with_reducible exact S2.out _ | with_reducible exact S3.out _ | exact S1.out _ | exact S2.out _ | exact S3.out _); clear hK K))
  refine wpCalm_nil ⟨?_, fun x hx => ?_⟩
  · intro r hr
    simp only [List.mem_cons, List.not_mem_nil, or_false] at hr
    subst hr <;> exact fits_wv (by kernel_rfl) _
  replace Go : Hid (x.val.heap[w.heap.size + 1]? = some (.cells (wcells (C)) 24 (0, 0))) := Lib.hid (hx ⟨w.heap.size + 1, 24, .tmp 9⟩ (by simp))
  replace Gd := Lib.hid (extR_block x Gd.out (lt_of_heap Gd.out) (by intro r hr; simp only [List.mem_cons, List.not_mem_nil, or_false] at hr; subst hr <;> dsimp only <;> (have := HDB.out; omega)))
  replace Gy := Lib.hid (extR_block x Gy.out (lt_of_heap Gy.out) (by intro r hr; simp only [List.mem_cons, List.not_mem_nil, or_false] at hr; subst hr <;> dsimp only <;> (have := HDB.out; omega)))
  replace HB := Lib.hid (extR_below x HB.out HB.out.size (by intro r hr; simp only [List.mem_cons, List.not_mem_nil, or_false] at hr; subst hr <;> dsimp only <;> (have := HDB.out; omega)))
  clear hx xGd xGy
  obtain ⟨w3, hw⟩ : ∃ wx, wx = x.val := ⟨_, rfl⟩
  rw [← hw] at Gd Gy Go HB ⊢
  clear hw x
  have cGd := cell_row Gd.out
  have cGy := cell_row Gy.out
  have cGo := cell_row Go.out
  go_wp2
  (try rw [Exit.noGoto_ret])
  (try rw [Exit.noGoto_ret])
  (try rw [Exit.noGoto_ret])
  exact bodyPost_ret (v := wv C) (res_c Try.results72 _ _ _ _ _ _ rfl Go.out aggW) rfl ⟨rfl, HB.out⟩
theorem enters_roundN : Enters Try.prog 72 := fun args w => by simp [go_sem]
theorem nwG_eq {D k : Nat} (h : NwK D k) (h1 : P2 127 ≤ D) : nwG D (nwY D k) = nwY D (k + 1) := by
  have e1 : clampP 128 = 128 := by decide
  have e2 : clampP 160 = 160 := by decide
  have hl := h.less
  have hs := h.small h1
  have m161 : P2 161 < M := by rw [M_eq]; exact P2_lt (by omega)
  have m323 : P2 (162 + 161) < M := by rw [M_eq]; exact P2_lt (by omega)
  rw [nwY_succ]
  unfold nwG
  rw [e1, e2]
  obtain ⟨A, hA⟩ : ∃ A, A = D * nwY D k / P2 128 := ⟨_, rfl⟩
  rw [← hA] at hl ⊢
  rw [Nat.mod_eq_of_lt (show A < M by omega)]
  have e3 : twoN 160 A = P2 161 - A := by
    unfold twoN
    rw [if_neg (by decide)]
    show subN (P2 161) A = _
    unfold subN
    rw [show P2 161 + M - A = (P2 161 - A) + M by omega, Nat.add_mod_right, Nat.mod_eq_of_lt (by omega)]
  rw [e3]
  apply Nat.mod_eq_of_lt
  have g := Nat.mul_le_mul (Nat.le_of_lt hs) (Nat.sub_le (P2 161) A)
  rw [← P2_add] at g
  exact Nat.lt_of_le_of_lt (Nat.le_trans (Nat.div_le_self _ _) g) m323
theorem itN_nw {D : Nat} (hb : blen D = 128) (h1 : P2 127 ≤ D) (hD : D < P2 128) : ∀ k, itN (nwG D) (nwY D 0) k = nwY D k
  | 0 => rfl
  | k + 1 => by
    show nwG D (itN (nwG D) (nwY D 0) k) = _
    rw [itN_nw hb h1 hD k]
    exact nwG_eq (nw_all hb hD k) h1
end Go.Proofs.Ytegmmaaapdgocaa
