/- THE WALKS of gold: the first pair; a round; a pair behind some rounds. -/
import Derived.Test.YtegmmaaapdgocaaK27
import Derived.Test.YtegmmaaapdgocaaK25
import Derived.Test.YtegmmaaapdgocaaLooseT
import Derived.Test.YtegmmaaapdgocaaFlyN
import Derived.Test.YtegmmaaapdgocaaK28
namespace Go.Proofs.Ytegmmaaapdgocaa
open Go Go.RowKit

theorem aggGP : Agg Try.prog 64 16 := ⟨_, Try.underlying64, rfl, by kernel_rfl⟩
theorem makes_gp : Makes Try.prog 64 := fun w => ⟨fc 0 0, by go_simp, by kernel_rfl⟩
theorem two160_w (a : Nat) (ha : a ≤ P2 161) (w : World) : Calls Try.prog 66 #[.int .i64 160, wv a] w fun e w' => e = .returned (wv (P2 161 - a)) ∧ Below w.heap.size w w' := by
  have m161 : P2 161 < M := by rw [M_eq]; exact P2_lt (by omega)
  have := two_w 160 a (by omega) w
  rw [show twoN 160 a = P2 161 - a by
    unfold twoN
    rw [if_neg (by decide)]
    exact sub_plain ha m161] at this
  exact this
theorem small_small (a n : Nat) (ha : a < M) (hn : n ≤ 18446744073709551615) (h : a * n < M) (w : World) : Calls Try.prog 90 #[wv a, .int .u64 (n : Int)] w fun e w' => e = .returned (.tuple #[wv (a * n), .bool (decide (a * n < M))]) ∧ Below w.heap.size w w' := by
  have := smallP_w a n ha hn w
  rw [Nat.mod_eq_of_lt h] at this
  exact this
theorem gd_first_bounds {N D : Nat} (hN : N < P2 256) (hD : D < P2 128) : D * guessV D < P2 145 ∧ D * guessV D * P2 23 < P2 168 ∧ N * guessV D / P2 105 < P2 273 ∧ guessV D ≤ P2 17 := by
  have hg : guessV D ≤ P2 17 := by have := guessV_le D; rw [P2_eq]; exact this
  have h1 : D * guessV D < P2 145 := by
    have h := Nat.mul_le_mul_left D hg
    have h2 := Nat.mul_lt_mul_of_pos_right hD (P2_pos 17)
    rw [← P2_add] at h2
    exact Nat.lt_of_le_of_lt h h2
  have h2 := Nat.mul_lt_mul_of_pos_right h1 (P2_pos 23)
  rw [← P2_add] at h2
  have h3 : N * guessV D < P2 273 := by
    have h := Nat.mul_le_mul_left N hg
    have h2 := Nat.mul_lt_mul_of_pos_right hN (P2_pos 17)
    rw [← P2_add] at h2
    exact Nat.lt_of_le_of_lt h h2
  exact ⟨h1, h2, Nat.lt_of_le_of_lt (Nat.div_le_self _ _) h3, hg⟩
attribute [local go_sem ↓] Go.wp_at_zero Go.wp_at_succ
set_option maxRecDepth 100000 in
set_option maxHeartbeats 2000000 in
theorem firstG_w (g N D : Nat) (hN : N < P2 256) (hD : D < P2 128) (w : World) (h : IsRom w g) :
    Calls Try.prog 64 #[.agg #[.pointer (some ⟨g, 0, none⟩)], wv N, wv D] w fun e w' => e = .returned (.agg (fc (gdM N D 0) (gdD D 0))) ∧ VG g w w' := by
  obtain ⟨b1, b2, b3, b4⟩ := gd_first_bounds hN hD
  have hM : ∀ e, e < 512 → P2 e < M := fun e he => by rw [M_eq]; exact P2_lt he
  have h17 := hM 17 (by omega); have h145 := hM 145 (by omega); have h168 := hM 168 (by omega); have h273 := hM 273 (by omega); have h128 := hM 128 (by omega); have h256 := hM 256 (by omega)
  have hle := guessV_le D
  have S1 := Lib.hid (fun w' h => Calls.vOk h (guess_any g D (by omega) w' h))
  have S2 := Lib.hid (fun w' p h => of_one (guessV D) (by omega) w' p h)
  have S3 := Lib.hid (fun w' => small_small D (guessV D) (by omega) (by omega) (by omega) w')
  have S4 := Lib.hid (fun w' => timesI N (guessV D) 105 105 rfl (by omega) (by omega) (by decide) (by omega) w')
  have S5 : Hid (∀ w' : World, Calls Try.prog 43 #[wv (D * guessV D), .int .i64 23] w' fun e w'' => e = .returned (wv (D * guessV D * P2 23)) ∧ Below w'.heap.size w' w'') := Lib.hid fun w' => shlN_w (D * guessV D) 23 (by decide) (by omega) w'
  rw [show gdM N D 0 = N * guessV D / P2 105 from rfl, show gdD D 0 = D * guessV D * P2 23 from rfl]
  obtain ⟨A, hA⟩ : ∃ A, A = N * guessV D / P2 105 := ⟨_, rfl⟩
  rw [← hA] at S4 ⊢
  obtain ⟨B, hB⟩ : ∃ A, A = D * guessV D * P2 23 := ⟨_, rfl⟩
  rw [← hB] at S5 ⊢
  obtain ⟨E, hE⟩ : ∃ A, A = D * guessV D := ⟨_, rfl⟩
  rw [← hE] at S3 S5
  obtain ⟨f, hf⟩ : ∃ f, f = decide (E < M) := ⟨_, rfl⟩
  rw [← hf] at S3
  obtain ⟨v, hv⟩ : ∃ v, v = guessV D := ⟨_, rfl⟩
  rw [← hv] at S1 S2 S3 S4
  obtain ⟨b, hb⟩ : ∃ v, v = guessB D := ⟨_, rfl⟩
  rw [← hb] at S1
  have VB := Lib.hid (VG.refl h)
  clear hN hD h b1 b2 b3 b4 hM h17 h145 h168 h273 h128 h256 hle hA hB hE hf hv hb
  go_enter Try.func64, Try.ntmps64
  have Gs := Lib.hid (alloc_new (w) (.cells #[.pointer (some ⟨g, 0, none⟩)] 90))
  replace VB := Lib.hid (VB.out.al (.cells #[.pointer (some ⟨g, 0, none⟩)] 90))
  replace Gs := Lib.hid (keepAl (o' := .cells (wcells N) 24) Gs.out)
  have Gn := Lib.hid (alloc_new' (w := (w).alloc (.cells #[.pointer (some ⟨g, 0, none⟩)] 90)) (n := w.heap.size + 1) (.cells (wcells N) 24) (by simp))
  replace VB := Lib.hid (VB.out.al (.cells (wcells N) 24))
  replace Gs := Lib.hid (keepAl (o' := .cells (wcells D) 24) Gs.out)
  replace Gn := Lib.hid (keepAl (o' := .cells (wcells D) 24) Gn.out)
  have Gd := Lib.hid (alloc_new' (w := ((w).alloc (.cells #[.pointer (some ⟨g, 0, none⟩)] 90)).alloc (.cells (wcells N) 24)) (n := w.heap.size + 1 + 1) (.cells (wcells D) 24) (by simp))
  replace VB := Lib.hid (VB.out.al (.cells (wcells D) 24))
  replace Gs := Lib.hid (keepAl (o' := .cells (fc 0 0) 64) Gs.out)
  replace Gn := Lib.hid (keepAl (o' := .cells (fc 0 0) 64) Gn.out)
  replace Gd := Lib.hid (keepAl (o' := .cells (fc 0 0) 64) Gd.out)
  have Go := Lib.hid (alloc_new' (w := (((w).alloc (.cells #[.pointer (some ⟨g, 0, none⟩)] 90)).alloc (.cells (wcells N) 24)).alloc (.cells (wcells D) 24)) (n := w.heap.size + 1 + 1 + 1) (.cells (fc 0 0) 64) (by simp))
  replace VB := Lib.hid (VB.out.al (.cells (fc 0 0) 64))
  have cGs := cell_row Gs.out
  have cGn := cell_row Gn.out
  have cGd := cell_row Gd.out
  have cGo := cell_row Go.out
  go_wp2_with fail
  refine (S1.out _ VB.out.rom).mono ?_
  rintro e w1 ⟨rfl, hv⟩
  clear cGs cGn cGd cGo
  replace Gs := Lib.hid (hv.heap Gs.out (by have := VB.out.lt; (try have := HNE.out); (try have := HZ.out); omega))
  replace Gn := Lib.hid (hv.heap Gn.out (by have := VB.out.lt; (try have := HNE.out); (try have := HZ.out); omega))
  replace Gd := Lib.hid (hv.heap Gd.out (by have := VB.out.lt; (try have := HNE.out); (try have := HZ.out); omega))
  replace Go := Lib.hid (hv.heap Go.out (by have := VB.out.lt; (try have := HNE.out); (try have := HZ.out); omega))
  replace VB := Lib.hid (VB.out.trans hv)
  clear hv
  have cGn := cell_row Gn.out
  have cGd := cell_row Gd.out
  have cGo := cell_row Go.out
  go_wp2_with fail
  refine (S3.out _).mono ?_
  rintro e w2 ⟨rfl, hb⟩
  clear cGn cGd cGo
  replace VB := Lib.hid (VB.out.below hb)
  replace Gn := Lib.hid ((hb.block _ (lt_of_heap Gn.out)).trans Gn.out)
  replace Gd := Lib.hid ((hb.block _ (lt_of_heap Gd.out)).trans Gd.out)
  replace Go := Lib.hid ((hb.block _ (lt_of_heap Go.out)).trans Go.out)
  clear hb
  have HZ := Lib.hid (lt_of_heap Go.out)
  replace Gn := Lib.hid (keepAl (o' := .cells (wcells E) 24) Gn.out)
  replace Go := Lib.hid (keepAl (o' := .cells (wcells E) 24) Go.out)
  have Ge := Lib.hid (alloc_new (w2) (.cells (wcells E) 24))
  replace VB := Lib.hid (VB.out.al (.cells (wcells E) 24))
  have cGn := cell_row Gn.out
  have cGo := cell_row Go.out
  have cGe := cell_row Ge.out
  go_upto_region 3 with fail
  clear cGn cGo cGe
  obtain ⟨w3, hw⟩ : ∃ wx, wx = (w2).alloc (.cells (wcells E) 24) := ⟨_, rfl⟩
  rw [← hw] at Gn Go Ge VB ⊢
  clear hw
  have xGn := extg_row (g := g) (B := w3.heap.size) Gn.out (lt_of_heap Gn.out) (by have := VB.out.lt; (try have := HNE.out); (try have := HZ.out); omega)
  have xGo := extg_row (g := g) (B := w3.heap.size) Go.out (lt_of_heap Go.out) (by have := VB.out.lt; (try have := HNE.out); (try have := HZ.out); omega)
  have xGe := extg_row (g := g) (B := w3.heap.size) Ge.out (lt_of_heap Ge.out) (by have := VB.out.lt; (try have := HNE.out); (try have := HZ.out); omega)
  have hnx : Nonempty (ExtG g w3.heap.size w3) := ⟨⟨w3, BelowG.refl VB.out.rom _⟩⟩
  have hlx : ∀ x : ExtG g w3.heap.size w3, g < x.val.heap.size := fun x => x.property.rom.lt
  apply wp_region_headG g 8 VB.out.rom (looseRG (g := g) [_, _, _, _, _, _, _, _]) (pureL [1, 7])
  · kernel_rfl
  · kernel_rfl
  · kernel_rfl
  · exact looseRG_st _
  · change wpLG _ _ _ _ _ _ _ _ 8 0 _ _
    refine wpL_calmT w3 rfl rfl rfl rfl (fun K hK K0 hK0 => ?_)
    go_simp
    first | refine hK _ _ rfl rfl ?_ | refine hK0 _ rfl ?_
    clear hK hK0 K K0
    refine wpL_pureT w3 rfl rfl rfl rfl (fun K hK K0 hK0 => ?_)
    go_simp
    first | refine hK _ _ rfl rfl ?_ | refine hK0 _ rfl ?_
    clear hK hK0 K K0
    refine wpL_rowT w3 (fun g => .slice (some ⟨g, 0, none⟩) 1 1) (.cells #[.int .u64 (v : Int)] 22) (fun _ => rfl) rfl rfl rfl rfl (by first | rfl | go_simp) rfl (by rintro w' ⟨x, rfl⟩; go_simp) (by rintro w' ⟨x, rfl⟩; exact hlx x) (fun g2 => ?_)
    refine wpL_vcallT (wv v) w3 rfl rfl rfl rfl (by first | rfl | go_simp) rfl (fun w' hC hF => ?_) ?_
    · obtain ⟨x, rfl⟩ := hC
      go_simp
      go_at_call 59
      exact valG _ (S2.out _ g2 (hF 2 _ 26 rfl rfl rfl rfl (by decide)).2.2)
    refine wpL_calmT w3 rfl rfl rfl rfl (fun K hK K0 hK0 => ?_)
    go_simp
    apply Exists.intro
    apply And.intro
    · intro x
      go_at_call 58
      with_reducible exact Calls.stepG _ (S4.out _)
    refine hK _ _ rfl rfl ?_
    clear hK hK0 K K0
    refine wpL_calmT w3 rfl rfl rfl rfl (fun K hK K0 hK0 => ?_)
    go_simp
    first | refine hK _ _ rfl rfl ?_ | refine hK0 _ rfl ?_
    clear hK hK0 K K0
    refine wpL_calmT w3 rfl rfl rfl rfl (fun K hK K0 hK0 => ?_)
    go_simp
    apply Exists.intro
    apply And.intro
    · intro x
      go_at_call 43
      with_reducible exact Calls.stepG _ (S5.out _)
    refine hK _ _ rfl rfl ?_
    clear hK hK0 K K0
    refine wpL_pureT w3 rfl rfl rfl rfl (fun K hK K0 hK0 => ?_)
    go_simp
    first | refine hK _ _ rfl rfl ?_ | refine hK0 _ rfl ?_
    clear hK hK0 K K0
    refine wpL_nilG (fun w4 hv => ?_)
    simp only [List.drop_succ_cons, List.drop_zero]
    replace Gn := Lib.hid ((hv.block _ (lt_of_heap Gn.out) (by have := VB.out.lt; (try have := HNE.out); (try have := HZ.out); omega)).trans Gn.out)
    replace Go := Lib.hid ((hv.block _ (lt_of_heap Go.out) (by have := VB.out.lt; (try have := HNE.out); (try have := HZ.out); omega)).trans Go.out)
    replace Ge := Lib.hid ((hv.block _ (lt_of_heap Ge.out) (by have := VB.out.lt; (try have := HNE.out); (try have := HZ.out); omega)).trans Ge.out)
    replace VB := Lib.hid (VB.out.trans' hv)
    clear hv xGn xGo xGe hnx hlx
    have sto := st_16 (P := Try.prog) Go.out rfl (A) (B)
    replace Go := Lib.hid (setRow_heap (w4) (w.heap.size + 1 + 1 + 1) _ (fc (A) (B)) _ _ Go.out)
    replace VB := Lib.hid (VB.out.row (show _ ≤ w.heap.size + 1 + 1 + 1 by (omega)) (fc (A) (B)))
    have cGo := cell_row Go.out
    go_wp2
    exact bodyPost_ret (v := .agg (fc A B)) (res_c Try.results64 _ _ _ _ _ _ rfl Go.out aggGP) rfl ⟨rfl, VB.out⟩
set_option maxRecDepth 100000 in
set_option maxHeartbeats 2000000 in
theorem roundG_any (N D k : Nat) (hb : blen D = 128) (hD : 0 < D) (hN : N ≤ D * P2 128) (hk : k ≤ 10) (w : World) :
    Calls Try.prog 65 #[.agg (fc (gdM N D k) (gdD D k))] w fun e w' => e = .returned (.agg (fc (gdM N D (k + 1)) (gdD D (k + 1)))) ∧ Below w.heap.size w w' := by
  have b1 := (gd_all hb k).le
  have b2 := gdM_small hb hN hk hD
  have hM : ∀ e, e < 512 → P2 e < M := fun e he => by rw [M_eq]; exact P2_lt he
  have h161 := hM 161 (by omega); have h162 := hM 162 (by omega)
  have hF : P2 161 - gdD D k ≤ P2 161 := Nat.sub_le _ _
  have h1 : gdM N D k * (P2 161 - gdD D k) / P2 160 < M := by
    have h := Nat.mul_lt_mul_of_lt_of_le b2 hF (P2_pos _)
    rw [← P2_add] at h
    exact Nat.lt_of_le_of_lt (Nat.div_le_self _ _) (Nat.lt_trans h (hM _ (by omega)))
  have h2 : gdD D k * (P2 161 - gdD D k) / P2 160 < M := by
    have h := Nat.mul_le_mul b1 hF
    rw [← P2_add] at h
    exact Nat.lt_of_le_of_lt (Nat.div_le_self _ _) (Nat.lt_of_le_of_lt h (hM _ (by omega)))
  have S1 := Lib.hid (fun w' => two160_w (gdD D k) b1 w')
  have S2 := Lib.hid (fun w' => timesI (gdM N D k) (P2 161 - gdD D k) 160 160 rfl (by omega) (by omega) (by decide) h1 w')
  have S3 := Lib.hid (fun w' => timesI (gdD D k) (P2 161 - gdD D k) 160 160 rfl (by omega) (by omega) (by decide) h2 w')
  rw [gdM_succ, gdD_succ]
  obtain ⟨A, hA⟩ : ∃ A, A = gdM N D k * (P2 161 - gdD D k) / P2 160 := ⟨_, rfl⟩
  obtain ⟨B, hB⟩ : ∃ A, A = gdD D k * (P2 161 - gdD D k) / P2 160 := ⟨_, rfl⟩
  rw [← hA] at S2 ⊢
  rw [← hB] at S3 ⊢
  obtain ⟨F, hFe⟩ : ∃ A, A = P2 161 - gdD D k := ⟨_, rfl⟩
  rw [← hFe] at S1 S2 S3
  obtain ⟨X, hX⟩ : ∃ A, A = gdM N D k := ⟨_, rfl⟩
  obtain ⟨Y, hY⟩ : ∃ A, A = gdD D k := ⟨_, rfl⟩
  rw [← hX] at S2 ⊢
  rw [← hY] at S1 S3 ⊢
  clear hb hD hN hk b1 b2 hM h161 h162 hF h1 h2 hA hB hFe hX hY
  go_enter Try.func65, Try.ntmps65
  have HB := Lib.hid (Below.refl w.heap.size w)
  have Gp := Lib.hid (alloc_new (w) (.cells (fc X Y) 64))
  replace HB := Lib.hid (below_al HB.out (.cells (fc X Y) 64))
  replace Gp := Lib.hid (keepAl (o' := .cells (fc 0 0) 64) Gp.out)
  have Go := Lib.hid (alloc_new' (w := (w).alloc (.cells (fc X Y) 64)) (n := w.heap.size + 1) (.cells (fc 0 0) 64) (by simp))
  replace HB := Lib.hid (below_al HB.out (.cells (fc 0 0) 64))
  have cGp := cell_row Gp.out
  have cGo := cell_row Go.out
  go_wp2_with fail
  refine (S1.out _).mono ?_
  rintro e w5 ⟨rfl, hb⟩
  clear cGp cGo
  replace HB := Lib.hid (below_then HB.out hb)
  replace Gp := Lib.hid ((hb.block _ (lt_of_heap Gp.out)).trans Gp.out)
  replace Go := Lib.hid ((hb.block _ (lt_of_heap Go.out)).trans Go.out)
  clear hb
  have HZ := Lib.hid (lt_of_heap Go.out)
  replace Gp := Lib.hid (keepAl (o' := .cells (wcells F) 24) Gp.out)
  replace Go := Lib.hid (keepAl (o' := .cells (wcells F) 24) Go.out)
  have Gf := Lib.hid (alloc_new (w5) (.cells (wcells F) 24))
  replace HB := Lib.hid (below_al HB.out (.cells (wcells F) 24))
  have cGp := cell_row Gp.out
  have cGo := cell_row Go.out
  have cGf := cell_row Gf.out
  go_upto_region 2 with fail
  clear cGp cGo cGf
  obtain ⟨w6, hw⟩ : ∃ wx, wx = (w5).alloc (.cells (wcells F) 24) := ⟨_, rfl⟩
  rw [← hw] at Gp Go Gf HB ⊢
  clear hw
  refine wp_region_store [⟨w.heap.size + 1, 64, .tmp 15⟩] (by kernel_rfl) (by kernel_rfl) (by kernel_rfl) rfl (List.pairwise_singleton _ _) ?_ ?_
  · intro r hr
    simp only [List.mem_cons, List.not_mem_nil, or_false] at hr
    subst hr
    exact ⟨_, Go.out, by kernel_rfl⟩
  have xGp := extR_row (B := w6.heap.size) (R := [⟨w.heap.size + 1, 64, .tmp 15⟩]) Gp.out (lt_of_heap Gp.out) (by intro r hr; simp only [List.mem_cons, List.not_mem_nil, or_false] at hr; subst hr <;> dsimp only <;> (have := HZ.out; omega))
  have xGf := extR_row (B := w6.heap.size) (R := [⟨w.heap.size + 1, 64, .tmp 15⟩]) Gf.out (lt_of_heap Gf.out) (by intro r hr; simp only [List.mem_cons, List.not_mem_nil, or_false] at hr; subst hr <;> dsimp only <;> (have := HZ.out; omega))
  repeat (refine wpCalm_step (fun K hK => ?_); go_simp; first | (refine hK _ ?_; clear hK K) | (apply Exists.intro; refine ⟨fun _ => ?_, hK _ ?_⟩; (first | with_reducible exact S2.out _ | with_reducible exact S3.out _ | exact S2.out _ | exact S3.out _); clear hK K))
  refine wpCalm_nil ⟨?_, fun x hx => ?_⟩
  · intro r hr
    simp only [List.mem_cons, List.not_mem_nil, or_false] at hr
    subst hr <;> first | exact fits_wv (by kernel_rfl) _ | exact fits_16 (by kernel_rfl) _ _
  replace Go : Hid (x.val.heap[w.heap.size + 1]? = some (.cells (fc (A) (B)) 64 (0, 0))) := Lib.hid (hx ⟨w.heap.size + 1, 64, .tmp 15⟩ (by simp))
  replace Gp := Lib.hid (extR_block x Gp.out (lt_of_heap Gp.out) (by intro r hr; simp only [List.mem_cons, List.not_mem_nil, or_false] at hr; subst hr <;> dsimp only <;> (have := HZ.out; omega)))
  replace Gf := Lib.hid (extR_block x Gf.out (lt_of_heap Gf.out) (by intro r hr; simp only [List.mem_cons, List.not_mem_nil, or_false] at hr; subst hr <;> dsimp only <;> (have := HZ.out; omega)))
  replace HB := Lib.hid (extR_below x HB.out HB.out.size (by intro r hr; simp only [List.mem_cons, List.not_mem_nil, or_false] at hr; subst hr <;> dsimp only <;> (have := HZ.out; omega)))
  clear hx xGp xGf
  obtain ⟨w7, hw⟩ : ∃ wx, wx = x.val := ⟨_, rfl⟩
  rw [← hw] at Gp Go Gf HB ⊢
  clear hw x
  have cGp := cell_row Gp.out
  have cGo := cell_row Go.out
  have cGf := cell_row Gf.out
  go_wp2
  exact bodyPost_ret (v := .agg (fc A B)) (res_c Try.results65 _ _ _ _ _ _ rfl Go.out aggGP) rfl ⟨rfl, HB.out⟩
theorem enters_roundG : Enters Try.prog 65 := fun args w => by simp [go_sem]
set_option maxRecDepth 100000 in
set_option maxHeartbeats 4000000 in
theorem pairG_w (e g n d k : Nat) (hm : mayN n d = 0) (hk : k ≤ 10) (w : World) (hE : w.heap[e]? = some (.cells #[.pointer (some ⟨g, 0, none⟩)] 92 (0, 0))) (hI : IsRom w g) (hne : e ≠ g) :
    Calls Try.prog 32 #[.pointer (some ⟨e, 0, none⟩), wv n, wv d, .int .i64 (k : Int)] w fun x w' => x = .returned (.agg (fc (gdM (n * P2 (128 - blen d)) (d * P2 (128 - blen d)) k) (gdD (d * P2 (128 - blen d)) k))) ∧ VG g w w' := by
  obtain ⟨m1, m2, m3⟩ := may_ok hm
  obtain ⟨r1, r2, r3, _⟩ := shift_range hm
  have hb := up_len hm
  have hN := may_N hm
  have hD0 : 0 < d * P2 (128 - blen d) := Nat.lt_of_lt_of_le (P2_pos _) r1
  have h256 : P2 256 < M := by rw [M_eq]; exact P2_lt (by omega)
  have S1 := Lib.hid (fun w' => normT_yes d (by omega) m2 w')
  have S2 := Lib.hid (fun w' => shlN_w n (128 - blen d) (by omega) (by omega) w')
  have S3 := Lib.hid (fun w' h => firstG_w g (n * P2 (128 - blen d)) (d * P2 (128 - blen d)) hN r2 w' h)
  have S4 := Lib.hid (fun i (hi : i ≤ 10) w' => roundG_any (n * P2 (128 - blen d)) (d * P2 (128 - blen d)) i hb hD0 (Nat.le_of_lt r3) hi w')
  obtain ⟨F1, hF1⟩ : ∃ F : Nat → Nat, F = gdM (n * P2 (128 - blen d)) (d * P2 (128 - blen d)) := ⟨_, rfl⟩
  obtain ⟨F2, hF2⟩ : ∃ F : Nat → Nat, F = gdD (d * P2 (128 - blen d)) := ⟨_, rfl⟩
  rw [← hF1, ← hF2] at S3 S4 ⊢
  obtain ⟨N, hNe⟩ : ∃ q, q = n * P2 (128 - blen d) := ⟨_, rfl⟩
  rw [← hNe] at S2 S3
  obtain ⟨D, hDe⟩ : ∃ q, q = d * P2 (128 - blen d) := ⟨_, rfl⟩
  rw [← hDe] at S1 S3
  obtain ⟨b, hbe⟩ : ∃ q, q = 128 - blen d := ⟨_, rfl⟩
  rw [← hbe] at S1 S2
  have HK := Lib.hid hk
  have VB := Lib.hid (VG.refl hI)
  have Ge := Lib.hid hE
  have HNE := Lib.hid hne
  have HEL := Lib.hid (lt_of_heap hE)
  clear hm hk hE hI hne m1 m2 m3 r1 r2 r3 hb hN hD0 h256 hF1 hF2 hNe hDe hbe
  go_enter Try.func32, Try.ntmps32
  replace Ge := Lib.hid (keepAl (o' := .cells (wcells n) 24) Ge.out)
  have Gn := Lib.hid (alloc_new (w) (.cells (wcells n) 24))
  replace VB := Lib.hid (VB.out.al (.cells (wcells n) 24))
  replace Ge := Lib.hid (keepAl (o' := .cells (wcells d) 24) Ge.out)
  replace Gn := Lib.hid (keepAl (o' := .cells (wcells d) 24) Gn.out)
  have Gd := Lib.hid (alloc_new' (w := (w).alloc (.cells (wcells n) 24)) (n := w.heap.size + 1) (.cells (wcells d) 24) (by simp))
  replace VB := Lib.hid (VB.out.al (.cells (wcells d) 24))
  replace Ge := Lib.hid (keepAl (o' := .cells (fc 0 0) 64) Ge.out)
  replace Gn := Lib.hid (keepAl (o' := .cells (fc 0 0) 64) Gn.out)
  replace Gd := Lib.hid (keepAl (o' := .cells (fc 0 0) 64) Gd.out)
  have Go := Lib.hid (alloc_new' (w := ((w).alloc (.cells (wcells n) 24)).alloc (.cells (wcells d) 24)) (n := w.heap.size + 1 + 1) (.cells (fc 0 0) 64) (by simp))
  replace VB := Lib.hid (VB.out.al (.cells (fc 0 0) 64))
  have cGe := cell_row Ge.out
  have cGn := cell_row Gn.out
  have cGd := cell_row Gd.out
  have cGo := cell_row Go.out
  go_wp2_with fail
  refine (S1.out _).mono ?_
  rintro e w8 ⟨rfl, hb⟩
  clear cGe cGn cGd cGo
  replace VB := Lib.hid (VB.out.below hb)
  replace Ge := Lib.hid ((hb.block _ (lt_of_heap Ge.out)).trans Ge.out)
  replace Gn := Lib.hid ((hb.block _ (lt_of_heap Gn.out)).trans Gn.out)
  replace Gd := Lib.hid ((hb.block _ (lt_of_heap Gd.out)).trans Gd.out)
  replace Go := Lib.hid ((hb.block _ (lt_of_heap Go.out)).trans Go.out)
  clear hb
  have std := st_row (P := Try.prog) Gd.out rfl (D)
  replace Ge := Lib.hid ((setRow_other (w8) (w.heap.size + 1) _ (wcells (D)) (by (have := HEL.out; omega))).trans Ge.out)
  replace Gn := Lib.hid ((setRow_other (w8) (w.heap.size + 1) _ (wcells (D)) (by (have := HEL.out; omega))).trans Gn.out)
  replace Go := Lib.hid ((setRow_other (w8) (w.heap.size + 1) _ (wcells (D)) (by (have := HEL.out; omega))).trans Go.out)
  replace Gd := Lib.hid (setRow_heap (w8) (w.heap.size + 1) _ (wcells (D)) _ _ Gd.out)
  replace VB := Lib.hid (VB.out.row (show _ ≤ w.heap.size + 1 by (have := HEL.out; omega)) (wcells (D)))
  have cGe := cell_row Ge.out
  have cGn := cell_row Gn.out
  have cGd := cell_row Gd.out
  have cGo := cell_row Go.out
  go_upto_region 2 with fail
  clear cGe cGn cGd cGo std
  obtain ⟨wK, hw⟩ : ∃ wx, wx = (w8).setRow (w.heap.size + 1) (wcells (D)) := ⟨_, rfl⟩
  rw [← hw] at Ge Gn Gd Go VB ⊢
  clear hw
  have HZ := Lib.hid (lt_of_heap Go.out)
  have xGe := extg_row (g := g) (B := wK.heap.size) Ge.out (lt_of_heap Ge.out) (by have := VB.out.lt; (try have := HNE.out); (try have := HZ.out); omega)
  have xGn := extg_row (g := g) (B := wK.heap.size) Gn.out (lt_of_heap Gn.out) (by have := VB.out.lt; (try have := HNE.out); (try have := HZ.out); omega)
  have xGd := extg_row (g := g) (B := wK.heap.size) Gd.out (lt_of_heap Gd.out) (by have := VB.out.lt; (try have := HNE.out); (try have := HZ.out); omega)
  have xGo := extg_row (g := g) (B := wK.heap.size) Go.out (lt_of_heap Go.out) (by have := VB.out.lt; (try have := HNE.out); (try have := HZ.out); omega)
  have hnx : Nonempty (ExtG g wK.heap.size wK) := ⟨⟨wK, BelowG.refl VB.out.rom _⟩⟩
  apply wp_region_looseG VB.out.rom (looseRV [_, _, _, _, _, _, _, _, _, undef, undef]) (pureL [0, 1, 2, 5])
  · kernel_rfl
  · kernel_rfl
  · kernel_rfl
  · exact allocs_ok [64] rfl (by intro T hT; simp only [List.mem_cons, List.not_mem_nil, or_false] at hT; subst hT; exact makes_gp)
  · exact looseRV_st _ _
  · change wpLG _ _ _ _ _ _ _ _ 11 0 _ _
    refine wpL_pureG wK rfl rfl rfl rfl (fun K hK K0 hK0 => ?_)
    go_simp
    first | refine hK _ _ rfl rfl ?_ | refine hK0 _ rfl ?_
    clear hK hK0 K K0
    refine wpL_pureG wK rfl rfl rfl rfl (fun K hK K0 hK0 => ?_)
    go_simp
    first | refine hK _ _ rfl rfl ?_ | refine hK0 _ rfl ?_
    clear hK hK0 K K0
    refine wpL_pureG wK rfl rfl rfl rfl (fun K hK K0 hK0 => ?_)
    go_simp
    first | refine hK _ _ rfl rfl ?_ | refine hK0 _ rfl ?_
    clear hK hK0 K K0
    refine wpL_calmG wK rfl rfl rfl rfl (fun K hK K0 hK0 => ?_)
    go_simp
    first | refine hK _ _ rfl rfl ?_ | refine hK0 _ rfl ?_
    clear hK hK0 K K0
    refine wpL_calmG wK rfl rfl rfl rfl (fun K hK K0 hK0 => ?_)
    go_simp
    first | refine hK _ _ rfl rfl ?_ | refine hK0 _ rfl ?_
    clear hK hK0 K K0
    refine wpL_pureG wK rfl rfl rfl rfl (fun K hK K0 hK0 => ?_)
    go_simp
    first | refine hK _ _ rfl rfl ?_ | refine hK0 _ rfl ?_
    clear hK hK0 K K0
    refine wpL_calmG wK rfl rfl rfl rfl (fun K hK K0 hK0 => ?_)
    go_simp
    apply Exists.intro
    apply And.intro
    · intro x
      go_at_call 43
      with_reducible exact Calls.stepG _ (S2.out _)
    refine hK _ _ rfl rfl ?_
    clear hK hK0 K K0
    refine wpL_calmG wK rfl rfl rfl rfl (fun K hK K0 hK0 => ?_)
    go_simp
    first | refine hK _ _ rfl rfl ?_ | refine hK0 _ rfl ?_
    clear hK hK0 K K0
    refine wpL_calmG wK rfl rfl rfl rfl (fun K hK K0 hK0 => ?_)
    go_simp
    apply Exists.intro
    apply And.intro
    · intro x
      go_at_call 64
      with_reducible exact Calls.stepV (S3.out _ (extg_rom _))
    refine hK _ _ rfl rfl ?_
    clear hK hK0 K K0
    refine wpL_allocG rfl rfl rfl rfl (fun g9 hg9 => ?_)
    refine wpL_storeG rfl rfl ?_
    refine wpL_nilG (endLG [(64, .tmp 11, .tmp 27)] rfl (by intro q hq; simp only [List.mem_cons, List.not_mem_nil, or_false] at hq; subst hq; first | exact fits_wv (by kernel_rfl) _ | exact fits_16 (by kernel_rfl) _ _) (fun w9 hv hst hap hfin => ?_))
    have Gp : Hid (w9.heap[g9]? = some (.cells (fc (F1 0) (F2 0)) 64 (0, 0))) := Lib.hid (hst 10 _ _ _ _ g9 rfl rfl rfl)
    replace Ge := Lib.hid ((hv.block _ (lt_of_heap Ge.out) (by have := VB.out.lt; (try have := HNE.out); (try have := HZ.out); omega)).trans Ge.out)
    replace Gn := Lib.hid ((hv.block _ (lt_of_heap Gn.out) (by have := VB.out.lt; (try have := HNE.out); (try have := HZ.out); omega)).trans Gn.out)
    replace Gd := Lib.hid ((hv.block _ (lt_of_heap Gd.out) (by have := VB.out.lt; (try have := HNE.out); (try have := HZ.out); omega)).trans Gd.out)
    replace Go := Lib.hid ((hv.block _ (lt_of_heap Go.out) (by have := VB.out.lt; (try have := HNE.out); (try have := HZ.out); omega)).trans Go.out)
    have HG9 := Lib.hid hg9
    replace VB := Lib.hid (VB.out.trans' hv)
    clear hv hst hap hfin xGe xGn xGd xGo hnx
    clear hg9
    go_wp2
    clear Ge Gn Gd
    obtain ⟨wq, hw⟩ : ∃ wx, wx = w9 := ⟨_, rfl⟩
    rw [← hw] at Go Gp VB ⊢
    clear hw
    go_loopw [29] (fun s29 wr => ∃ i : Nat, s29 = .int .i64 (i : Int) ∧ i ≤ k ∧ Hid (wr.heap[g9]? = some (.cells (fc (F1 i) (F2 i)) 64 (0, 0))) ∧ Hid (wr.heap[w.heap.size + 1 + 1]? = some (.cells (fc 0 0) 64 (0, 0))) ∧ Hid (VG g w wr)) (fun s29 _ => k - (intOf s29).toNat)
    case atStart => exact ⟨0, rfl, Nat.zero_le _, Gp, Go, VB⟩
    case round =>
      clear VB Gp Go
      obtain ⟨i, rfl, hi, Gp, Go, VB⟩ := hrel
      have hkk := HK.out
      by_cases hlt : i < k
      · have e1 : (i : Int) < (k : Int) := by omega
        have e2 : IntKind.i64.wrap ((i : Int) + 1) = ((i + 1 : Nat) : Int) := by rw [IntWalk.i64_in _ (by omega)]; omega
        have HLT := Lib.hid hlt
        have T2 := Lib.hid (S4.out i (by omega))
        obtain ⟨A, hA⟩ : ∃ Y, Y = F1 (i + 1) := ⟨_, rfl⟩
        obtain ⟨B, hB⟩ : ∃ Y, Y = F2 (i + 1) := ⟨_, rfl⟩
        rw [← hA, ← hB] at T2
        have HA := Lib.hid hA; have HB := Lib.hid hB
        clear hlt hi hkk hA hB
        have cGp := cell_row Gp.out
        have cGo := cell_row Go.out
        go_wp2_with fail
        refine (T2.out _).mono ?_
        rintro e w10 ⟨rfl, hb⟩
        clear cGp cGo
        replace VB := Lib.hid (VB.out.below hb)
        replace Gp := Lib.hid ((hb.block _ (lt_of_heap Gp.out)).trans Gp.out)
        replace Go := Lib.hid ((hb.block _ (lt_of_heap Go.out)).trans Go.out)
        clear hb
        have HZ2 := Lib.hid (lt_of_heap Gp.out)
        have stp := st_16 (P := Try.prog) Gp.out rfl (A) (B)
        replace Go := Lib.hid ((setRow_other (w10) (g9) _ (fc (A) (B)) (by (have := HZ.out; have := HG9.out; omega))).trans Go.out)
        replace Gp := Lib.hid (setRow_heap (w10) (g9) _ (fc (A) (B)) _ _ Gp.out)
        replace VB := Lib.hid (VB.out.row (show _ ≤ g9 by (have := HZ.out; have := HG9.out; omega)) (fc (A) (B)))
        go_wp2
        go_roundw
        case rel => exact ⟨i + 1, by go_num, HLT.out, by rw [← HA.out, ← HB.out]; exact Gp, Go, VB⟩
        case measure => have := HLT.out; simp [intOf]; omega
      · obtain rfl : i = k := by omega
        clear hlt hi hkk
        have q1 := cell_row Gp.out
        have sto := st_16 (P := Try.prog) Go.out rfl (F1 i) (F2 i)
        replace Gp := Lib.hid ((setRow_other (wr) (w.heap.size + 1 + 1) _ (fc (F1 i) (F2 i)) (by (have := HZ.out; have := HG9.out; omega))).trans Gp.out)
        replace Go := Lib.hid (setRow_heap (wr) (w.heap.size + 1 + 1) _ (fc (F1 i) (F2 i)) _ _ Go.out)
        replace VB := Lib.hid (VB.out.row (show _ ≤ w.heap.size + 1 + 1 by (have := HZ.out; have := HG9.out; omega)) (fc (F1 i) (F2 i)))
        have cGp := cell_row Gp.out
        have cGo := cell_row Go.out
        go_wp2
        (try rw [Exit.noGoto_ret])
        (try rw [Exit.noGoto_ret])
        (try rw [Exit.noGoto_ret])
        exact bodyPost_ret (v := .agg (fc (F1 i) (F2 i))) (res_c Try.results32 _ _ _ _ _ _ rfl Go.out aggGP) rfl ⟨rfl, VB.out⟩
end Go.Proofs.Ytegmmaaapdgocaa
