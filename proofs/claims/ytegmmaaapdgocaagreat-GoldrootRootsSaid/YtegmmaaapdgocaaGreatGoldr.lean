/- THE WALKS of goldroot: the first pair; a round; a pair behind some rounds. -/
import Derived.Test.YtegmmaaapdgocaaGreatK28
import Derived.Test.YtegmmaaapdgocaaGreatK25
import Derived.Test.YtegmmaaapdgocaaGreatLooseT
import Derived.Test.YtegmmaaapdgocaaGreatFlyN
import Derived.Test.YtegmmaaapdgocaaGreatK16
namespace Go.Proofs.YtegmmaaapdgocaaGreat
open Go Go.RowKit

theorem aggRP : Agg Tryz.prog 124 16 := ⟨_, Tryz.underlying124, rfl, by kernel_rfl⟩
theorem makes_rp : Makes Tryz.prog 124 := fun w => ⟨fc 0 0, by go_simp, by kernel_rfl⟩
theorem pow_at (c : Nat) (k : Int) (hk : k = (c : Int)) (hc : c < 512) (w : World) : Calls Tryz.prog 130 #[.int .i64 k] w fun e w' => e = .returned (wv (P2 c)) ∧ Below w.heap.size w w' := by
  subst hk
  have := power_w (c : Int) w (by omega) (by omega)
  rw [show powerN (c : Int) = P2 c by unfold powerN; rw [if_pos (by omega)]; rfl] at this
  exact this
theorem half_sum : P2 160 + P2 159 < P2 162 := by
  have h1 : P2 159 ≤ P2 160 := P2_le (by omega)
  have h2 : P2 160 + P2 160 = P2 161 := by rw [P2_twice 160]; omega
  have h3 : P2 161 < P2 162 := P2_lt (by omega)
  omega
attribute [local go_sem ↓] Go.wp_at_zero Go.wp_at_succ
set_option maxRecDepth 100000 in
set_option maxHeartbeats 2000000 in
theorem firstR_w (g U : Nat) (hU : U < P2 256) (w : World) (h : IsRom w g) :
    Calls Tryz.prog 78 #[.agg #[.pointer (some ⟨g, 0, none⟩)], wv U] w fun e w' => e = .returned (.agg (fc (grG U 0) (grH U 0))) ∧ VG g w w' := by
  have hM : ∀ e, e < 512 → P2 e < M := fun e he => by rw [M_eq]; exact P2_lt he
  have h256 := hM 256 (by omega)
  have h267 := hM 267 (by omega)
  have hle := guessRV_le U
  have h11 : guessRV U ≤ P2 11 := by rw [P2_eq]; omega
  have hUg : U * guessRV U < P2 267 := by
    have a := Nat.mul_le_mul_left U h11
    have b := Nat.mul_lt_mul_of_pos_right hU (P2_pos 11)
    rw [← P2_add] at b
    exact Nat.lt_of_le_of_lt a b
  have S1 := Lib.hid (fun w' h => Calls.vOk h (guessRoot_any g U (by omega) w' h))
  have hgM : guessRV U < M := by have := hM 11 (by omega); omega
  have S2 := Lib.hid (fun w' p h => of_one (guessRV U) (by omega) w' p h)
  have S4 := Lib.hid (fun w' => timesI U (guessRV U) 105 105 rfl (by omega) hgM (by decide) (Nat.lt_of_le_of_lt (Nat.div_le_self _ _) (by omega)) w')
  have S5 : Hid (∀ w' : World, Calls Tryz.prog 86 #[wv (guessRV U), .int .i64 150] w' fun e w'' => e = .returned (wv (guessRV U * P2 150)) ∧ Below w'.heap.size w' w'') := Lib.hid fun w' => shlN_w (guessRV U) 150 (by decide) (guessR_p2 U 150 (by omega)) w'
  rw [show grG U 0 = U * guessRV U / P2 105 from rfl, show grH U 0 = guessRV U * P2 150 from rfl]
  obtain ⟨A, hA⟩ : ∃ A, A = U * guessRV U / P2 105 := ⟨_, rfl⟩
  rw [← hA] at S4 ⊢
  obtain ⟨B, hB⟩ : ∃ A, A = guessRV U * P2 150 := ⟨_, rfl⟩
  rw [← hB] at S5 ⊢
  obtain ⟨v, hv⟩ : ∃ v, v = guessRV U := ⟨_, rfl⟩
  rw [← hv] at S1 S2 S4 S5
  obtain ⟨b, hb⟩ : ∃ v, v = guessRB U := ⟨_, rfl⟩
  rw [← hb] at S1
  have VB := Lib.hid (VG.refl h)
  clear hU h hM h256 h267 hle h11 hUg hgM hA hB hv hb
  go_enter Tryz.func78, Tryz.ntmps78
  have Gs := Lib.hid (alloc_new (w) (.cells #[.pointer (some ⟨g, 0, none⟩)] 113))
  replace VB := Lib.hid (VB.out.al (.cells #[.pointer (some ⟨g, 0, none⟩)] 113))
  replace Gs := Lib.hid (keepAl (o' := .cells (wcells U) 24) Gs.out)
  have Gn := Lib.hid (alloc_new' (w := (w).alloc (.cells #[.pointer (some ⟨g, 0, none⟩)] 113)) (n := w.heap.size + 1) (.cells (wcells U) 24) (by simp))
  replace VB := Lib.hid (VB.out.al (.cells (wcells U) 24))
  replace Gs := Lib.hid (keepAl (o' := .cells (fc 0 0) 124) Gs.out)
  replace Gn := Lib.hid (keepAl (o' := .cells (fc 0 0) 124) Gn.out)
  have Go := Lib.hid (alloc_new' (w := ((w).alloc (.cells #[.pointer (some ⟨g, 0, none⟩)] 113)).alloc (.cells (wcells U) 24)) (n := w.heap.size + 1 + 1) (.cells (fc 0 0) 124) (by simp))
  replace VB := Lib.hid (VB.out.al (.cells (fc 0 0) 124))
  have cGs := cell_row Gs.out
  have cGn := cell_row Gn.out
  have cGo := cell_row Go.out
  go_wp2_with fail
  refine (S1.out _ VB.out.rom).mono ?_
  rintro e w1 ⟨rfl, hv⟩
  clear cGs cGn cGo
  replace Gs := Lib.hid (hv.heap Gs.out (by have := VB.out.lt; (try have := HNE.out); (try have := HZ.out); (try have := HLG.out); omega))
  replace Gn := Lib.hid (hv.heap Gn.out (by have := VB.out.lt; (try have := HNE.out); (try have := HZ.out); (try have := HLG.out); omega))
  replace Go := Lib.hid (hv.heap Go.out (by have := VB.out.lt; (try have := HNE.out); (try have := HZ.out); (try have := HLG.out); omega))
  replace VB := Lib.hid (VB.out.trans hv)
  clear hv
  have HZ := Lib.hid (lt_of_heap Go.out)
  have cGn := cell_row Gn.out
  have cGo := cell_row Go.out
  go_upto_region 2 with fail
  clear cGn cGo
  have xGn := extg_row (g := g) (B := w1.heap.size) Gn.out (lt_of_heap Gn.out) (by have := VB.out.lt; (try have := HNE.out); (try have := HZ.out); (try have := HLG.out); omega)
  have xGo := extg_row (g := g) (B := w1.heap.size) Go.out (lt_of_heap Go.out) (by have := VB.out.lt; (try have := HNE.out); (try have := HZ.out); (try have := HLG.out); omega)
  have hnx : Nonempty (ExtG g w1.heap.size w1) := ⟨⟨w1, BelowG.refl VB.out.rom _⟩⟩
  have hlx : ∀ x : ExtG g w1.heap.size w1, g < x.val.heap.size := fun x => x.property.rom.lt
  apply wp_region_headG g 10 VB.out.rom (looseRG (g := g) [_, _, _, _, _, _, _, _, _, _]) (pureL [1, 5, 9])
  · kernel_rfl
  · kernel_rfl
  · kernel_rfl
  · exact looseRG_st _
  · change wpLG _ _ _ _ _ _ _ _ 10 0 _ _
    refine wpL_calmT w1 rfl rfl rfl rfl (fun K hK K0 hK0 => ?_)
    go_simp
    first | refine hK _ _ rfl rfl ?_ | refine hK0 _ rfl ?_
    clear hK hK0 K K0
    refine wpL_pureT w1 rfl rfl rfl rfl (fun K hK K0 hK0 => ?_)
    go_simp
    first | refine hK _ _ rfl rfl ?_ | refine hK0 _ rfl ?_
    clear hK hK0 K K0
    refine wpL_rowT w1 (fun g => .slice (some ⟨g, 0, none⟩) 1 1) (.cells #[.int .u64 (v : Int)] 22) (fun _ => rfl) rfl rfl rfl rfl (by first | rfl | go_simp) rfl (by rintro w' ⟨x, rfl⟩; go_simp) (by rintro w' ⟨x, rfl⟩; exact hlx x) (fun g2 => ?_)
    refine wpL_vcallT (wv v) w1 rfl rfl rfl rfl (by first | rfl | go_simp) rfl (fun w' hC hF => ?_) ?_
    · obtain ⟨x, rfl⟩ := hC
      go_simp
      go_at_call 106
      exact valG _ (S2.out _ g2 (hF 2 _ 16 rfl rfl rfl rfl (by decide)).2.2)
    refine wpL_calmT w1 rfl rfl rfl rfl (fun K hK K0 hK0 => ?_)
    go_simp
    apply Exists.intro
    apply And.intro
    · intro x
      go_at_call 93
      with_reducible exact Calls.stepG _ (S4.out _)
    refine hK _ _ rfl rfl ?_
    clear hK hK0 K K0
    refine wpL_pureT w1 rfl rfl rfl rfl (fun K hK K0 hK0 => ?_)
    go_simp
    first | refine hK _ _ rfl rfl ?_ | refine hK0 _ rfl ?_
    clear hK hK0 K K0
    refine wpL_rowT w1 (fun g => .slice (some ⟨g, 0, none⟩) 1 1) (.cells #[.int .u64 (v : Int)] 22) (fun _ => rfl) rfl rfl rfl rfl (by first | rfl | go_simp) rfl (by rintro w' ⟨x, rfl⟩; go_simp) (by rintro w' ⟨x, rfl⟩; exact hlx x) (fun g6 => ?_)
    refine wpL_vcallT (wv v) w1 rfl rfl rfl rfl (by first | rfl | go_simp) rfl (fun w' hC hF => ?_) ?_
    · obtain ⟨x, rfl⟩ := hC
      go_simp
      go_at_call 106
      exact valG _ (S2.out _ g6 (hF 6 _ 20 rfl rfl rfl rfl (by decide)).2.2)
    refine wpL_calmT w1 rfl rfl rfl rfl (fun K hK K0 hK0 => ?_)
    go_simp
    apply Exists.intro
    apply And.intro
    · intro x
      go_at_call 86
      with_reducible exact Calls.stepG _ (S5.out _)
    refine hK _ _ rfl rfl ?_
    clear hK hK0 K K0
    refine wpL_pureT w1 rfl rfl rfl rfl (fun K hK K0 hK0 => ?_)
    go_simp
    first | refine hK _ _ rfl rfl ?_ | refine hK0 _ rfl ?_
    clear hK hK0 K K0
    refine wpL_nilG (fun w2 hv => ?_)
    simp only [List.drop_succ_cons, List.drop_zero]
    replace Gn := Lib.hid ((hv.block _ (lt_of_heap Gn.out) (by have := VB.out.lt; (try have := HNE.out); (try have := HZ.out); (try have := HLG.out); omega)).trans Gn.out)
    replace Go := Lib.hid ((hv.block _ (lt_of_heap Go.out) (by have := VB.out.lt; (try have := HNE.out); (try have := HZ.out); (try have := HLG.out); omega)).trans Go.out)
    replace VB := Lib.hid (VB.out.trans' hv)
    clear hv xGn xGo hnx hlx
    have sto := st_16 (P := Tryz.prog) Go.out rfl (A) (B)
    replace Go := Lib.hid (setRow_heap (w2) (w.heap.size + 1 + 1) _ (fc (A) (B)) _ _ Go.out)
    replace VB := Lib.hid (VB.out.row (show _ ≤ w.heap.size + 1 + 1 by (omega)) (fc (A) (B)))
    have cGo := cell_row Go.out
    go_wp2
    exact bodyPost_ret (v := .agg (fc A B)) (res_c Tryz.results78 _ _ _ _ _ _ rfl Go.out aggRP) rfl ⟨rfl, VB.out⟩
theorem gr_step {U k : Nat} (h : blen U = 255 ∨ blen U = 256) (hU0 : P2 254 ≤ U) (hU : U < P2 256) (hk : k ≤ 10) :
    grG U k < P2 164 ∧ grH U k < P2 162 ∧ grG U k * grH U k / P2 160 ≤ P2 160 + P2 159 ∧ grG U k * (P2 160 + P2 159 - grG U k * grH U k / P2 160) / P2 160 < M ∧ grH U k * (P2 160 + P2 159 - grG U k * grH U k / P2 160) / P2 160 < M := by
  have hK := gr_all h hU0 hU k hk
  have h1 := hK.gsmall hk hU0 hU
  have h2 := hK.hsmall hk hU0
  have h3 := hK.le
  have hM : ∀ e, e < 512 → P2 e < M := fun e he => by rw [M_eq]; exact P2_lt he
  have h4 : grG U k * grH U k / P2 160 ≤ P2 160 := by
    have := Nat.div_le_div_right (c := P2 160) h3
    rwa [show P2 320 = P2 160 * P2 160 by rw [← P2_add], Nat.mul_div_cancel _ (P2_pos _)] at this
  have hF : P2 160 + P2 159 - grG U k * grH U k / P2 160 < P2 162 := Nat.lt_of_le_of_lt (Nat.sub_le _ _) half_sum
  refine ⟨h1, h2, Nat.le_trans h4 (Nat.le_add_right _ _), ?_, ?_⟩
  · have := Nat.mul_lt_mul'' h1 hF
    rw [← P2_add] at this
    exact Nat.lt_of_le_of_lt (Nat.div_le_self _ _) (Nat.lt_trans this (hM _ (by omega)))
  · have := Nat.mul_lt_mul'' h2 hF
    rw [← P2_add] at this
    exact Nat.lt_of_le_of_lt (Nat.div_le_self _ _) (Nat.lt_trans this (hM _ (by omega)))
set_option maxRecDepth 100000 in
set_option maxHeartbeats 4000000 in
theorem nextR_any (U k : Nat) (h : blen U = 255 ∨ blen U = 256) (hU0 : P2 254 ≤ U) (hU : U < P2 256) (hk : k ≤ 10) (w : World) :
    Calls Tryz.prog 104 #[.agg (fc (grG U k) (grH U k))] w fun e w' => e = .returned (.agg (fc (grG U (k + 1)) (grH U (k + 1)))) ∧ Below w.heap.size w w' := by
  obtain ⟨b1, b2, b3, b4, b5⟩ := gr_step h hU0 hU hk
  have hM : ∀ e, e < 512 → P2 e < M := fun e he => by rw [M_eq]; exact P2_lt he
  have h164 := hM 164 (by omega); have h162 := hM 162 (by omega); have h160 := hM 160 (by omega); have h159 := hM 159 (by omega)
  have hs := half_sum
  have hsM : P2 160 + P2 159 < M := Nat.lt_trans hs h162
  have hFM : P2 160 + P2 159 - grG U k * grH U k / P2 160 < M := Nat.lt_of_le_of_lt (Nat.sub_le _ _) hsM
  have S1 := Lib.hid (fun w' => pow_at 160 160 rfl (by omega) w')
  have S2 := Lib.hid (fun w' => pow_at 159 159 rfl (by omega) w')
  have S3 : Hid (∀ (v : Value) (w' : World), IsWides w' v [P2 160, P2 159] → Calls Tryz.prog 129 #[v] w' fun e w'' => e = .returned (wv (P2 160 + P2 159)) ∧ Below w'.heap.size w' w'') := Lib.hid fun v w' h => by
    have := psum_any v [P2 160, P2 159] w' (by intro x hx; simp only [List.mem_cons, List.not_mem_nil, or_false] at hx; rcases hx with rfl | rfl <;> assumption) (by decide) h
    rw [show [P2 160, P2 159].sum = P2 160 + P2 159 by simp, Nat.mod_eq_of_lt hsM] at this
    exact this
  have S4 := Lib.hid (fun w' => timesI (grG U k) (grH U k) 160 160 rfl (by omega) (by omega) (by decide) (Nat.lt_of_le_of_lt b3 hsM) w')
  have S5 := Lib.hid (fun w' => sub_down (P2 160 + P2 159) (grG U k * grH U k / P2 160) hsM b3 w')
  have S6 := Lib.hid (fun w' => timesI (grG U k) (P2 160 + P2 159 - grG U k * grH U k / P2 160) 160 160 rfl (by omega) hFM (by decide) b4 w')
  have S7 := Lib.hid (fun w' => timesI (grH U k) (P2 160 + P2 159 - grG U k * grH U k / P2 160) 160 160 rfl (by omega) hFM (by decide) b5 w')
  rw [grG_succ, grH_succ]
  obtain ⟨A, hA⟩ : ∃ A, A = grG U k * (P2 160 + P2 159 - grG U k * grH U k / P2 160) / P2 160 := ⟨_, rfl⟩
  obtain ⟨B, hB⟩ : ∃ A, A = grH U k * (P2 160 + P2 159 - grG U k * grH U k / P2 160) / P2 160 := ⟨_, rfl⟩
  rw [← hA] at S6 ⊢
  rw [← hB] at S7 ⊢
  clear hFM
  obtain ⟨F, hF⟩ : ∃ A, A = P2 160 + P2 159 - grG U k * grH U k / P2 160 := ⟨_, rfl⟩
  rw [← hF] at S5 S6 S7
  obtain ⟨f, hf⟩ : ∃ f, f = decide (P2 160 + P2 159 < grG U k * grH U k / P2 160) := ⟨_, rfl⟩
  rw [← hf] at S5
  obtain ⟨T, hT⟩ : ∃ A, A = grG U k * grH U k / P2 160 := ⟨_, rfl⟩
  rw [← hT] at S4 S5
  obtain ⟨S, hS⟩ : ∃ A, A = P2 160 + P2 159 := ⟨_, rfl⟩
  rw [← hS] at S3 S5
  obtain ⟨Pa, hPa⟩ : ∃ A, A = P2 160 := ⟨_, rfl⟩
  rw [← hPa] at S1 S3
  obtain ⟨Pb, hPb⟩ : ∃ A, A = P2 159 := ⟨_, rfl⟩
  rw [← hPb] at S2 S3
  obtain ⟨X, hX⟩ : ∃ A, A = grG U k := ⟨_, rfl⟩
  obtain ⟨Y, hY⟩ : ∃ A, A = grH U k := ⟨_, rfl⟩
  rw [← hX] at S4 S6 ⊢
  rw [← hY] at S4 S7 ⊢
  clear h hU0 hU hk b1 b2 b3 b4 b5 hM h164 h162 h160 h159 hs hsM hA hB hF hf hT hS hPa hPb hX hY
  go_enter Tryz.func104, Tryz.ntmps104
  have HB := Lib.hid (Below.refl w.heap.size w)
  have Gp := Lib.hid (alloc_new (w) (.cells (fc X Y) 124))
  replace HB := Lib.hid (below_al HB.out (.cells (fc X Y) 124))
  replace Gp := Lib.hid (keepAl (o' := .cells (fc 0 0) 124) Gp.out)
  have Go := Lib.hid (alloc_new' (w := (w).alloc (.cells (fc X Y) 124)) (n := w.heap.size + 1) (.cells (fc 0 0) 124) (by simp))
  replace HB := Lib.hid (below_al HB.out (.cells (fc 0 0) 124))
  have cGp := cell_row Gp.out
  have cGo := cell_row Go.out
  go_wp2_with fail
  refine (S1.out _).mono ?_
  rintro e w3 ⟨rfl, hb⟩
  clear cGp cGo
  replace HB := Lib.hid (below_then HB.out hb)
  replace Gp := Lib.hid ((hb.block _ (lt_of_heap Gp.out)).trans Gp.out)
  replace Go := Lib.hid ((hb.block _ (lt_of_heap Go.out)).trans Go.out)
  clear hb
  have cGp := cell_row Gp.out
  have cGo := cell_row Go.out
  go_wp2_with fail
  refine (S2.out _).mono ?_
  rintro e w4 ⟨rfl, hb⟩
  clear cGp cGo
  replace HB := Lib.hid (below_then HB.out hb)
  replace Gp := Lib.hid ((hb.block _ (lt_of_heap Gp.out)).trans Gp.out)
  replace Go := Lib.hid ((hb.block _ (lt_of_heap Go.out)).trans Go.out)
  clear hb
  have HZ := Lib.hid (lt_of_heap Go.out)
  replace Gp := Lib.hid (keepAl (o' := .cells (w16 Pa Pb) 24) Gp.out)
  replace Go := Lib.hid (keepAl (o' := .cells (w16 Pa Pb) 24) Go.out)
  have Gl := Lib.hid (alloc_new (w4) (.cells (w16 Pa Pb) 24))
  replace HB := Lib.hid (below_al HB.out (.cells (w16 Pa Pb) 24))
  have cGp := cell_row Gp.out
  have cGo := cell_row Go.out
  have cGl := cell_row Gl.out
  go_wp2_with fail
  refine (S3.out _ _ (isWides2 Gl.out)).mono ?_
  rintro e w5 ⟨rfl, hb⟩
  clear cGp cGo cGl
  replace HB := Lib.hid (below_then HB.out hb)
  replace Gp := Lib.hid ((hb.block _ (lt_of_heap Gp.out)).trans Gp.out)
  replace Go := Lib.hid ((hb.block _ (lt_of_heap Go.out)).trans Go.out)
  replace Gl := Lib.hid ((hb.block _ (lt_of_heap Gl.out)).trans Gl.out)
  clear hb
  have HZ2 := Lib.hid (lt_of_heap Go.out)
  replace Gp := Lib.hid (keepAl (o' := .cells (wcells S) 24) Gp.out)
  replace Go := Lib.hid (keepAl (o' := .cells (wcells S) 24) Go.out)
  have Gs := Lib.hid (alloc_new (w5) (.cells (wcells S) 24))
  replace HB := Lib.hid (below_al HB.out (.cells (wcells S) 24))
  have cGp := cell_row Gp.out
  have cGo := cell_row Go.out
  have cGs := cell_row Gs.out
  go_upto_region 2 with fail
  clear cGp cGo cGs
  obtain ⟨wL, hw⟩ : ∃ wx, wx = (w5).alloc (.cells (wcells S) 24) := ⟨_, rfl⟩
  rw [← hw] at Gp Go Gs HB ⊢
  clear hw
  have HZ3 := Lib.hid (lt_of_heap Go.out)
  have xGp := ext_row (B := wL.heap.size) Gp.out (lt_of_heap Gp.out)
  have xGo := ext_row (B := wL.heap.size) Go.out (lt_of_heap Go.out)
  have xGs := ext_row (B := wL.heap.size) Gs.out (lt_of_heap Gs.out)
  apply wp_region_loose (looseR [_, _, _, _, _, _, _, _, _, _, Lft.val undef, Lft.val undef, _]) (pureL [1, 3, 7, 8, 9, 12])
  · kernel_rfl
  · kernel_rfl
  · kernel_rfl
  · exact allocs_ok [24] rfl (by intro T hT; simp only [List.mem_cons, List.not_mem_nil, or_false] at hT; subst hT; exact makes_wide)
  · exact looseR_st _
  · change wpL _ _ _ _ _ _ _ 13 0 _ _
    refine wpL_calm wL rfl rfl rfl rfl (fun K hK K0 hK0 => ?_)
    go_simp
    first | refine hK _ _ rfl rfl ?_ | refine hK0 _ rfl ?_
    clear hK hK0 K K0
    refine wpL_pure wL rfl rfl rfl rfl (fun K hK K0 hK0 => ?_)
    go_simp
    first | refine hK _ _ rfl rfl ?_ | refine hK0 _ rfl ?_
    clear hK hK0 K K0
    refine wpL_calm wL rfl rfl rfl rfl (fun K hK K0 hK0 => ?_)
    go_simp
    first | refine hK _ _ rfl rfl ?_ | refine hK0 _ rfl ?_
    clear hK hK0 K K0
    refine wpL_pure wL rfl rfl rfl rfl (fun K hK K0 hK0 => ?_)
    go_simp
    first | refine hK _ _ rfl rfl ?_ | refine hK0 _ rfl ?_
    clear hK hK0 K K0
    refine wpL_calm wL rfl rfl rfl rfl (fun K hK K0 hK0 => ?_)
    go_simp
    first | refine hK _ _ rfl rfl ?_ | refine hK0 _ rfl ?_
    clear hK hK0 K K0
    refine wpL_calm wL rfl rfl rfl rfl (fun K hK K0 hK0 => ?_)
    go_simp
    apply Exists.intro
    apply And.intro
    · intro x
      go_at_call 93
      with_reducible exact S4.out _
    refine hK _ _ rfl rfl ?_
    clear hK hK0 K K0
    refine wpL_calm wL rfl rfl rfl rfl (fun K hK K0 hK0 => ?_)
    go_simp
    apply Exists.intro
    apply And.intro
    · intro x
      go_at_call 66
      with_reducible exact S5.out _
    refine hK _ _ rfl rfl ?_
    clear hK hK0 K K0
    refine wpL_pure wL rfl rfl rfl rfl (fun K hK K0 hK0 => ?_)
    go_simp
    first | refine hK _ _ rfl rfl ?_ | refine hK0 _ rfl ?_
    clear hK hK0 K K0
    refine wpL_pure wL rfl rfl rfl rfl (fun K hK K0 hK0 => ?_)
    go_simp
    first | refine hK _ _ rfl rfl ?_ | refine hK0 _ rfl ?_
    clear hK hK0 K K0
    refine wpL_pure wL rfl rfl rfl rfl (fun K hK K0 hK0 => ?_)
    go_simp
    first | refine hK _ _ rfl rfl ?_ | refine hK0 _ rfl ?_
    clear hK hK0 K K0
    refine wpL_alloc rfl rfl rfl rfl (fun g10 hg10 => ?_)
    refine wpL_store rfl rfl ?_
    refine wpL_pure wL rfl rfl rfl rfl (fun K hK K0 hK0 => ?_)
    go_simp
    first | refine hK _ _ rfl rfl ?_ | refine hK0 _ rfl ?_
    clear hK hK0 K K0
    refine wpL_nil (endL [(24, .tmp 4, .tmp 18)] rfl (by intro q hq; simp only [List.mem_cons, List.not_mem_nil, or_false] at hq; subst hq; exact fits_wv (by kernel_rfl) _) (fun w6 hb hst hap hfin => ?_))
    have Gf : Hid (w6.heap[g10]? = some (.cells (wcells (F)) 24 (0, 0))) := Lib.hid (hst 11 _ _ _ _ g10 rfl rfl rfl)
    replace HB := Lib.hid (below_then HB.out hb)
    replace Gp := Lib.hid ((hb.block _ (lt_of_heap Gp.out)).trans Gp.out)
    replace Go := Lib.hid ((hb.block _ (lt_of_heap Go.out)).trans Go.out)
    replace Gs := Lib.hid ((hb.block _ (lt_of_heap Gs.out)).trans Gs.out)
    clear hb hst hap hfin xGp xGo xGs
    have cGp := cell_row Gp.out
    have cGo := cell_row Go.out
    have cGf := cell_row Gf.out
    go_upto_region 3 with fail
    clear cGp cGo cGf
    refine wp_region_store [⟨w.heap.size + 1, 124, .tmp 28⟩] (by kernel_rfl) (by kernel_rfl) (by kernel_rfl) rfl (List.pairwise_singleton _ _) ?_ ?_
    · intro r hr
      simp only [List.mem_cons, List.not_mem_nil, or_false] at hr
      subst hr
      exact ⟨_, Go.out, by kernel_rfl⟩
    have xGp := extR_row (B := w6.heap.size) (R := [⟨w.heap.size + 1, 124, .tmp 28⟩]) Gp.out (lt_of_heap Gp.out) (by intro r hr; simp only [List.mem_cons, List.not_mem_nil, or_false] at hr; subst hr <;> dsimp only <;> (have := HZ3.out; omega))
    have xGf := extR_row (B := w6.heap.size) (R := [⟨w.heap.size + 1, 124, .tmp 28⟩]) Gf.out (lt_of_heap Gf.out) (by intro r hr; simp only [List.mem_cons, List.not_mem_nil, or_false] at hr; subst hr <;> dsimp only <;> (have := HZ3.out; omega))
    repeat (refine wpCalm_step (fun K hK => ?_); go_simp; first | (refine hK _ ?_; clear hK K) | (apply Exists.intro; refine ⟨fun _ => ?_, hK _ ?_⟩; (first | with_reducible exact S6.out _ | with_reducible exact S7.out _ | exact S6.out _ | exact S7.out _); clear hK K))
    refine wpCalm_nil ⟨?_, fun x hx => ?_⟩
    · intro r hr
      simp only [List.mem_cons, List.not_mem_nil, or_false] at hr
      subst hr <;> first | exact fits_wv (by kernel_rfl) _ | exact fits_16 (by kernel_rfl) _ _
    replace Go : Hid (x.val.heap[w.heap.size + 1]? = some (.cells (fc (A) (B)) 124 (0, 0))) := Lib.hid (hx ⟨w.heap.size + 1, 124, .tmp 28⟩ (by simp))
    replace Gp := Lib.hid (extR_block x Gp.out (lt_of_heap Gp.out) (by intro r hr; simp only [List.mem_cons, List.not_mem_nil, or_false] at hr; subst hr <;> dsimp only <;> (have := HZ3.out; omega)))
    replace Gf := Lib.hid (extR_block x Gf.out (lt_of_heap Gf.out) (by intro r hr; simp only [List.mem_cons, List.not_mem_nil, or_false] at hr; subst hr <;> dsimp only <;> (have := HZ3.out; omega)))
    replace HB := Lib.hid (extR_below x HB.out HB.out.size (by intro r hr; simp only [List.mem_cons, List.not_mem_nil, or_false] at hr; subst hr <;> dsimp only <;> (have := HZ3.out; omega)))
    clear hx xGp xGf
    obtain ⟨w7, hw⟩ : ∃ wx, wx = x.val := ⟨_, rfl⟩
    rw [← hw] at Gp Go Gf HB ⊢
    clear hw x
    have cGp := cell_row Gp.out
    have cGo := cell_row Go.out
    have cGf := cell_row Gf.out
    go_wp2
    exact bodyPost_ret (v := .agg (fc A B)) (res_c Tryz.results104 _ _ _ _ _ _ rfl Go.out aggRP) rfl ⟨rfl, HB.out⟩
set_option maxRecDepth 100000 in
set_option maxHeartbeats 4000000 in
theorem stepsR_any (U k : Nat) (h : blen U = 255 ∨ blen U = 256) (hU0 : P2 254 ≤ U) (hU : U < P2 256) (hk : k ≤ 10) (w : World) :
    Calls Tryz.prog 77 #[.agg (fc (grG U 0) (grH U 0)), .int .i64 (k : Int)] w fun e w' => e = .returned (.agg (fc (grG U k) (grH U k))) ∧ Below w.heap.size w w' := by
  have S2 := Lib.hid (fun i (hi : i ≤ 10) w' => nextR_any U i h hU0 hU hi w')
  have HK := Lib.hid hk
  obtain ⟨F1, hF1⟩ : ∃ F : Nat → Nat, F = grG U := ⟨_, rfl⟩
  obtain ⟨F2, hF2⟩ : ∃ F : Nat → Nat, F = grH U := ⟨_, rfl⟩
  rw [← hF1, ← hF2] at S2 ⊢
  clear h hU0 hU hk hF1 hF2
  go_enter Tryz.func77, Tryz.ntmps77
  have HB := Lib.hid (Below.refl w.heap.size w)
  have Gp := Lib.hid (alloc_new (w) (.cells (fc (F1 0) (F2 0)) 124))
  replace HB := Lib.hid (below_al HB.out (.cells (fc (F1 0) (F2 0)) 124))
  replace Gp := Lib.hid (keepAl (o' := .cells (fc 0 0) 124) Gp.out)
  have Go := Lib.hid (alloc_new' (w := (w).alloc (.cells (fc (F1 0) (F2 0)) 124)) (n := w.heap.size + 1) (.cells (fc 0 0) 124) (by simp))
  replace HB := Lib.hid (below_al HB.out (.cells (fc 0 0) 124))
  go_wp2
  obtain ⟨wq, hw⟩ : ∃ wx, wx = ((w).alloc (.cells (fc (F1 0) (F2 0)) 124)).alloc (.cells (fc 0 0) 124) := ⟨_, rfl⟩
  rw [← hw] at Gp Go HB ⊢
  clear hw
  go_loopw [7] (fun s7 wr => ∃ i : Nat, s7 = .int .i64 (i : Int) ∧ i ≤ k ∧ Hid (wr.heap[w.heap.size]? = some (.cells (fc (F1 i) (F2 i)) 124 (0, 0))) ∧ Hid (wr.heap[w.heap.size + 1]? = some (.cells (fc 0 0) 124 (0, 0))) ∧ Hid (Below w.heap.size w wr)) (fun s7 _ => k - (intOf s7).toNat)
  case atStart => exact ⟨0, rfl, Nat.zero_le _, Gp, Go, HB⟩
  case round =>
    clear HB Gp Go
    obtain ⟨i, rfl, hi, Gp, Go, HB⟩ := hrel
    have hkk := HK.out
    by_cases hlt : i < k
    · have e1 : (i : Int) < (k : Int) := by omega
      have e2 : IntKind.i64.wrap ((i : Int) + 1) = ((i + 1 : Nat) : Int) := by rw [IntWalk.i64_in _ (by omega)]; omega
      have HLT := Lib.hid hlt
      have T2 := Lib.hid (S2.out i (by omega))
      obtain ⟨A, hA⟩ : ∃ Y, Y = F1 (i + 1) := ⟨_, rfl⟩
      obtain ⟨B, hB⟩ : ∃ Y, Y = F2 (i + 1) := ⟨_, rfl⟩
      rw [← hA, ← hB] at T2
      have HA := Lib.hid hA; have HBB := Lib.hid hB
      clear hlt hi hkk hA hB
      have cGp := cell_row Gp.out
      have cGo := cell_row Go.out
      go_wp2_with fail
      refine (T2.out _).mono ?_
      rintro e w8 ⟨rfl, hb⟩
      clear cGp cGo
      replace HB := Lib.hid (below_then HB.out hb)
      replace Gp := Lib.hid ((hb.block _ (lt_of_heap Gp.out)).trans Gp.out)
      replace Go := Lib.hid ((hb.block _ (lt_of_heap Go.out)).trans Go.out)
      clear hb
      have stp := st_16 (P := Tryz.prog) Gp.out rfl (A) (B)
      replace Go := Lib.hid ((setRow_other (w8) (w.heap.size) _ (fc (A) (B)) (by (omega))).trans Go.out)
      replace Gp := Lib.hid (setRow_heap (w8) (w.heap.size) _ (fc (A) (B)) _ _ Gp.out)
      replace HB := Lib.hid (below_setRow' HB.out (show _ ≤ w.heap.size by (omega)) (fc (A) (B)))
      go_wp2
      go_roundw
      case rel => exact ⟨i + 1, by go_num, HLT.out, by rw [← HA.out, ← HBB.out]; exact Gp, Go, HB⟩
      case measure => have := HLT.out; simp [intOf]; omega
    · obtain rfl : i = k := by omega
      clear hlt hi hkk
      have q1 := cell_row Gp.out
      have sto := st_16 (P := Tryz.prog) Go.out rfl (F1 i) (F2 i)
      replace Gp := Lib.hid ((setRow_other (wr) (w.heap.size + 1) _ (fc (F1 i) (F2 i)) (by (omega))).trans Gp.out)
      replace Go := Lib.hid (setRow_heap (wr) (w.heap.size + 1) _ (fc (F1 i) (F2 i)) _ _ Go.out)
      replace HB := Lib.hid (below_setRow' HB.out (show _ ≤ w.heap.size + 1 by (omega)) (fc (F1 i) (F2 i)))
      have cGp := cell_row Gp.out
      have cGo := cell_row Go.out
      go_wp2
      (try rw [Exit.noGoto_ret])
      (try rw [Exit.noGoto_ret])
      (try rw [Exit.noGoto_ret])
      exact bodyPost_ret (v := .agg (fc (F1 i) (F2 i))) (res_c Tryz.results77 _ _ _ _ _ _ rfl Go.out aggRP) rfl ⟨rfl, HB.out⟩
end Go.Proofs.YtegmmaaapdgocaaGreat
