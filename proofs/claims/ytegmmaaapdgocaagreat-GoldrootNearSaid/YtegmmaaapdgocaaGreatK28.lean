/- SEVERAL TEXTS of the seat, one behind the other: each says at its head what it proves. -/
import Derived.Test.YtegmmaaapdgocaaGreatK27
import Derived.Test.YtegmmaaapdgocaaGreatK25
import Derived.Test.YtegmmaaapdgocaaGreatK22
import Derived.Test.YtegmmaaapdgocaaGreatFixc
import Derived.Test.YtegmmaaapdgocaaGreatNormT
import Derived.Test.YtegmmaaapdgocaaGreatK34
/- THE WALKS of newtonroot: the first guess; 3 without a fraction; a round; the reciprocal of a root. -/
namespace Go.Proofs.YtegmmaaapdgocaaGreat
open Go Go.RowKit

theorem guessRV_le (n : Nat) : guessRV n ≤ 1100 := by
  by_cases h : blen n = 255 ∨ blen n = 256
  · exact (guessR_near h).2.2
  · unfold guessRV
    rw [if_neg h]
    exact Nat.zero_le _
theorem guessR_p2 (n c : Nat) (hc : c ≤ 300) : guessRV n * P2 c < M := by
  have h := Nat.mul_le_mul_right (P2 c) (show guessRV n ≤ P2 11 by have := guessRV_le n; rw [P2_eq]; omega)
  rw [← P2_add] at h
  have : P2 (11 + c) < M := by rw [M_eq]; exact P2_lt (by omega)
  omega
theorem timesI (a b c : Nat) (k : Int) (hk : k = (c : Int)) (ha : a < M) (hb : b < M) (hc : c ≤ 512) (h : a * b / P2 c < M) (w : World) : Calls Tryz.prog 93 #[wv a, wv b, .int .i64 k] w fun e w' => e = .returned (wv (a * b / P2 c)) ∧ Below w.heap.size w w' := by
  subst hk
  exact times_small a b c ha hb hc h w
theorem sub_down (a b : Nat) (ha : a < M) (h : b ≤ a) (w : World) : Calls Tryz.prog 66 #[wv a, wv b] w fun e w' => e = .returned (.tuple #[wv (a - b), .bool (decide (a < b))]) ∧ Below w.heap.size w w' := by
  have := sub_w a b ha (by omega) w
  rw [sub_plain h ha] at this
  exact this
attribute [local go_sem ↓] Go.wp_at_zero Go.wp_at_succ
set_option maxRecDepth 100000 in
set_option maxHeartbeats 1000000 in
theorem seedR_w (g U : Nat) (hU : U < M) (w : World) (h : IsRom w g) :
    Calls Tryz.prog 112 #[.agg #[.pointer (some ⟨g, 0, none⟩)], wv U] w fun e w' => e = .returned (wv (nrY U 0)) ∧ VG g w w' := by
  have S1 := Lib.hid (fun w' h => Calls.vOk h (guessRoot_any g U hU w' h))
  have hle := guessRV_le U
  have S2 := Lib.hid (fun w' p h => of_one (guessRV U) (by omega) w' p h)
  have S3 := Lib.hid (fun w' => shlN_w (guessRV U) 151 (by omega) (guessR_p2 U 151 (by omega)) w')
  rw [show nrY U 0 = guessRV U * P2 151 from rfl]
  obtain ⟨y, hy⟩ : ∃ y, y = guessRV U * P2 151 := ⟨_, rfl⟩
  rw [← hy] at S3 ⊢
  obtain ⟨v, hv⟩ : ∃ v, v = guessRV U := ⟨_, rfl⟩
  rw [← hv] at S1 S2 S3
  obtain ⟨b, hb⟩ : ∃ v, v = guessRB U := ⟨_, rfl⟩
  rw [← hb] at S1
  have VB := Lib.hid (VG.refl h)
  clear hU h hle hy hv hb
  go_enter Tryz.func112, Tryz.ntmps112
  have Gs := Lib.hid (alloc_new (w) (.cells #[.pointer (some ⟨g, 0, none⟩)] 74))
  replace VB := Lib.hid (VB.out.al (.cells #[.pointer (some ⟨g, 0, none⟩)] 74))
  replace Gs := Lib.hid (keepAl (o' := .cells (wcells U) 24) Gs.out)
  have Gd := Lib.hid (alloc_new' (w := (w).alloc (.cells #[.pointer (some ⟨g, 0, none⟩)] 74)) (n := w.heap.size + 1) (.cells (wcells U) 24) (by simp))
  replace VB := Lib.hid (VB.out.al (.cells (wcells U) 24))
  replace Gs := Lib.hid (keepAl (o' := .cells (wcells 0) 24) Gs.out)
  replace Gd := Lib.hid (keepAl (o' := .cells (wcells 0) 24) Gd.out)
  have Go := Lib.hid (alloc_new' (w := ((w).alloc (.cells #[.pointer (some ⟨g, 0, none⟩)] 74)).alloc (.cells (wcells U) 24)) (n := w.heap.size + 1 + 1) (.cells (wcells 0) 24) (by simp))
  replace VB := Lib.hid (VB.out.al (.cells (wcells 0) 24))
  have cGs := cell_row Gs.out
  have cGd := cell_row Gd.out
  have cGo := cell_row Go.out
  go_wp2_with fail
  refine (S1.out _ VB.out.rom).mono ?_
  rintro e w1 ⟨rfl, hv⟩
  clear cGs cGd cGo
  replace Gs := Lib.hid (hv.heap Gs.out (by have := VB.out.lt; (try have := HNE.out); (try have := HZ.out); omega))
  replace Gd := Lib.hid (hv.heap Gd.out (by have := VB.out.lt; (try have := HNE.out); (try have := HZ.out); omega))
  replace Go := Lib.hid (hv.heap Go.out (by have := VB.out.lt; (try have := HNE.out); (try have := HZ.out); omega))
  replace VB := Lib.hid (VB.out.trans hv)
  clear hv
  have HZ := Lib.hid (lt_of_heap Go.out)
  replace Go := Lib.hid (keepAl (o' := .cells #[.int .u64 (v : Int)] 22) Go.out)
  have Gl := Lib.hid (alloc_new (w1) (.cells #[.int .u64 (v : Int)] 22))
  replace VB := Lib.hid (VB.out.al (.cells #[.int .u64 (v : Int)] 22))
  have cGo := cell_row Go.out
  have cGl := cell_row Gl.out
  go_wp2_with fail
  refine (S2.out _ _ Gl.out).mono ?_
  rintro e w2 ⟨rfl, hb⟩
  clear cGo cGl
  replace VB := Lib.hid (VB.out.below hb)
  replace Go := Lib.hid ((hb.block _ (lt_of_heap Go.out)).trans Go.out)
  replace Gl := Lib.hid ((hb.block _ (lt_of_heap Gl.out)).trans Gl.out)
  clear hb
  have cGo := cell_row Go.out
  go_wp2_with fail
  refine (S3.out _).mono ?_
  rintro e w3 ⟨rfl, hb⟩
  clear cGo
  replace VB := Lib.hid (VB.out.below hb)
  replace Go := Lib.hid ((hb.block _ (lt_of_heap Go.out)).trans Go.out)
  clear hb
  have sto := st_row (P := Tryz.prog) Go.out rfl (y)
  replace Go := Lib.hid (setRow_heap (w3) (w.heap.size + 1 + 1) _ (wcells (y)) _ _ Go.out)
  replace VB := Lib.hid (VB.out.row (show _ ≤ w.heap.size + 1 + 1 by (have := HZ.out; omega)) (wcells (y)))
  have cGo := cell_row Go.out
  go_wp2
  exact bodyPost_ret (v := wv y) (res_c Tryz.results112 _ _ _ _ _ _ rfl Go.out aggW) rfl ⟨rfl, VB.out⟩
theorem three_sum : P2 161 + P2 160 < M := by
  have h1 : P2 161 ≤ P2 170 := P2_le (by omega)
  have h2 : P2 160 ≤ P2 170 := P2_le (by omega)
  have h3 : P2 170 + P2 170 = P2 171 := by rw [P2_twice 170]; omega
  have h4 : P2 171 < M := by rw [M_eq]; exact P2_lt (by omega)
  omega
set_option maxRecDepth 100000 in
set_option maxHeartbeats 2000000 in
theorem threeR_w (a : Nat) (ha : a ≤ P2 161 + P2 160) (w : World) : Calls Tryz.prog 111 #[wv a] w fun e w' => e = .returned (wv (P2 161 + P2 160 - a)) ∧ Below w.heap.size w w' := by
  have p161 : P2 161 < M := by rw [M_eq]; exact P2_lt (by omega)
  have p160 : P2 160 < M := by rw [M_eq]; exact P2_lt (by omega)
  have S1 : Hid (∀ w' : World, Calls Tryz.prog 130 #[.int .i64 161] w' fun e w'' => e = .returned (wv (P2 161)) ∧ Below w'.heap.size w' w'') := Lib.hid fun w' => by
    have := power_w 161 w' (by decide) (by decide)
    rw [show powerN 161 = P2 161 by unfold powerN; rw [if_pos (by decide)]; rfl] at this
    exact this
  have S2 : Hid (∀ w' : World, Calls Tryz.prog 130 #[.int .i64 160] w' fun e w'' => e = .returned (wv (P2 160)) ∧ Below w'.heap.size w' w'') := Lib.hid fun w' => by
    have := power_w 160 w' (by decide) (by decide)
    rw [show powerN 160 = P2 160 by unfold powerN; rw [if_pos (by decide)]; rfl] at this
    exact this
  have S3 : Hid (∀ (v : Value) (w' : World), IsWides w' v [P2 161, P2 160] → Calls Tryz.prog 129 #[v] w' fun e w'' => e = .returned (wv (P2 161 + P2 160)) ∧ Below w'.heap.size w' w'') := Lib.hid fun v w' h => by
    have := psum_any v [P2 161, P2 160] w' (by intro x hx; simp only [List.mem_cons, List.not_mem_nil, or_false] at hx; rcases hx with rfl | rfl <;> assumption) (by decide) h
    rw [show [P2 161, P2 160].sum = P2 161 + P2 160 by simp, Nat.mod_eq_of_lt three_sum] at this
    exact this
  have S4 := Lib.hid (fun w' => sub_down (P2 161 + P2 160) a three_sum ha w')
  obtain ⟨S, hS⟩ : ∃ S, S = P2 161 + P2 160 := ⟨_, rfl⟩
  rw [← hS] at S3 S4 ⊢
  obtain ⟨A, hA⟩ : ∃ S, S = P2 161 := ⟨_, rfl⟩
  obtain ⟨B, hB⟩ : ∃ S, S = P2 160 := ⟨_, rfl⟩
  rw [← hA] at S1 S3
  rw [← hB] at S2 S3
  obtain ⟨H, hH⟩ : ∃ H, H = S - a := ⟨_, rfl⟩
  obtain ⟨f, hf⟩ : ∃ f, f = decide (S < a) := ⟨_, rfl⟩
  rw [← hH, ← hf] at S4
  rw [← hH]
  clear ha p161 p160 hS hA hB hH hf
  go_enter Tryz.func111, Tryz.ntmps111
  have HB := Lib.hid (Below.refl w.heap.size w)
  have Ga := Lib.hid (alloc_new (w) (.cells (wcells a) 24))
  replace HB := Lib.hid (below_al HB.out (.cells (wcells a) 24))
  replace Ga := Lib.hid (keepAl (o' := .cells (wcells 0) 24) Ga.out)
  have Go := Lib.hid (alloc_new' (w := (w).alloc (.cells (wcells a) 24)) (n := w.heap.size + 1) (.cells (wcells 0) 24) (by simp))
  replace HB := Lib.hid (below_al HB.out (.cells (wcells 0) 24))
  have cGa := cell_row Ga.out
  have cGo := cell_row Go.out
  go_upto_region 1 with fail
  clear cGa cGo
  obtain ⟨wL, hw⟩ : ∃ wx, wx = ((w).alloc (.cells (wcells a) 24)).alloc (.cells (wcells 0) 24) := ⟨_, rfl⟩
  rw [← hw] at Ga Go HB ⊢
  clear hw
  have HZ := Lib.hid (lt_of_heap Go.out)
  have xGa := ext_row (B := wL.heap.size) Ga.out (lt_of_heap Ga.out)
  have xGo := ext_row (B := wL.heap.size) Go.out (lt_of_heap Go.out)
  apply wp_region_loose (looseR [_, _, _, _, _, _, _, _, _, Lft.val undef, Lft.val undef, _]) (pureL [6, 7, 8, 11])
  · kernel_rfl
  · kernel_rfl
  · kernel_rfl
  · exact allocs_ok [24] rfl (by intro T hT; simp only [List.mem_cons, List.not_mem_nil, or_false] at hT; subst hT; exact makes_wide)
  · exact looseR_st _
  · change wpL _ _ _ _ _ _ _ 12 0 _ _
    refine wpL_calm wL rfl rfl rfl rfl (fun K hK K0 hK0 => ?_)
    go_simp
    apply Exists.intro
    apply And.intro
    · intro x
      go_at_call 130
      with_reducible exact S1.out _
    refine hK _ _ rfl rfl ?_
    clear hK hK0 K K0
    refine wpL_calm wL rfl rfl rfl rfl (fun K hK K0 hK0 => ?_)
    go_simp
    apply Exists.intro
    apply And.intro
    · intro x
      go_at_call 130
      with_reducible exact S2.out _
    refine hK _ _ rfl rfl ?_
    clear hK hK0 K K0
    refine wpL_row wL (fun g => .slice (some ⟨g, 0, none⟩) 2 2) (.cells (w16 A B) 24) (fun _ => rfl) rfl rfl rfl rfl (by first | rfl | go_simp) rfl (by rintro w' ⟨x, rfl⟩; go_simp) (fun g2 => ?_)
    refine wpL_call (Lft.val (wv S)) (val_some wL _) rfl rfl rfl rfl (by first | rfl | go_simp) rfl (fun w' hC hF => ?_) (fun v3 hv3 => ?_)
    · obtain ⟨x, rfl⟩ := hC
      go_simp
      go_at_call 129
      exact val_loose (S3.out _ _ (isWides2 (hF 2 _ 8 rfl rfl rfl rfl (by decide)).2))
    obtain ⟨_, rfl⟩ := hv3
    refine wpL_calm wL rfl rfl rfl rfl (fun K hK K0 hK0 => ?_)
    go_simp
    first | refine hK _ _ rfl rfl ?_ | refine hK0 _ rfl ?_
    clear hK hK0 K K0
    refine wpL_calm wL rfl rfl rfl rfl (fun K hK K0 hK0 => ?_)
    go_simp
    apply Exists.intro
    apply And.intro
    · intro x
      go_at_call 66
      with_reducible exact S4.out _
    refine hK _ _ rfl rfl ?_
    clear hK hK0 K K0
    refine wpL_pure wL rfl rfl rfl rfl (fun K hK K0 hK0 => ?_)
    go_simp
    first | refine hK _ _ rfl rfl ?_ | refine hK0 _ rfl ?_
    clear hK hK0 K K0
    refine wpL_pure wL rfl rfl rfl rfl (fun K hK K0 hK0 => ?_)
    go_simp
    first | refine hK _ _ rfl rfl ?_ | refine hK0 _ rfl ?_
    clear hK hK0 K K0
    refine wpL_pure wL rfl rfl rfl rfl (fun K hK K0 hK0 => ?_)
    go_simp
    first | refine hK _ _ rfl rfl ?_ | refine hK0 _ rfl ?_
    clear hK hK0 K K0
    refine wpL_alloc rfl rfl rfl rfl (fun g9 hg9 => ?_)
    refine wpL_store rfl rfl ?_
    refine wpL_pure wL rfl rfl rfl rfl (fun K hK K0 hK0 => ?_)
    go_simp
    first | refine hK _ _ rfl rfl ?_ | refine hK0 _ rfl ?_
    clear hK hK0 K K0
    refine wpL_nil (endL [(24, .tmp 3, .tmp 12)] rfl (by intro q hq; simp only [List.mem_cons, List.not_mem_nil, or_false] at hq; subst hq; exact fits_wv (by kernel_rfl) _) (fun w4 hb hst hap hfin => ?_))
    have Gs : Hid (w4.heap[g9]? = some (.cells (wcells (H)) 24 (0, 0))) := Lib.hid (hst 10 _ _ _ _ g9 rfl rfl rfl)
    replace HB := Lib.hid (below_then HB.out hb)
    replace Ga := Lib.hid ((hb.block _ (lt_of_heap Ga.out)).trans Ga.out)
    replace Go := Lib.hid ((hb.block _ (lt_of_heap Go.out)).trans Go.out)
    clear hb hst hap hfin xGa xGo
    have q1 := cell_row Gs.out
    have sto := st_row (P := Tryz.prog) Go.out rfl (H)
    replace Gs := Lib.hid ((setRow_other (w4) (w.heap.size + 1) _ (wcells (H)) (by (have := HZ.out; omega))).trans Gs.out)
    replace Go := Lib.hid (setRow_heap (w4) (w.heap.size + 1) _ (wcells (H)) _ _ Go.out)
    replace HB := Lib.hid (below_setRow' HB.out (show _ ≤ w.heap.size + 1 by (have := HZ.out; omega)) (wcells (H)))
    have cGo := cell_row Go.out
    have cGs := cell_row Gs.out
    go_wp2
    exact bodyPost_ret (v := wv H) (res_c Tryz.results111 _ _ _ _ _ _ rfl Go.out aggW) rfl ⟨rfl, HB.out⟩
theorem nr_bounds {U k : Nat} (h : blen U = 255 ∨ blen U = 256) (hU0 : P2 254 ≤ U) (hU : U < P2 256) :
    nrY U k < P2 162 ∧ nrY U k * nrY U k / P2 160 < M ∧ U * (nrY U k * nrY U k / P2 160) / P2 256 ≤ P2 161 ∧ nrY U k * (P2 161 + P2 160 - U * (nrY U k * nrY U k / P2 160) / P2 256) / P2 161 < M := by
  have hk := nr_all h hU0 hU k
  have hs := hk.small hU0
  have hl := hk.less
  have hM : ∀ e, e < 512 → P2 e < M := fun e he => by rw [M_eq]; exact P2_lt he
  refine ⟨hs, ?_, hl, ?_⟩
  · have := Nat.mul_lt_mul'' hs hs
    rw [← P2_add] at this
    have := hM (162 + 162) (by omega)
    exact Nat.lt_of_le_of_lt (Nat.div_le_self _ _) (by omega)
  · have h1 : P2 161 + P2 160 - U * (nrY U k * nrY U k / P2 160) / P2 256 < P2 170 := by
      have h1 : P2 161 ≤ P2 168 := P2_le (by omega)
      have h2 : P2 160 ≤ P2 168 := P2_le (by omega)
      have h3 : P2 168 + P2 168 = P2 169 := by rw [P2_twice 168]; omega
      have h4 : P2 169 < P2 170 := P2_lt (by omega)
      refine Nat.lt_of_le_of_lt (Nat.sub_le _ _) ?_
      omega
    have := Nat.mul_lt_mul'' hs h1
    rw [← P2_add] at this
    have := hM (162 + 170) (by omega)
    exact Nat.lt_of_le_of_lt (Nat.div_le_self _ _) (by omega)
set_option maxRecDepth 100000 in
set_option maxHeartbeats 2000000 in
theorem roundR_any (Ub U k : Nat) (w : World) (h : blen U = 255 ∨ blen U = 256) (hU0 : P2 254 ≤ U) (hU : U < P2 256) (hG : w.heap[Ub]? = some (.cells (wcells U) 24 (0, 0))) :
    Calls Tryz.prog 110 #[wv (nrY U k), .pointer (some ⟨Ub, 0, none⟩)] w fun e w' => e = .returned (wv (nrY U (k + 1))) ∧ Below w.heap.size w w' := by
  obtain ⟨b1, b2, b3, b4⟩ := nr_bounds (k := k) h hU0 hU
  have hUM : U < M := Nat.lt_trans hU (by rw [M_eq]; exact P2_lt (by omega))
  have h162 : P2 162 < M := by rw [M_eq]; exact P2_lt (by omega)
  have h161 : P2 161 < M := by rw [M_eq]; exact P2_lt (by omega)
  have hts := three_sum
  have hH : P2 161 + P2 160 - U * (nrY U k * nrY U k / P2 160) / P2 256 < M := Nat.lt_of_le_of_lt (Nat.sub_le _ _) hts
  have S1 := Lib.hid (fun w' => timesI (nrY U k) (nrY U k) 160 160 rfl (by omega) (by omega) (by decide) b2 w')
  have S2 := Lib.hid (fun w' => timesI U (nrY U k * nrY U k / P2 160) 256 256 rfl hUM b2 (by decide) (by omega) w')
  have S3 := Lib.hid (fun w' => threeR_w (U * (nrY U k * nrY U k / P2 160) / P2 256) (by omega) w')
  have S4 := Lib.hid (fun w' => timesI (nrY U k) (P2 161 + P2 160 - U * (nrY U k * nrY U k / P2 160) / P2 256) 161 161 rfl (by omega) hH (by decide) b4 w')
  rw [nrY_succ]
  obtain ⟨Z, hZ⟩ : ∃ Z, Z = nrY U k * (P2 161 + P2 160 - U * (nrY U k * nrY U k / P2 160) / P2 256) / P2 161 := ⟨_, rfl⟩
  rw [← hZ] at S4 ⊢
  clear hH
  obtain ⟨H, hHe⟩ : ∃ Z, Z = P2 161 + P2 160 - U * (nrY U k * nrY U k / P2 160) / P2 256 := ⟨_, rfl⟩
  rw [← hHe] at S3 S4
  obtain ⟨T, hT⟩ : ∃ Z, Z = U * (nrY U k * nrY U k / P2 160) / P2 256 := ⟨_, rfl⟩
  rw [← hT] at S2 S3
  obtain ⟨A, hA⟩ : ∃ Z, Z = nrY U k * nrY U k / P2 160 := ⟨_, rfl⟩
  rw [← hA] at S1 S2
  obtain ⟨y, hy⟩ : ∃ Z, Z = nrY U k := ⟨_, rfl⟩
  rw [← hy] at S1 S4 ⊢
  have Gu := Lib.hid hG
  have HUB := Lib.hid (lt_of_heap hG)
  clear h hU0 hU hG b1 b2 b3 b4 hUM h162 h161 hts hZ hHe hT hA hy
  go_enter Tryz.func110, Tryz.ntmps110
  have HB := Lib.hid (Below.refl w.heap.size w)
  replace Gu := Lib.hid (keepAl (o' := .cells (wcells y) 24) Gu.out)
  have Gy := Lib.hid (alloc_new (w) (.cells (wcells y) 24))
  replace HB := Lib.hid (below_al HB.out (.cells (wcells y) 24))
  replace Gu := Lib.hid (keepAl (o' := .cells (wcells 0) 24) Gu.out)
  replace Gy := Lib.hid (keepAl (o' := .cells (wcells 0) 24) Gy.out)
  have Go := Lib.hid (alloc_new' (w := (w).alloc (.cells (wcells y) 24)) (n := w.heap.size + 1) (.cells (wcells 0) 24) (by simp))
  replace HB := Lib.hid (below_al HB.out (.cells (wcells 0) 24))
  have cGu := cell_row Gu.out
  have cGy := cell_row Gy.out
  have cGo := cell_row Go.out
  go_wp2_with fail
  refine (S1.out _).mono ?_
  rintro e w5 ⟨rfl, hb⟩
  clear cGu cGy cGo
  replace HB := Lib.hid (below_then HB.out hb)
  replace Gu := Lib.hid ((hb.block _ (lt_of_heap Gu.out)).trans Gu.out)
  replace Gy := Lib.hid ((hb.block _ (lt_of_heap Gy.out)).trans Gy.out)
  replace Go := Lib.hid ((hb.block _ (lt_of_heap Go.out)).trans Go.out)
  clear hb
  have HZ := Lib.hid (lt_of_heap Go.out)
  replace Gu := Lib.hid (keepAl (o' := .cells (wcells A) 24) Gu.out)
  replace Gy := Lib.hid (keepAl (o' := .cells (wcells A) 24) Gy.out)
  replace Go := Lib.hid (keepAl (o' := .cells (wcells A) 24) Go.out)
  have Gs := Lib.hid (alloc_new (w5) (.cells (wcells A) 24))
  replace HB := Lib.hid (below_al HB.out (.cells (wcells A) 24))
  have cGu := cell_row Gu.out
  have cGy := cell_row Gy.out
  have cGo := cell_row Go.out
  have cGs := cell_row Gs.out
  go_upto_region 2 with fail
  clear cGu cGy cGo cGs
  obtain ⟨w6, hw⟩ : ∃ wx, wx = (w5).alloc (.cells (wcells A) 24) := ⟨_, rfl⟩
  rw [← hw] at Gu Gy Go Gs HB ⊢
  clear hw
  refine wp_region_store [⟨w.heap.size + 1, 24, .tmp 13⟩] (by kernel_rfl) (by kernel_rfl) (by kernel_rfl) rfl (List.pairwise_singleton _ _) ?_ ?_
  · intro r hr
    simp only [List.mem_cons, List.not_mem_nil, or_false] at hr
    subst hr
    exact ⟨_, Go.out, by kernel_rfl⟩
  have xGu := extR_row (B := w6.heap.size) (R := [⟨w.heap.size + 1, 24, .tmp 13⟩]) Gu.out (lt_of_heap Gu.out) (by intro r hr; simp only [List.mem_cons, List.not_mem_nil, or_false] at hr; subst hr <;> dsimp only <;> (have := HUB.out; have := HZ.out; omega))
  have xGy := extR_row (B := w6.heap.size) (R := [⟨w.heap.size + 1, 24, .tmp 13⟩]) Gy.out (lt_of_heap Gy.out) (by intro r hr; simp only [List.mem_cons, List.not_mem_nil, or_false] at hr; subst hr <;> dsimp only <;> (have := HUB.out; have := HZ.out; omega))
  have xGs := extR_row (B := w6.heap.size) (R := [⟨w.heap.size + 1, 24, .tmp 13⟩]) Gs.out (lt_of_heap Gs.out) (by intro r hr; simp only [List.mem_cons, List.not_mem_nil, or_false] at hr; subst hr <;> dsimp only <;> (have := HUB.out; have := HZ.out; omega))
  repeat (refine wpCalm_step (fun K hK => ?_); go_simp; first | (refine hK _ ?_; clear hK K) | (apply Exists.intro; refine ⟨fun _ => ?_, hK _ ?_⟩; (first | with_reducible exact S2.out _ | with_reducible exact S3.out _ | with_reducible exact S4.out _ | exact S2.out _ | exact S3.out _ | exact S4.out _); clear hK K))
  refine wpCalm_nil ⟨?_, fun x hx => ?_⟩
  · intro r hr
    simp only [List.mem_cons, List.not_mem_nil, or_false] at hr
    subst hr <;> exact fits_wv (by kernel_rfl) _
  replace Go : Hid (x.val.heap[w.heap.size + 1]? = some (.cells (wcells (Z)) 24 (0, 0))) := Lib.hid (hx ⟨w.heap.size + 1, 24, .tmp 13⟩ (by simp))
  replace Gu := Lib.hid (extR_block x Gu.out (lt_of_heap Gu.out) (by intro r hr; simp only [List.mem_cons, List.not_mem_nil, or_false] at hr; subst hr <;> dsimp only <;> (have := HUB.out; have := HZ.out; omega)))
  replace Gy := Lib.hid (extR_block x Gy.out (lt_of_heap Gy.out) (by intro r hr; simp only [List.mem_cons, List.not_mem_nil, or_false] at hr; subst hr <;> dsimp only <;> (have := HUB.out; have := HZ.out; omega)))
  replace Gs := Lib.hid (extR_block x Gs.out (lt_of_heap Gs.out) (by intro r hr; simp only [List.mem_cons, List.not_mem_nil, or_false] at hr; subst hr <;> dsimp only <;> (have := HUB.out; have := HZ.out; omega)))
  replace HB := Lib.hid (extR_below x HB.out HB.out.size (by intro r hr; simp only [List.mem_cons, List.not_mem_nil, or_false] at hr; subst hr <;> dsimp only <;> (have := HUB.out; have := HZ.out; omega)))
  clear hx xGu xGy xGs
  obtain ⟨w7, hw⟩ : ∃ wx, wx = x.val := ⟨_, rfl⟩
  rw [← hw] at Gu Gy Go Gs HB ⊢
  clear hw x
  have cGu := cell_row Gu.out
  have cGy := cell_row Gy.out
  have cGo := cell_row Go.out
  have cGs := cell_row Gs.out
  go_wp2
  exact bodyPost_ret (v := wv Z) (res_c Tryz.results110 _ _ _ _ _ _ rfl Go.out aggW) rfl ⟨rfl, HB.out⟩
set_option maxRecDepth 100000 in
set_option maxHeartbeats 4000000 in
theorem recipR_w (e g U k : Nat) (h : blen U = 255 ∨ blen U = 256) (hU0 : P2 254 ≤ U) (hU : U < P2 256) (hk : k ≤ 10) (w : World) (hE : w.heap[e]? = some (.cells #[.pointer (some ⟨g, 0, none⟩)] 76 (0, 0))) (hI : IsRom w g) (hne : e ≠ g) :
    Calls Tryz.prog 83 #[.pointer (some ⟨e, 0, none⟩), wv U, .int .i64 (k : Int)] w fun x w' => x = .returned (wv (nrY U k)) ∧ VG g w w' := by
  have hUM : U < M := Nat.lt_trans hU (by rw [M_eq]; exact P2_lt (by omega))
  have S1 := Lib.hid (fun w' h => seedR_w g U hUM w' h)
  have S2 := Lib.hid (fun i w' hG => roundR_any w.heap.size U i w' h hU0 hU hG)
  have HK := Lib.hid hk
  have VB := Lib.hid (VG.refl hI)
  have Ge := Lib.hid hE
  have HNE := Lib.hid hne
  obtain ⟨F, hF⟩ : ∃ F : Nat → Nat, F = nrY U := ⟨_, rfl⟩
  rw [← hF] at S1 S2 ⊢
  clear h hU0 hU hk hE hI hne hUM hF
  go_enter Tryz.func83, Tryz.ntmps83
  replace Ge := Lib.hid (keepAl (o' := .cells (wcells U) 24) Ge.out)
  have Gn := Lib.hid (alloc_new (w) (.cells (wcells U) 24))
  replace VB := Lib.hid (VB.out.al (.cells (wcells U) 24))
  replace Ge := Lib.hid (keepAl (o' := .cells (wcells 0) 24) Ge.out)
  replace Gn := Lib.hid (keepAl (o' := .cells (wcells 0) 24) Gn.out)
  have Go := Lib.hid (alloc_new' (w := (w).alloc (.cells (wcells U) 24)) (n := w.heap.size + 1) (.cells (wcells 0) 24) (by simp))
  replace VB := Lib.hid (VB.out.al (.cells (wcells 0) 24))
  have cGe := cell_row Ge.out
  have cGn := cell_row Gn.out
  have cGo := cell_row Go.out
  go_upto_region 2 with fail
  clear cGe cGn cGo
  obtain ⟨wK, hw⟩ : ∃ wx, wx = ((w).alloc (.cells (wcells U) 24)).alloc (.cells (wcells 0) 24) := ⟨_, rfl⟩
  rw [← hw] at Ge Gn Go VB ⊢
  clear hw
  have HZ := Lib.hid (lt_of_heap Go.out)
  have xGe := extg_row (g := g) (B := wK.heap.size) Ge.out (lt_of_heap Ge.out) (by have := VB.out.lt; (try have := HNE.out); (try have := HZ.out); omega)
  have xGn := extg_row (g := g) (B := wK.heap.size) Gn.out (lt_of_heap Gn.out) (by have := VB.out.lt; (try have := HNE.out); (try have := HZ.out); omega)
  have xGo := extg_row (g := g) (B := wK.heap.size) Go.out (lt_of_heap Go.out) (by have := VB.out.lt; (try have := HNE.out); (try have := HZ.out); omega)
  have hnx : Nonempty (ExtG g wK.heap.size wK) := ⟨⟨wK, BelowG.refl VB.out.rom _⟩⟩
  apply wp_region_looseG VB.out.rom (looseRV [_, _, _, _, _, _, undef, undef]) (pureL [0, 1, 2])
  · kernel_rfl
  · kernel_rfl
  · kernel_rfl
  · exact allocs_ok [24] rfl (by intro T hT; simp only [List.mem_cons, List.not_mem_nil, or_false] at hT; subst hT; exact makes_wide)
  · exact looseRV_st _ _
  · change wpLG _ _ _ _ _ _ _ _ 8 0 _ _
    refine wpL_pureG wK rfl rfl rfl rfl (fun K hK K0 hK0 => ?_)
    go_simp
    first | refine hK _ _ rfl rfl ?_ | refine hK0 _ rfl ?_
    clear hK hK0 K K0
    refine wpL_pureG wK rfl rfl rfl rfl (fun K hK K0 hK0 => ?_)
    go_simp
    first | refine hK _ _ rfl rfl ?_ | refine hK0 _ rfl ?_
    clear hK hK0 K K0
    refine wpL_pureG wK rfl rfl rfl rfl (fun K hK K0 hK0 => ?_)
    go_simp
    first | refine hK _ _ rfl rfl ?_ | refine hK0 _ rfl ?_
    clear hK hK0 K K0
    refine wpL_calmG wK rfl rfl rfl rfl (fun K hK K0 hK0 => ?_)
    go_simp
    first | refine hK _ _ rfl rfl ?_ | refine hK0 _ rfl ?_
    clear hK hK0 K K0
    refine wpL_calmG wK rfl rfl rfl rfl (fun K hK K0 hK0 => ?_)
    go_simp
    first | refine hK _ _ rfl rfl ?_ | refine hK0 _ rfl ?_
    clear hK hK0 K K0
    refine wpL_calmG wK rfl rfl rfl rfl (fun K hK K0 hK0 => ?_)
    go_simp
    apply Exists.intro
    apply And.intro
    · intro x
      go_at_call 112
      with_reducible exact Calls.stepV (S1.out _ (extg_rom _))
    refine hK _ _ rfl rfl ?_
    clear hK hK0 K K0
    refine wpL_allocG rfl rfl rfl rfl (fun g6 hg6 => ?_)
    refine wpL_storeG rfl rfl ?_
    refine wpL_nilG (endLG [(24, .tmp 8, .tmp 15)] rfl (by intro q hq; simp only [List.mem_cons, List.not_mem_nil, or_false] at hq; subst hq; exact fits_wv (by kernel_rfl) _) (fun w8 hv hst hap hfin => ?_))
    have Gy : Hid (w8.heap[g6]? = some (.cells (wcells (F 0)) 24 (0, 0))) := Lib.hid (hst 7 _ _ _ _ g6 rfl rfl rfl)
    replace Ge := Lib.hid ((hv.block _ (lt_of_heap Ge.out) (by have := VB.out.lt; (try have := HNE.out); (try have := HZ.out); omega)).trans Ge.out)
    replace Gn := Lib.hid ((hv.block _ (lt_of_heap Gn.out) (by have := VB.out.lt; (try have := HNE.out); (try have := HZ.out); omega)).trans Gn.out)
    replace Go := Lib.hid ((hv.block _ (lt_of_heap Go.out) (by have := VB.out.lt; (try have := HNE.out); (try have := HZ.out); omega)).trans Go.out)
    have HG6 := Lib.hid hg6
    replace VB := Lib.hid (VB.out.trans' hv)
    clear hv hst hap hfin xGe xGn xGo hnx
    clear hg6
    go_wp2
    clear Ge
    obtain ⟨wq, hw⟩ : ∃ wx, wx = w8 := ⟨_, rfl⟩
    rw [← hw] at Gn Go Gy VB ⊢
    clear hw
    go_loopw [17] (fun s17 wr => ∃ i : Nat, s17 = .int .i64 (i : Int) ∧ i ≤ k ∧ Hid (wr.heap[w.heap.size]? = some (.cells (wcells U) 24 (0, 0))) ∧ Hid (wr.heap[g6]? = some (.cells (wcells (F i)) 24 (0, 0))) ∧ Hid (wr.heap[w.heap.size + 1]? = some (.cells (wcells 0) 24 (0, 0))) ∧ Hid (VG g w wr)) (fun s17 _ => k - (intOf s17).toNat)
    case atStart => exact ⟨0, rfl, Nat.zero_le _, Gn, Gy, Go, VB⟩
    case round =>
      clear VB Gn Gy Go
      obtain ⟨i, rfl, hi, Gn, Gy, Go, VB⟩ := hrel
      have hkk := HK.out
      by_cases hlt : i < k
      · have e1 : (i : Int) < (k : Int) := by omega
        have e2 : IntKind.i64.wrap ((i : Int) + 1) = ((i + 1 : Nat) : Int) := by rw [IntWalk.i64_in _ (by omega)]; omega
        have HLT := Lib.hid hlt
        have T2 := Lib.hid (S2.out i)
        obtain ⟨Y, hY⟩ : ∃ Y, Y = F (i + 1) := ⟨_, rfl⟩
        rw [← hY] at T2
        have HY := Lib.hid hY
        clear hlt hi hkk hY
        have cGn := cell_row Gn.out
        have cGy := cell_row Gy.out
        have cGo := cell_row Go.out
        go_wp2_with fail
        refine (T2.out _ Gn.out).mono ?_
        rintro e w9 ⟨rfl, hb⟩
        clear cGn cGy cGo
        replace VB := Lib.hid (VB.out.below hb)
        replace Gn := Lib.hid ((hb.block _ (lt_of_heap Gn.out)).trans Gn.out)
        replace Gy := Lib.hid ((hb.block _ (lt_of_heap Gy.out)).trans Gy.out)
        replace Go := Lib.hid ((hb.block _ (lt_of_heap Go.out)).trans Go.out)
        clear hb
        have HZ2 := Lib.hid (lt_of_heap Gy.out)
        have sty := st_row (P := Tryz.prog) Gy.out rfl (Y)
        replace Gn := Lib.hid ((setRow_other (w9) (g6) _ (wcells (Y)) (by (have := HZ.out; have := HG6.out; omega))).trans Gn.out)
        replace Go := Lib.hid ((setRow_other (w9) (g6) _ (wcells (Y)) (by (have := HZ.out; have := HG6.out; omega))).trans Go.out)
        replace Gy := Lib.hid (setRow_heap (w9) (g6) _ (wcells (Y)) _ _ Gy.out)
        replace VB := Lib.hid (VB.out.row (show _ ≤ g6 by (have := HZ.out; have := HG6.out; omega)) (wcells (Y)))
        go_wp2
        go_roundw
        case rel => exact ⟨i + 1, by go_num, HLT.out, Gn, by rw [← HY.out]; exact Gy, Go, VB⟩
        case measure => have := HLT.out; simp [intOf]; omega
      · obtain rfl : i = k := by omega
        clear hlt hi hkk
        have q1 := cell_row Gy.out
        have sto := st_row (P := Tryz.prog) Go.out rfl (F i)
        replace Gn := Lib.hid ((setRow_other (wr) (w.heap.size + 1) _ (wcells (F i)) (by (have := HZ.out; have := HG6.out; omega))).trans Gn.out)
        replace Gy := Lib.hid ((setRow_other (wr) (w.heap.size + 1) _ (wcells (F i)) (by (have := HZ.out; have := HG6.out; omega))).trans Gy.out)
        replace Go := Lib.hid (setRow_heap (wr) (w.heap.size + 1) _ (wcells (F i)) _ _ Go.out)
        replace VB := Lib.hid (VB.out.row (show _ ≤ w.heap.size + 1 by (have := HZ.out; have := HG6.out; omega)) (wcells (F i)))
        have cGn := cell_row Gn.out
        have cGy := cell_row Gy.out
        have cGo := cell_row Go.out
        go_wp2
        (try rw [Exit.noGoto_ret])
        (try rw [Exit.noGoto_ret])
        (try rw [Exit.noGoto_ret])
        exact bodyPost_ret (v := wv (F i)) (res_c Tryz.results83 _ _ _ _ _ _ rfl Go.out aggW) rfl ⟨rfl, VB.out⟩
end Go.Proofs.YtegmmaaapdgocaaGreat

/- THE WALKS of newtonroot, going on: why there is no root; reciprocals; guesses; roots; an engine made. -/
namespace Go.Proofs.YtegmmaaapdgocaaGreat
open Go Go.RowKit

theorem normS_some (n : Nat) (hn : n < M) : ∃ (U : Nat) (b : Int), ∀ w : World, Calls Tryz.prog 61 #[wv n] w fun e w' => e = .returned (.tuple #[wv U, .int .i64 b, .bool (decide (n ≠ 0 ∧ n < P2 256))]) ∧ Below w.heap.size w w' := by
  by_cases h : n ≠ 0 ∧ n < P2 256
  · refine ⟨upN n, (nrmN n : Nat), fun w => ?_⟩
    rw [decide_eq_true h]
    exact normS_yes n h.1 h.2 w
  · refine ⟨0, 0, fun w => ?_⟩
    rw [decide_eq_false h]
    exact normS_no n hn (by by_cases h0 : n = 0; exact Or.inl h0; exact Or.inr fun h1 => h ⟨h0, h1⟩) w
/-- The guess for the root of a number that is shifted up. -/
def nrq (U : Nat) : Nat := U * nrY U 5 / P2 288
theorem rt_up (n : Nat) : rtN 2 (upN n) / P2 (nrmN n / 2) = rtN 2 n := by
  unfold upN
  rw [show nrmN n = 2 * (nrmN n / 2) by unfold nrmN; omega, Nat.mul_div_cancel_left _ (by decide)]
  exact rt_shift n _
theorem near_rt {g U : Nat} (hU : U < P2 256) (hg : g ≤ rtN 2 U + 1) : g < P2 200 := by
  have h1 := rt_lt hU
  have : P2 128 < P2 200 := P2_lt (by omega)
  omega
attribute [local go_sem ↓] Go.wp_at_zero Go.wp_at_succ
theorem mayQ_w (e n : Nat) (hn : n < M) (w : World) : Calls Tryz.prog 60 #[.pointer (some ⟨e, 0, none⟩), wv n] w fun x w' => x = .returned (.int .i64 (rsE n)) ∧ Below w.heap.size w w' := by
  have S1 := Lib.hid (fun w' => len_w n hn w')
  have hq : blen n ≤ 256 ↔ n < P2 256 := blen_256
  unfold rsE
  obtain ⟨l, hl⟩ : ∃ l, l = blen n := ⟨_, rfl⟩
  rw [← hl] at S1 hq
  by_cases h : n < P2 256
  · rw [if_pos h]
    have b1 : decide ((256 : Int) < (l : Int)) = false := decide_eq_false (by have := hq.2 h; omega)
    clear hn hq hl h
    go_enter Tryz.func60, Tryz.ntmps60
    have HB := Lib.hid (Below.refl w.heap.size w)
    have Gn := Lib.hid (alloc_new (w) (.cells (wcells n) 24))
    replace HB := Lib.hid (below_al HB.out (.cells (wcells n) 24))
    have cGn := cell_row Gn.out
    go_wp2_with fail
    refine (S1.out _).mono ?_
    rintro e w1 ⟨rfl, hb⟩
    clear cGn
    replace HB := Lib.hid (below_then HB.out hb)
    replace Gn := Lib.hid ((hb.block _ (lt_of_heap Gn.out)).trans Gn.out)
    clear hb
    have cGn := cell_row Gn.out
    go_wp2
    go_ret
    exact ⟨rfl, HB.out⟩
  · rw [if_neg h]
    have b1 : decide ((256 : Int) < (l : Int)) = true := decide_eq_true (by have : ¬ l ≤ 256 := fun hh => h (hq.1 hh); omega)
    clear hn hq hl h
    go_enter Tryz.func60, Tryz.ntmps60
    have HB := Lib.hid (Below.refl w.heap.size w)
    have Gn := Lib.hid (alloc_new (w) (.cells (wcells n) 24))
    replace HB := Lib.hid (below_al HB.out (.cells (wcells n) 24))
    have cGn := cell_row Gn.out
    go_wp2_with fail
    refine (S1.out _).mono ?_
    rintro e w2 ⟨rfl, hb⟩
    clear cGn
    replace HB := Lib.hid (below_then HB.out hb)
    replace Gn := Lib.hid ((hb.block _ (lt_of_heap Gn.out)).trans Gn.out)
    clear hb
    have cGn := cell_row Gn.out
    go_wp2
    go_ret
    exact ⟨rfl, HB.out⟩
theorem mayQ_nil (n : Nat) (w : World) : Calls Tryz.prog 60 #[.pointer none, wv n] w fun x w' => x = .returned (.int .i64 6) ∧ Below w.heap.size w w' := by
  go_enter Tryz.func60, Tryz.ntmps60
  have HB := Lib.hid (Below.refl w.heap.size w)
  have Gn := Lib.hid (alloc_new (w) (.cells (wcells n) 24))
  replace HB := Lib.hid (below_al HB.out (.cells (wcells n) 24))
  have cGn := cell_row Gn.out
  go_wp2
  go_ret
  exact ⟨rfl, HB.out⟩
set_option maxRecDepth 100000 in
set_option maxHeartbeats 2000000 in
theorem guessR_w (e g U : Nat) (h : blen U = 255 ∨ blen U = 256) (hU0 : P2 254 ≤ U) (hU : U < P2 256) (w : World) (hE : w.heap[e]? = some (.cells #[.pointer (some ⟨g, 0, none⟩)] 76 (0, 0))) (hI : IsRom w g) (hne : e ≠ g) :
    Calls Tryz.prog 63 #[.pointer (some ⟨e, 0, none⟩), wv U] w fun x w' => x = .returned (wv (nrq U)) ∧ VG g w w' := by
  obtain ⟨b1, _⟩ := nr_bounds (k := 5) h hU0 hU
  have hUM : U < M := Nat.lt_trans hU (by rw [M_eq]; exact P2_lt (by omega))
  have h162 : P2 162 < M := by rw [M_eq]; exact P2_lt (by omega)
  have hg := near_rt hU (nr_guess h hU0 hU).1
  have h200 : P2 200 < M := by rw [M_eq]; exact P2_lt (by omega)
  have S1 := Lib.hid (fun w' hE hI => recipR_w e g U 5 h hU0 hU (by decide) w' hE hI hne)
  have S2 : Hid (∀ w' : World, Calls Tryz.prog 93 #[wv U, wv (nrY U 5), .int .i64 288] w' fun e w'' => e = .returned (wv (nrq U)) ∧ Below w'.heap.size w' w'') := Lib.hid fun w' => times_small U (nrY U 5) 288 hUM (by omega) (by decide) (by omega) w'
  obtain ⟨y, hy⟩ : ∃ y, y = nrY U 5 := ⟨_, rfl⟩
  rw [← hy] at S1 S2
  obtain ⟨q, hq⟩ : ∃ y, y = nrq U := ⟨_, rfl⟩
  rw [← hq] at S2 ⊢
  have VB := Lib.hid (VG.refl hI)
  have Ge := Lib.hid hE
  have HNE := Lib.hid hne
  clear h hU0 hU hE hI hne b1 hUM h162 hg h200 hy hq
  go_enter Tryz.func63, Tryz.ntmps63
  replace Ge := Lib.hid (keepAl (o' := .cells (wcells U) 24) Ge.out)
  have Gn := Lib.hid (alloc_new (w) (.cells (wcells U) 24))
  replace VB := Lib.hid (VB.out.al (.cells (wcells U) 24))
  replace Ge := Lib.hid (keepAl (o' := .cells (wcells 0) 24) Ge.out)
  replace Gn := Lib.hid (keepAl (o' := .cells (wcells 0) 24) Gn.out)
  have Go := Lib.hid (alloc_new' (w := (w).alloc (.cells (wcells U) 24)) (n := w.heap.size + 1) (.cells (wcells 0) 24) (by simp))
  replace VB := Lib.hid (VB.out.al (.cells (wcells 0) 24))
  have cGe := cell_row Ge.out
  have cGn := cell_row Gn.out
  have cGo := cell_row Go.out
  go_upto_region 1 with fail
  clear cGe cGn cGo
  obtain ⟨w3, hw⟩ : ∃ wx, wx = ((w).alloc (.cells (wcells U) 24)).alloc (.cells (wcells 0) 24) := ⟨_, rfl⟩
  rw [← hw] at Ge Gn Go VB ⊢
  clear hw
  have xGe := extg_row (g := g) (B := w3.heap.size) Ge.out (lt_of_heap Ge.out) (by have := VB.out.lt; (try have := HNE.out); (try have := HZ.out); omega)
  have xGn := extg_row (g := g) (B := w3.heap.size) Gn.out (lt_of_heap Gn.out) (by have := VB.out.lt; (try have := HNE.out); (try have := HZ.out); omega)
  have xGo := extg_row (g := g) (B := w3.heap.size) Go.out (lt_of_heap Go.out) (by have := VB.out.lt; (try have := HNE.out); (try have := HZ.out); omega)
  have hnx : Nonempty (ExtG g w3.heap.size w3) := ⟨⟨w3, BelowG.refl VB.out.rom _⟩⟩
  refine wp_region_tailG _ 5 w3.heap.size VB.out.rom (by kernel_rfl) (by kernel_rfl) ?_
  simp only [List.take_succ_cons, List.take_zero, List.drop_succ_cons, List.drop_zero]
  repeat (go_big_quiet_step (first | (go_at_call 83; with_reducible exact Calls.quietG (Nat.le_refl _) (Calls.stepV (S1.out _ (extg_block Ge.out (lt_of_heap Ge.out) HNE.out _) (extg_rom _)))) | (go_at_call 93; with_reducible exact Calls.quietG (Nat.le_refl _) (Calls.stepG _ (S2.out _)))))
  refine wpQuiet_nil ?_
  intro w4 hv
  clear xGe xGn xGo hnx
  replace Ge := Lib.hid ((hv.block _ (lt_of_heap Ge.out) (by have := VB.out.lt; (try have := HNE.out); (try have := HZ.out); omega)).trans Ge.out)
  replace Gn := Lib.hid ((hv.block _ (lt_of_heap Gn.out) (by have := VB.out.lt; (try have := HNE.out); (try have := HZ.out); omega)).trans Gn.out)
  replace Go := Lib.hid ((hv.block _ (lt_of_heap Go.out) (by have := VB.out.lt; (try have := HNE.out); (try have := HZ.out); omega)).trans Go.out)
  replace VB := Lib.hid (VB.out.trans' hv)
  clear hv
  have sto := st_row (P := Tryz.prog) Go.out rfl (q)
  replace Go := Lib.hid (setRow_heap (w4) (w.heap.size + 1) _ (wcells (q)) _ _ Go.out)
  replace VB := Lib.hid (VB.out.row (show _ ≤ w.heap.size + 1 by (omega)) (wcells (q)))
  have cGo := cell_row Go.out
  go_wp2
  exact bodyPost_ret (v := wv q) (res_c Tryz.results63 _ _ _ _ _ _ rfl Go.out aggW) rfl ⟨rfl, VB.out⟩
set_option maxRecDepth 100000 in
set_option maxHeartbeats 2000000 in
theorem guessQ_no (ep : Value) (n : Nat) (E : Int) (hn : n < M) (hc : E ≠ 0 ∨ n = 0) (hM : ∀ w', Calls Tryz.prog 60 #[ep, wv n] w' fun x w'' => x = .returned (.int .i64 E) ∧ Below w'.heap.size w' w'') (w : World) :
    Calls Tryz.prog 27 #[ep, wv n] w fun x w' => x = .returned (.tuple #[wv 0, .int .i64 E]) ∧ Below w.heap.size w w' := by
  obtain ⟨U, b, hN⟩ := normS_some n hn
  have SN := Lib.hid hN
  have SM := Lib.hid hM
  obtain ⟨ok, hok⟩ : ∃ x, x = decide (n ≠ 0 ∧ n < P2 256) := ⟨_, rfl⟩
  rw [← hok] at SN
  cases ok
  · skip
    clear hN hM hn hc hok
    go_enter Tryz.func27, Tryz.ntmps27
    have HB := Lib.hid (Below.refl w.heap.size w)
    have Gn := Lib.hid (alloc_new (w) (.cells (wcells n) 24))
    replace HB := Lib.hid (below_al HB.out (.cells (wcells n) 24))
    replace Gn := Lib.hid (keepAl (o' := .cells (wcells 0) 24) Gn.out)
    have Go := Lib.hid (alloc_new' (w := (w).alloc (.cells (wcells n) 24)) (n := w.heap.size + 1) (.cells (wcells 0) 24) (by simp))
    replace HB := Lib.hid (below_al HB.out (.cells (wcells 0) 24))
    have cGn := cell_row Gn.out
    have cGo := cell_row Go.out
    go_wp2_with fail
    refine (SM.out _).mono ?_
    rintro e w5 ⟨rfl, hb⟩
    clear cGn cGo
    replace HB := Lib.hid (below_then HB.out hb)
    replace Gn := Lib.hid ((hb.block _ (lt_of_heap Gn.out)).trans Gn.out)
    replace Go := Lib.hid ((hb.block _ (lt_of_heap Go.out)).trans Go.out)
    clear hb
    have cGn := cell_row Gn.out
    have cGo := cell_row Go.out
    go_wp2_with fail
    refine (SN.out _).mono ?_
    rintro e w6 ⟨rfl, hb⟩
    clear cGn cGo
    replace HB := Lib.hid (below_then HB.out hb)
    replace Gn := Lib.hid ((hb.block _ (lt_of_heap Gn.out)).trans Gn.out)
    replace Go := Lib.hid ((hb.block _ (lt_of_heap Go.out)).trans Go.out)
    clear hb
    have HZ := Lib.hid (lt_of_heap Go.out)
    replace Gn := Lib.hid (keepAl (o' := .cells (wcells U) 24) Gn.out)
    replace Go := Lib.hid (keepAl (o' := .cells (wcells U) 24) Go.out)
    have Gu := Lib.hid (alloc_new (w6) (.cells (wcells U) 24))
    replace HB := Lib.hid (below_al HB.out (.cells (wcells U) 24))
    have sto := st_row (P := Tryz.prog) Go.out rfl (0)
    replace Gn := Lib.hid ((setRow_other ((w6).alloc (.cells (wcells U) 24)) (w.heap.size + 1) _ (wcells (0)) (by (have := HZ.out; omega))).trans Gn.out)
    replace Gu := Lib.hid ((setRow_other ((w6).alloc (.cells (wcells U) 24)) (w.heap.size + 1) _ (wcells (0)) (by (have := HZ.out; omega))).trans Gu.out)
    replace Go := Lib.hid (setRow_heap ((w6).alloc (.cells (wcells U) 24)) (w.heap.size + 1) _ (wcells (0)) _ _ Go.out)
    replace HB := Lib.hid (below_setRow' HB.out (show _ ≤ w.heap.size + 1 by (have := HZ.out; omega)) (wcells (0)))
    have cGn := cell_row Gn.out
    have cGo := cell_row Go.out
    have cGu := cell_row Gu.out
    go_wp2
    exact bodyPost_ret (v := .tuple #[wv 0, .int .i64 E]) (res_ct Tryz.results27 _ _ _ _ _ _ _ rfl rfl Go.out aggW) rfl ⟨rfl, HB.out⟩
  · have hE : E ≠ 0 := by
      rcases hc with h | h
      · exact h
      · exact absurd h (of_decide_eq_true hok.symm).1
    have b1 : (E != 0) = true := by simp [hE]
    clear hE
    clear hN hM hn hc hok
    go_enter Tryz.func27, Tryz.ntmps27
    have HB := Lib.hid (Below.refl w.heap.size w)
    have Gn := Lib.hid (alloc_new (w) (.cells (wcells n) 24))
    replace HB := Lib.hid (below_al HB.out (.cells (wcells n) 24))
    replace Gn := Lib.hid (keepAl (o' := .cells (wcells 0) 24) Gn.out)
    have Go := Lib.hid (alloc_new' (w := (w).alloc (.cells (wcells n) 24)) (n := w.heap.size + 1) (.cells (wcells 0) 24) (by simp))
    replace HB := Lib.hid (below_al HB.out (.cells (wcells 0) 24))
    have cGn := cell_row Gn.out
    have cGo := cell_row Go.out
    go_wp2_with fail
    refine (SM.out _).mono ?_
    rintro e w7 ⟨rfl, hb⟩
    clear cGn cGo
    replace HB := Lib.hid (below_then HB.out hb)
    replace Gn := Lib.hid ((hb.block _ (lt_of_heap Gn.out)).trans Gn.out)
    replace Go := Lib.hid ((hb.block _ (lt_of_heap Go.out)).trans Go.out)
    clear hb
    have cGn := cell_row Gn.out
    have cGo := cell_row Go.out
    go_wp2_with fail
    refine (SN.out _).mono ?_
    rintro e w8 ⟨rfl, hb⟩
    clear cGn cGo
    replace HB := Lib.hid (below_then HB.out hb)
    replace Gn := Lib.hid ((hb.block _ (lt_of_heap Gn.out)).trans Gn.out)
    replace Go := Lib.hid ((hb.block _ (lt_of_heap Go.out)).trans Go.out)
    clear hb
    have HZ := Lib.hid (lt_of_heap Go.out)
    replace Gn := Lib.hid (keepAl (o' := .cells (wcells U) 24) Gn.out)
    replace Go := Lib.hid (keepAl (o' := .cells (wcells U) 24) Go.out)
    have Gu := Lib.hid (alloc_new (w8) (.cells (wcells U) 24))
    replace HB := Lib.hid (below_al HB.out (.cells (wcells U) 24))
    have sto := st_row (P := Tryz.prog) Go.out rfl (0)
    replace Gn := Lib.hid ((setRow_other ((w8).alloc (.cells (wcells U) 24)) (w.heap.size + 1) _ (wcells (0)) (by (have := HZ.out; omega))).trans Gn.out)
    replace Gu := Lib.hid ((setRow_other ((w8).alloc (.cells (wcells U) 24)) (w.heap.size + 1) _ (wcells (0)) (by (have := HZ.out; omega))).trans Gu.out)
    replace Go := Lib.hid (setRow_heap ((w8).alloc (.cells (wcells U) 24)) (w.heap.size + 1) _ (wcells (0)) _ _ Go.out)
    replace HB := Lib.hid (below_setRow' HB.out (show _ ≤ w.heap.size + 1 by (have := HZ.out; omega)) (wcells (0)))
    have cGn := cell_row Gn.out
    have cGo := cell_row Go.out
    have cGu := cell_row Gu.out
    go_wp2
    exact bodyPost_ret (v := .tuple #[wv 0, .int .i64 E]) (res_ct Tryz.results27 _ _ _ _ _ _ _ rfl rfl Go.out aggW) rfl ⟨rfl, HB.out⟩
set_option maxRecDepth 100000 in
set_option maxHeartbeats 2000000 in
theorem guessQ_yes (e g n : Nat) (h0 : n ≠ 0) (h : n < P2 256) (w : World) (hE : w.heap[e]? = some (.cells #[.pointer (some ⟨g, 0, none⟩)] 76 (0, 0))) (hI : IsRom w g) (hne : e ≠ g) :
    Calls Tryz.prog 27 #[.pointer (some ⟨e, 0, none⟩), wv n] w fun x w' => x = .returned (.tuple #[wv (nrq (upN n)), .int .i64 0]) ∧ VG g w w' := by
  obtain ⟨u1, u2, u3⟩ := up_range h0 h
  have hn : n < M := Nat.lt_trans h (by rw [M_eq]; exact P2_lt (by omega))
  have SM := Lib.hid (fun w' => mayQ_w e n hn w')
  rw [(rs_yes h).2.2] at SM
  have SN := Lib.hid (fun w' => normS_yes n h0 h w')
  have S1 := Lib.hid (fun w' hE hI => guessR_w e g (upN n) u3 u1 u2 w' hE hI hne)
  obtain ⟨q, hq⟩ : ∃ y, y = nrq (upN n) := ⟨_, rfl⟩
  rw [← hq] at S1 ⊢
  obtain ⟨U, hU⟩ : ∃ y, y = upN n := ⟨_, rfl⟩
  rw [← hU] at SN S1
  obtain ⟨b, hb⟩ : ∃ y, y = nrmN n := ⟨_, rfl⟩
  rw [← hb] at SN
  have VB := Lib.hid (VG.refl hI)
  have Ge := Lib.hid hE
  have HNE := Lib.hid hne
  clear h0 h hE hI hne u1 u2 u3 hn hq hU hb
  go_enter Tryz.func27, Tryz.ntmps27
  replace Ge := Lib.hid (keepAl (o' := .cells (wcells n) 24) Ge.out)
  have Gn := Lib.hid (alloc_new (w) (.cells (wcells n) 24))
  replace VB := Lib.hid (VB.out.al (.cells (wcells n) 24))
  replace Ge := Lib.hid (keepAl (o' := .cells (wcells 0) 24) Ge.out)
  replace Gn := Lib.hid (keepAl (o' := .cells (wcells 0) 24) Gn.out)
  have Go := Lib.hid (alloc_new' (w := (w).alloc (.cells (wcells n) 24)) (n := w.heap.size + 1) (.cells (wcells 0) 24) (by simp))
  replace VB := Lib.hid (VB.out.al (.cells (wcells 0) 24))
  have cGe := cell_row Ge.out
  have cGn := cell_row Gn.out
  have cGo := cell_row Go.out
  go_wp2_with fail
  refine (SM.out _).mono ?_
  rintro e w9 ⟨rfl, hb⟩
  clear cGe cGn cGo
  replace VB := Lib.hid (VB.out.below hb)
  replace Ge := Lib.hid ((hb.block _ (lt_of_heap Ge.out)).trans Ge.out)
  replace Gn := Lib.hid ((hb.block _ (lt_of_heap Gn.out)).trans Gn.out)
  replace Go := Lib.hid ((hb.block _ (lt_of_heap Go.out)).trans Go.out)
  clear hb
  have cGe := cell_row Ge.out
  have cGn := cell_row Gn.out
  have cGo := cell_row Go.out
  go_wp2_with fail
  refine (SN.out _).mono ?_
  rintro e w10 ⟨rfl, hb⟩
  clear cGe cGn cGo
  replace VB := Lib.hid (VB.out.below hb)
  replace Ge := Lib.hid ((hb.block _ (lt_of_heap Ge.out)).trans Ge.out)
  replace Gn := Lib.hid ((hb.block _ (lt_of_heap Gn.out)).trans Gn.out)
  replace Go := Lib.hid ((hb.block _ (lt_of_heap Go.out)).trans Go.out)
  clear hb
  have HZ := Lib.hid (lt_of_heap Go.out)
  replace Ge := Lib.hid (keepAl (o' := .cells (wcells U) 24) Ge.out)
  replace Gn := Lib.hid (keepAl (o' := .cells (wcells U) 24) Gn.out)
  replace Go := Lib.hid (keepAl (o' := .cells (wcells U) 24) Go.out)
  have Gu := Lib.hid (alloc_new (w10) (.cells (wcells U) 24))
  replace VB := Lib.hid (VB.out.al (.cells (wcells U) 24))
  have cGe := cell_row Ge.out
  have cGn := cell_row Gn.out
  have cGo := cell_row Go.out
  have cGu := cell_row Gu.out
  go_wp2_with fail
  refine (S1.out _ Ge.out VB.out.rom).mono ?_
  rintro e w11 ⟨rfl, hv⟩
  clear cGe cGn cGo cGu
  replace Ge := Lib.hid (hv.heap Ge.out (by have := VB.out.lt; (try have := HNE.out); (try have := HZ.out); omega))
  replace Gn := Lib.hid (hv.heap Gn.out (by have := VB.out.lt; (try have := HNE.out); (try have := HZ.out); omega))
  replace Go := Lib.hid (hv.heap Go.out (by have := VB.out.lt; (try have := HNE.out); (try have := HZ.out); omega))
  replace Gu := Lib.hid (hv.heap Gu.out (by have := VB.out.lt; (try have := HNE.out); (try have := HZ.out); omega))
  replace VB := Lib.hid (VB.out.trans hv)
  clear hv
  have sto := st_row (P := Tryz.prog) Go.out rfl (q)
  replace Go := Lib.hid (setRow_heap (w11) (w.heap.size + 1) _ (wcells (q)) _ _ Go.out)
  replace VB := Lib.hid (VB.out.row (show _ ≤ w.heap.size + 1 by (omega)) (wcells (q)))
  have cGo := cell_row Go.out
  go_wp2
  exact bodyPost_ret (v := .tuple #[wv q, .int .i64 0]) (res_ct Tryz.results27 _ _ _ _ _ _ _ rfl rfl Go.out aggW) rfl ⟨rfl, VB.out⟩
set_option maxRecDepth 100000 in
set_option maxHeartbeats 2000000 in
theorem rootQ_no (ep : Value) (n : Nat) (E : Int) (hn : n < M) (hc : E ≠ 0 ∨ n = 0) (hM : ∀ w', Calls Tryz.prog 60 #[ep, wv n] w' fun x w'' => x = .returned (.int .i64 E) ∧ Below w'.heap.size w' w'') (w : World) :
    Calls Tryz.prog 17 #[ep, wv n] w fun x w' => x = .returned (.tuple #[wv 0, wv 0, .int .i64 E]) ∧ Below w.heap.size w w' := by
  obtain ⟨U, b, hN⟩ := normS_some n hn
  have SN := Lib.hid hN
  have SM := Lib.hid hM
  obtain ⟨ok, hok⟩ : ∃ x, x = decide (n ≠ 0 ∧ n < P2 256) := ⟨_, rfl⟩
  rw [← hok] at SN
  cases ok
  · skip
    clear hN hM hn hc hok
    go_enter Tryz.func17, Tryz.ntmps17
    have HB := Lib.hid (Below.refl w.heap.size w)
    have Gn := Lib.hid (alloc_new (w) (.cells (wcells n) 24))
    replace HB := Lib.hid (below_al HB.out (.cells (wcells n) 24))
    replace Gn := Lib.hid (keepAl (o' := .cells (wcells 0) 24) Gn.out)
    have Gx := Lib.hid (alloc_new' (w := (w).alloc (.cells (wcells n) 24)) (n := w.heap.size + 1) (.cells (wcells 0) 24) (by simp))
    replace HB := Lib.hid (below_al HB.out (.cells (wcells 0) 24))
    replace Gn := Lib.hid (keepAl (o' := .cells (wcells 0) 24) Gn.out)
    replace Gx := Lib.hid (keepAl (o' := .cells (wcells 0) 24) Gx.out)
    have Gy := Lib.hid (alloc_new' (w := ((w).alloc (.cells (wcells n) 24)).alloc (.cells (wcells 0) 24)) (n := w.heap.size + 1 + 1) (.cells (wcells 0) 24) (by simp))
    replace HB := Lib.hid (below_al HB.out (.cells (wcells 0) 24))
    have cGn := cell_row Gn.out
    have cGx := cell_row Gx.out
    have cGy := cell_row Gy.out
    go_wp2_with fail
    refine (SM.out _).mono ?_
    rintro e w12 ⟨rfl, hb⟩
    clear cGn cGx cGy
    replace HB := Lib.hid (below_then HB.out hb)
    replace Gn := Lib.hid ((hb.block _ (lt_of_heap Gn.out)).trans Gn.out)
    replace Gx := Lib.hid ((hb.block _ (lt_of_heap Gx.out)).trans Gx.out)
    replace Gy := Lib.hid ((hb.block _ (lt_of_heap Gy.out)).trans Gy.out)
    clear hb
    have cGn := cell_row Gn.out
    have cGx := cell_row Gx.out
    have cGy := cell_row Gy.out
    go_wp2_with fail
    refine (SN.out _).mono ?_
    rintro e w13 ⟨rfl, hb⟩
    clear cGn cGx cGy
    replace HB := Lib.hid (below_then HB.out hb)
    replace Gn := Lib.hid ((hb.block _ (lt_of_heap Gn.out)).trans Gn.out)
    replace Gx := Lib.hid ((hb.block _ (lt_of_heap Gx.out)).trans Gx.out)
    replace Gy := Lib.hid ((hb.block _ (lt_of_heap Gy.out)).trans Gy.out)
    clear hb
    have HZ := Lib.hid (lt_of_heap Gy.out)
    replace Gn := Lib.hid (keepAl (o' := .cells (wcells U) 24) Gn.out)
    replace Gx := Lib.hid (keepAl (o' := .cells (wcells U) 24) Gx.out)
    replace Gy := Lib.hid (keepAl (o' := .cells (wcells U) 24) Gy.out)
    have Gu := Lib.hid (alloc_new (w13) (.cells (wcells U) 24))
    replace HB := Lib.hid (below_al HB.out (.cells (wcells U) 24))
    have stx := st_row (P := Tryz.prog) Gx.out rfl (0)
    replace Gn := Lib.hid ((setRow_other ((w13).alloc (.cells (wcells U) 24)) (w.heap.size + 1) _ (wcells (0)) (by (have := HZ.out; omega))).trans Gn.out)
    replace Gy := Lib.hid ((setRow_other ((w13).alloc (.cells (wcells U) 24)) (w.heap.size + 1) _ (wcells (0)) (by (have := HZ.out; omega))).trans Gy.out)
    replace Gu := Lib.hid ((setRow_other ((w13).alloc (.cells (wcells U) 24)) (w.heap.size + 1) _ (wcells (0)) (by (have := HZ.out; omega))).trans Gu.out)
    replace Gx := Lib.hid (setRow_heap ((w13).alloc (.cells (wcells U) 24)) (w.heap.size + 1) _ (wcells (0)) _ _ Gx.out)
    replace HB := Lib.hid (below_setRow' HB.out (show _ ≤ w.heap.size + 1 by (have := HZ.out; omega)) (wcells (0)))
    have q1 := stx
    clear stx
    have sty := st_row (P := Tryz.prog) Gy.out rfl (0)
    replace Gn := Lib.hid ((setRow_other (((w13).alloc (.cells (wcells U) 24)).setRow (w.heap.size + 1) (wcells (0))) (w.heap.size + 1 + 1) _ (wcells (0)) (by (have := HZ.out; omega))).trans Gn.out)
    replace Gx := Lib.hid ((setRow_other (((w13).alloc (.cells (wcells U) 24)).setRow (w.heap.size + 1) (wcells (0))) (w.heap.size + 1 + 1) _ (wcells (0)) (by (have := HZ.out; omega))).trans Gx.out)
    replace Gu := Lib.hid ((setRow_other (((w13).alloc (.cells (wcells U) 24)).setRow (w.heap.size + 1) (wcells (0))) (w.heap.size + 1 + 1) _ (wcells (0)) (by (have := HZ.out; omega))).trans Gu.out)
    replace Gy := Lib.hid (setRow_heap (((w13).alloc (.cells (wcells U) 24)).setRow (w.heap.size + 1) (wcells (0))) (w.heap.size + 1 + 1) _ (wcells (0)) _ _ Gy.out)
    replace HB := Lib.hid (below_setRow' HB.out (show _ ≤ w.heap.size + 1 + 1 by (have := HZ.out; omega)) (wcells (0)))
    have cGn := cell_row Gn.out
    have cGx := cell_row Gx.out
    have cGy := cell_row Gy.out
    have cGu := cell_row Gu.out
    go_wp2
    exact bodyPost_ret (v := .tuple #[wv 0, wv 0, .int .i64 E]) (res_cct Tryz.results17 _ _ _ _ _ _ _ _ _ _ _ rfl rfl rfl Gx.out Gy.out aggW aggW) rfl ⟨rfl, HB.out⟩
  · have hE : E ≠ 0 := by
      rcases hc with h | h
      · exact h
      · exact absurd h (of_decide_eq_true hok.symm).1
    have b1 : (E != 0) = true := by simp [hE]
    clear hE
    clear hN hM hn hc hok
    go_enter Tryz.func17, Tryz.ntmps17
    have HB := Lib.hid (Below.refl w.heap.size w)
    have Gn := Lib.hid (alloc_new (w) (.cells (wcells n) 24))
    replace HB := Lib.hid (below_al HB.out (.cells (wcells n) 24))
    replace Gn := Lib.hid (keepAl (o' := .cells (wcells 0) 24) Gn.out)
    have Gx := Lib.hid (alloc_new' (w := (w).alloc (.cells (wcells n) 24)) (n := w.heap.size + 1) (.cells (wcells 0) 24) (by simp))
    replace HB := Lib.hid (below_al HB.out (.cells (wcells 0) 24))
    replace Gn := Lib.hid (keepAl (o' := .cells (wcells 0) 24) Gn.out)
    replace Gx := Lib.hid (keepAl (o' := .cells (wcells 0) 24) Gx.out)
    have Gy := Lib.hid (alloc_new' (w := ((w).alloc (.cells (wcells n) 24)).alloc (.cells (wcells 0) 24)) (n := w.heap.size + 1 + 1) (.cells (wcells 0) 24) (by simp))
    replace HB := Lib.hid (below_al HB.out (.cells (wcells 0) 24))
    have cGn := cell_row Gn.out
    have cGx := cell_row Gx.out
    have cGy := cell_row Gy.out
    go_wp2_with fail
    refine (SM.out _).mono ?_
    rintro e w14 ⟨rfl, hb⟩
    clear cGn cGx cGy
    replace HB := Lib.hid (below_then HB.out hb)
    replace Gn := Lib.hid ((hb.block _ (lt_of_heap Gn.out)).trans Gn.out)
    replace Gx := Lib.hid ((hb.block _ (lt_of_heap Gx.out)).trans Gx.out)
    replace Gy := Lib.hid ((hb.block _ (lt_of_heap Gy.out)).trans Gy.out)
    clear hb
    have cGn := cell_row Gn.out
    have cGx := cell_row Gx.out
    have cGy := cell_row Gy.out
    go_wp2_with fail
    refine (SN.out _).mono ?_
    rintro e w15 ⟨rfl, hb⟩
    clear cGn cGx cGy
    replace HB := Lib.hid (below_then HB.out hb)
    replace Gn := Lib.hid ((hb.block _ (lt_of_heap Gn.out)).trans Gn.out)
    replace Gx := Lib.hid ((hb.block _ (lt_of_heap Gx.out)).trans Gx.out)
    replace Gy := Lib.hid ((hb.block _ (lt_of_heap Gy.out)).trans Gy.out)
    clear hb
    have HZ := Lib.hid (lt_of_heap Gy.out)
    replace Gn := Lib.hid (keepAl (o' := .cells (wcells U) 24) Gn.out)
    replace Gx := Lib.hid (keepAl (o' := .cells (wcells U) 24) Gx.out)
    replace Gy := Lib.hid (keepAl (o' := .cells (wcells U) 24) Gy.out)
    have Gu := Lib.hid (alloc_new (w15) (.cells (wcells U) 24))
    replace HB := Lib.hid (below_al HB.out (.cells (wcells U) 24))
    have stx := st_row (P := Tryz.prog) Gx.out rfl (0)
    replace Gn := Lib.hid ((setRow_other ((w15).alloc (.cells (wcells U) 24)) (w.heap.size + 1) _ (wcells (0)) (by (have := HZ.out; omega))).trans Gn.out)
    replace Gy := Lib.hid ((setRow_other ((w15).alloc (.cells (wcells U) 24)) (w.heap.size + 1) _ (wcells (0)) (by (have := HZ.out; omega))).trans Gy.out)
    replace Gu := Lib.hid ((setRow_other ((w15).alloc (.cells (wcells U) 24)) (w.heap.size + 1) _ (wcells (0)) (by (have := HZ.out; omega))).trans Gu.out)
    replace Gx := Lib.hid (setRow_heap ((w15).alloc (.cells (wcells U) 24)) (w.heap.size + 1) _ (wcells (0)) _ _ Gx.out)
    replace HB := Lib.hid (below_setRow' HB.out (show _ ≤ w.heap.size + 1 by (have := HZ.out; omega)) (wcells (0)))
    have q1 := stx
    clear stx
    have sty := st_row (P := Tryz.prog) Gy.out rfl (0)
    replace Gn := Lib.hid ((setRow_other (((w15).alloc (.cells (wcells U) 24)).setRow (w.heap.size + 1) (wcells (0))) (w.heap.size + 1 + 1) _ (wcells (0)) (by (have := HZ.out; omega))).trans Gn.out)
    replace Gx := Lib.hid ((setRow_other (((w15).alloc (.cells (wcells U) 24)).setRow (w.heap.size + 1) (wcells (0))) (w.heap.size + 1 + 1) _ (wcells (0)) (by (have := HZ.out; omega))).trans Gx.out)
    replace Gu := Lib.hid ((setRow_other (((w15).alloc (.cells (wcells U) 24)).setRow (w.heap.size + 1) (wcells (0))) (w.heap.size + 1 + 1) _ (wcells (0)) (by (have := HZ.out; omega))).trans Gu.out)
    replace Gy := Lib.hid (setRow_heap (((w15).alloc (.cells (wcells U) 24)).setRow (w.heap.size + 1) (wcells (0))) (w.heap.size + 1 + 1) _ (wcells (0)) _ _ Gy.out)
    replace HB := Lib.hid (below_setRow' HB.out (show _ ≤ w.heap.size + 1 + 1 by (have := HZ.out; omega)) (wcells (0)))
    have cGn := cell_row Gn.out
    have cGx := cell_row Gx.out
    have cGy := cell_row Gy.out
    have cGu := cell_row Gu.out
    go_wp2
    exact bodyPost_ret (v := .tuple #[wv 0, wv 0, .int .i64 E]) (res_cct Tryz.results17 _ _ _ _ _ _ _ _ _ _ _ rfl rfl rfl Gx.out Gy.out aggW aggW) rfl ⟨rfl, HB.out⟩
set_option maxRecDepth 100000 in
set_option maxHeartbeats 4000000 in
theorem rootQ_yes (e g n : Nat) (h0 : n ≠ 0) (h : n < P2 256) (w : World) (hE : w.heap[e]? = some (.cells #[.pointer (some ⟨g, 0, none⟩)] 76 (0, 0))) (hI : IsRom w g) (hne : e ≠ g) :
    Calls Tryz.prog 17 #[.pointer (some ⟨e, 0, none⟩), wv n] w fun x w' => x = .returned (.tuple #[wv (rtN 2 n), wv (n - rtN 2 n * rtN 2 n), .int .i64 0]) ∧ VG g w w' := by
  obtain ⟨u1, u2, u3⟩ := up_range h0 h
  obtain ⟨g1, g2⟩ := nr_guess u3 u1 u2
  have hn : n < M := Nat.lt_trans h (by rw [M_eq]; exact P2_lt (by omega))
  have SM := Lib.hid (fun w' => mayQ_w e n hn w')
  rw [(rs_yes h).2.2] at SM
  have SN := Lib.hid (fun w' => normS_yes n h0 h w')
  have S1 := Lib.hid (fun w' hE hI => guessR_w e g (upN n) u3 u1 u2 w' hE hI hne)
  have S2 := Lib.hid (fun w' => fixroot_yes (upN n) (nrq (upN n)) 4 u2 (near_rt u2 g1) (by decide) (near_4 g1 g2) w')
  have h128 : P2 128 < M := by rw [M_eq]; exact P2_lt (by omega)
  have hr := rt_lt u2
  have hbn : nrmN n / 2 ≤ 512 := by unfold nrmN; omega
  have S3 := Lib.hid (fun w' => shr_any (rtN 2 (upN n)) (by omega) ((nrmN n / 2 : Nat) : Int) w' (by omega) (by omega))
  rw [clampN_at hbn, rt_up n] at S3
  have hS := rt_lt h
  have hSS : rtN 2 n * rtN 2 n ≤ n := by have := (rt_spec 2 n (by decide)).1; rwa [sqr] at this
  have S4 := Lib.hid (fun w' => square_w (rtN 2 n) (by omega) w')
  rw [Nat.mod_eq_of_lt (show rtN 2 n * rtN 2 n < M by omega)] at S4
  have S5 := Lib.hid (fun w' => sub_down n (rtN 2 n * rtN 2 n) hn hSS w')
  have hb2 : Int.tdiv ((nrmN n : Nat) : Int) 2 = ((nrmN n / 2 : Nat) : Int) := by rw [Int.tdiv_eq_ediv_of_nonneg (by omega)]; omega
  have hw2 : IntKind.i64.wrap ((nrmN n / 2 : Nat) : Int) = ((nrmN n / 2 : Nat) : Int) := IntWalk.i64_in _ (by omega)
  obtain ⟨R, hR⟩ : ∃ y, y = n - rtN 2 n * rtN 2 n := ⟨_, rfl⟩
  rw [← hR] at S5 ⊢
  obtain ⟨f2, hf2⟩ : ∃ f, f = decide (n < rtN 2 n * rtN 2 n) := ⟨_, rfl⟩
  rw [← hf2] at S5
  obtain ⟨f1, hf1⟩ : ∃ f, f = decide (rtN 2 n * rtN 2 n < M) := ⟨_, rfl⟩
  rw [← hf1] at S4
  obtain ⟨Q, hQ⟩ : ∃ y, y = rtN 2 n * rtN 2 n := ⟨_, rfl⟩
  rw [← hQ] at S4 S5
  obtain ⟨S, hSe⟩ : ∃ y, y = rtN 2 n := ⟨_, rfl⟩
  rw [← hSe] at S3 S4 ⊢
  obtain ⟨f3, hf3⟩ : ∃ f, f = decide (rtN 2 (upN n) % P2 (nrmN n / 2) ≠ 0) := ⟨_, rfl⟩
  rw [← hf3] at S3
  obtain ⟨D, hD⟩ : ∃ D : Nat, D = (nrq (upN n) - rtN 2 (upN n)) + (rtN 2 (upN n) - nrq (upN n)) := ⟨_, rfl⟩
  rw [← hD] at S2
  obtain ⟨V, hV⟩ : ∃ D : Nat, D = upN n - rtN 2 (upN n) * rtN 2 (upN n) := ⟨_, rfl⟩
  rw [← hV] at S2
  obtain ⟨T, hT⟩ : ∃ D : Nat, D = rtN 2 (upN n) := ⟨_, rfl⟩
  rw [← hT] at S2 S3
  obtain ⟨G, hG⟩ : ∃ D : Nat, D = nrq (upN n) := ⟨_, rfl⟩
  rw [← hG] at S1 S2
  obtain ⟨U, hU⟩ : ∃ y, y = upN n := ⟨_, rfl⟩
  rw [← hU] at SN S1 S2
  obtain ⟨c, hc⟩ : ∃ y, y = nrmN n / 2 := ⟨_, rfl⟩
  rw [← hc] at S3 hb2 hw2
  obtain ⟨b, hb⟩ : ∃ y, y = nrmN n := ⟨_, rfl⟩
  rw [← hb] at SN hb2
  have VB := Lib.hid (VG.refl hI)
  have Ge := Lib.hid hE
  have HNE := Lib.hid hne
  clear h0 h hE hI hne u1 u2 u3 g1 g2 hn h128 hr hbn hS hSS hR hf2 hf1 hQ hSe hf3 hD hV hT hG hU hc hb
  go_enter Tryz.func17, Tryz.ntmps17
  replace Ge := Lib.hid (keepAl (o' := .cells (wcells n) 24) Ge.out)
  have Gn := Lib.hid (alloc_new (w) (.cells (wcells n) 24))
  replace VB := Lib.hid (VB.out.al (.cells (wcells n) 24))
  replace Ge := Lib.hid (keepAl (o' := .cells (wcells 0) 24) Ge.out)
  replace Gn := Lib.hid (keepAl (o' := .cells (wcells 0) 24) Gn.out)
  have Gx := Lib.hid (alloc_new' (w := (w).alloc (.cells (wcells n) 24)) (n := w.heap.size + 1) (.cells (wcells 0) 24) (by simp))
  replace VB := Lib.hid (VB.out.al (.cells (wcells 0) 24))
  replace Ge := Lib.hid (keepAl (o' := .cells (wcells 0) 24) Ge.out)
  replace Gn := Lib.hid (keepAl (o' := .cells (wcells 0) 24) Gn.out)
  replace Gx := Lib.hid (keepAl (o' := .cells (wcells 0) 24) Gx.out)
  have Gy := Lib.hid (alloc_new' (w := ((w).alloc (.cells (wcells n) 24)).alloc (.cells (wcells 0) 24)) (n := w.heap.size + 1 + 1) (.cells (wcells 0) 24) (by simp))
  replace VB := Lib.hid (VB.out.al (.cells (wcells 0) 24))
  have cGe := cell_row Ge.out
  have cGn := cell_row Gn.out
  have cGx := cell_row Gx.out
  have cGy := cell_row Gy.out
  go_wp2_with fail
  refine (SM.out _).mono ?_
  rintro e w16 ⟨rfl, hb⟩
  clear cGe cGn cGx cGy
  replace VB := Lib.hid (VB.out.below hb)
  replace Ge := Lib.hid ((hb.block _ (lt_of_heap Ge.out)).trans Ge.out)
  replace Gn := Lib.hid ((hb.block _ (lt_of_heap Gn.out)).trans Gn.out)
  replace Gx := Lib.hid ((hb.block _ (lt_of_heap Gx.out)).trans Gx.out)
  replace Gy := Lib.hid ((hb.block _ (lt_of_heap Gy.out)).trans Gy.out)
  clear hb
  have cGe := cell_row Ge.out
  have cGn := cell_row Gn.out
  have cGx := cell_row Gx.out
  have cGy := cell_row Gy.out
  go_wp2_with fail
  refine (SN.out _).mono ?_
  rintro e w17 ⟨rfl, hb⟩
  clear cGe cGn cGx cGy
  replace VB := Lib.hid (VB.out.below hb)
  replace Ge := Lib.hid ((hb.block _ (lt_of_heap Ge.out)).trans Ge.out)
  replace Gn := Lib.hid ((hb.block _ (lt_of_heap Gn.out)).trans Gn.out)
  replace Gx := Lib.hid ((hb.block _ (lt_of_heap Gx.out)).trans Gx.out)
  replace Gy := Lib.hid ((hb.block _ (lt_of_heap Gy.out)).trans Gy.out)
  clear hb
  have HZ := Lib.hid (lt_of_heap Gy.out)
  replace Ge := Lib.hid (keepAl (o' := .cells (wcells U) 24) Ge.out)
  replace Gn := Lib.hid (keepAl (o' := .cells (wcells U) 24) Gn.out)
  replace Gx := Lib.hid (keepAl (o' := .cells (wcells U) 24) Gx.out)
  replace Gy := Lib.hid (keepAl (o' := .cells (wcells U) 24) Gy.out)
  have Gu := Lib.hid (alloc_new (w17) (.cells (wcells U) 24))
  replace VB := Lib.hid (VB.out.al (.cells (wcells U) 24))
  have cGe := cell_row Ge.out
  have cGn := cell_row Gn.out
  have cGx := cell_row Gx.out
  have cGy := cell_row Gy.out
  have cGu := cell_row Gu.out
  go_upto_region 5 with fail
  clear cGe cGn cGx cGy cGu
  obtain ⟨wL, hw⟩ : ∃ wx, wx = (w17).alloc (.cells (wcells U) 24) := ⟨_, rfl⟩
  rw [← hw] at Ge Gn Gx Gy Gu VB ⊢
  clear hw
  have HZ2 := Lib.hid (lt_of_heap Gu.out)
  have xGe := extg_row (g := g) (B := wL.heap.size) Ge.out (lt_of_heap Ge.out) (by have := VB.out.lt; (try have := HNE.out); (try have := HZ.out); omega)
  have xGn := extg_row (g := g) (B := wL.heap.size) Gn.out (lt_of_heap Gn.out) (by have := VB.out.lt; (try have := HNE.out); (try have := HZ.out); omega)
  have xGx := extg_row (g := g) (B := wL.heap.size) Gx.out (lt_of_heap Gx.out) (by have := VB.out.lt; (try have := HNE.out); (try have := HZ.out); omega)
  have xGy := extg_row (g := g) (B := wL.heap.size) Gy.out (lt_of_heap Gy.out) (by have := VB.out.lt; (try have := HNE.out); (try have := HZ.out); omega)
  have xGu := extg_row (g := g) (B := wL.heap.size) Gu.out (lt_of_heap Gu.out) (by have := VB.out.lt; (try have := HNE.out); (try have := HZ.out); omega)
  have hnx : Nonempty (ExtG g wL.heap.size wL) := ⟨⟨wL, BelowG.refl VB.out.rom _⟩⟩
  apply wp_region_looseG VB.out.rom (looseRV [_, _, _, _, _, _, _, _, _, _, undef, undef, undef, undef, _, _]) (pureL [1, 5, 6, 7, 8, 9, 14, 15])
  · kernel_rfl
  · kernel_rfl
  · kernel_rfl
  · exact allocs_ok [24, 24] rfl (by intro T hT; simp only [List.mem_cons, List.not_mem_nil, or_false, or_self] at hT; subst hT; exact makes_wide)
  · exact looseRV_st _ _
  · change wpLG _ _ _ _ _ _ _ _ 16 0 _ _
    refine wpL_calmG wL rfl rfl rfl rfl (fun K hK K0 hK0 => ?_)
    go_simp
    first | refine hK _ _ rfl rfl ?_ | refine hK0 _ rfl ?_
    clear hK hK0 K K0
    refine wpL_pureG wL rfl rfl rfl rfl (fun K hK K0 hK0 => ?_)
    go_simp
    first | refine hK _ _ rfl rfl ?_ | refine hK0 _ rfl ?_
    clear hK hK0 K K0
    refine wpL_calmG wL rfl rfl rfl rfl (fun K hK K0 hK0 => ?_)
    go_simp
    first | refine hK _ _ rfl rfl ?_ | refine hK0 _ rfl ?_
    clear hK hK0 K K0
    refine wpL_calmG wL rfl rfl rfl rfl (fun K hK K0 hK0 => ?_)
    go_simp
    apply Exists.intro
    apply And.intro
    · intro x
      go_at_call 63
      with_reducible exact Calls.stepV (S1.out _ (extg_block Ge.out (lt_of_heap Ge.out) HNE.out _) (extg_rom _))
    refine hK _ _ rfl rfl ?_
    clear hK hK0 K K0
    refine wpL_calmG wL rfl rfl rfl rfl (fun K hK K0 hK0 => ?_)
    go_simp
    apply Exists.intro
    apply And.intro
    · intro x
      go_at_call 62
      with_reducible exact Calls.stepG _ (S2.out _)
    refine hK _ _ rfl rfl ?_
    clear hK hK0 K K0
    refine wpL_pureG wL rfl rfl rfl rfl (fun K hK K0 hK0 => ?_)
    go_simp
    first | refine hK _ _ rfl rfl ?_ | refine hK0 _ rfl ?_
    clear hK hK0 K K0
    refine wpL_pureG wL rfl rfl rfl rfl (fun K hK K0 hK0 => ?_)
    go_simp
    first | refine hK _ _ rfl rfl ?_ | refine hK0 _ rfl ?_
    clear hK hK0 K K0
    refine wpL_pureG wL rfl rfl rfl rfl (fun K hK K0 hK0 => ?_)
    go_simp
    first | refine hK _ _ rfl rfl ?_ | refine hK0 _ rfl ?_
    clear hK hK0 K K0
    refine wpL_pureG wL rfl rfl rfl rfl (fun K hK K0 hK0 => ?_)
    go_simp
    first | refine hK _ _ rfl rfl ?_ | refine hK0 _ rfl ?_
    clear hK hK0 K K0
    refine wpL_pureG wL rfl rfl rfl rfl (fun K hK K0 hK0 => ?_)
    go_simp
    first | refine hK _ _ rfl rfl ?_ | refine hK0 _ rfl ?_
    clear hK hK0 K K0
    refine wpL_allocG rfl rfl rfl rfl (fun g10 hg10 => ?_)
    refine wpL_allocG rfl rfl rfl rfl (fun g11 hg11 => ?_)
    refine wpL_storeG rfl rfl ?_
    refine wpL_storeG rfl rfl ?_
    refine wpL_pureG wL rfl rfl rfl rfl (fun K hK K0 hK0 => ?_)
    go_simp
    first | refine hK _ _ rfl rfl ?_ | refine hK0 _ rfl ?_
    clear hK hK0 K K0
    refine wpL_pureG wL rfl rfl rfl rfl (fun K hK K0 hK0 => ?_)
    go_simp
    first | refine hK _ _ rfl rfl ?_ | refine hK0 _ rfl ?_
    clear hK hK0 K K0
    refine wpL_nilG (endLG [(24, .tmp 11, .tmp 42), (24, .tmp 12, .tmp 43)] rfl (by intro q hq; simp only [List.mem_cons, List.not_mem_nil, or_false] at hq; rcases hq with rfl | rfl <;> exact fits_wv (by kernel_rfl) _) (fun w18 hv hst hap hfin => ?_))
    have Gs : Hid (w18.heap[g10]? = some (.cells (wcells (T)) 24 (0, 0))) := Lib.hid (hst 12 _ _ _ _ g10 rfl rfl rfl)
    have Gr : Hid (w18.heap[g11]? = some (.cells (wcells (V)) 24 (0, 0))) := Lib.hid (hst 13 _ _ _ _ g11 rfl rfl rfl)
    have hne10_11 : g10 ≠ g11 := fun h => hap 10 _ _ _ 11 _ _ _ rfl rfl rfl rfl rfl rfl (by decide) (by subst h; rfl)
    replace Ge := Lib.hid ((hv.block _ (lt_of_heap Ge.out) (by have := VB.out.lt; (try have := HNE.out); (try have := HZ.out); omega)).trans Ge.out)
    replace Gn := Lib.hid ((hv.block _ (lt_of_heap Gn.out) (by have := VB.out.lt; (try have := HNE.out); (try have := HZ.out); omega)).trans Gn.out)
    replace Gx := Lib.hid ((hv.block _ (lt_of_heap Gx.out) (by have := VB.out.lt; (try have := HNE.out); (try have := HZ.out); omega)).trans Gx.out)
    replace Gy := Lib.hid ((hv.block _ (lt_of_heap Gy.out) (by have := VB.out.lt; (try have := HNE.out); (try have := HZ.out); omega)).trans Gy.out)
    replace Gu := Lib.hid ((hv.block _ (lt_of_heap Gu.out) (by have := VB.out.lt; (try have := HNE.out); (try have := HZ.out); omega)).trans Gu.out)
    have HG10 := Lib.hid hg10
    have HG11 := Lib.hid hg11
    replace VB := Lib.hid (VB.out.trans' hv)
    clear hv hst hap hfin xGe xGn xGx xGy xGu hnx
    have cGn := cell_row Gn.out
    have cGx := cell_row Gx.out
    have cGy := cell_row Gy.out
    have cGs := cell_row Gs.out
    go_wp2_with fail
    refine (S3.out _).mono ?_
    rintro e w19 ⟨rfl, hb⟩
    clear cGn cGx cGy cGs
    replace VB := Lib.hid (VB.out.below hb)
    replace Gn := Lib.hid ((hb.block _ (lt_of_heap Gn.out)).trans Gn.out)
    replace Gx := Lib.hid ((hb.block _ (lt_of_heap Gx.out)).trans Gx.out)
    replace Gy := Lib.hid ((hb.block _ (lt_of_heap Gy.out)).trans Gy.out)
    replace Gs := Lib.hid ((hb.block _ (lt_of_heap Gs.out)).trans Gs.out)
    clear hb
    have sts := st_row (P := Tryz.prog) Gs.out rfl (S)
    replace Gn := Lib.hid ((setRow_other (w19) (g10) _ (wcells (S)) (by (have := HZ.out; have := HZ2.out; have := HG10.out; omega))).trans Gn.out)
    replace Gx := Lib.hid ((setRow_other (w19) (g10) _ (wcells (S)) (by (have := HZ.out; have := HZ2.out; have := HG10.out; omega))).trans Gx.out)
    replace Gy := Lib.hid ((setRow_other (w19) (g10) _ (wcells (S)) (by (have := HZ.out; have := HZ2.out; have := HG10.out; omega))).trans Gy.out)
    replace Gs := Lib.hid (setRow_heap (w19) (g10) _ (wcells (S)) _ _ Gs.out)
    replace VB := Lib.hid (VB.out.row (show _ ≤ g10 by (have := HZ.out; have := HZ2.out; have := HG10.out; omega)) (wcells (S)))
    have cGn := cell_row Gn.out
    have cGx := cell_row Gx.out
    have cGy := cell_row Gy.out
    have cGs := cell_row Gs.out
    go_wp2_with fail
    refine (S4.out _).mono ?_
    rintro e w20 ⟨rfl, hb⟩
    clear cGn cGx cGy cGs sts
    replace VB := Lib.hid (VB.out.below hb)
    replace Gn := Lib.hid ((hb.block _ (lt_of_heap Gn.out)).trans Gn.out)
    replace Gx := Lib.hid ((hb.block _ (lt_of_heap Gx.out)).trans Gx.out)
    replace Gy := Lib.hid ((hb.block _ (lt_of_heap Gy.out)).trans Gy.out)
    replace Gs := Lib.hid ((hb.block _ (lt_of_heap Gs.out)).trans Gs.out)
    clear hb
    replace Gn := Lib.hid (keepAl (o' := .cells (wcells Q) 24) Gn.out)
    replace Gx := Lib.hid (keepAl (o' := .cells (wcells Q) 24) Gx.out)
    replace Gy := Lib.hid (keepAl (o' := .cells (wcells Q) 24) Gy.out)
    replace Gs := Lib.hid (keepAl (o' := .cells (wcells Q) 24) Gs.out)
    have Gq := Lib.hid (alloc_new (w20) (.cells (wcells Q) 24))
    replace VB := Lib.hid (VB.out.al (.cells (wcells Q) 24))
    have cGn := cell_row Gn.out
    have cGx := cell_row Gx.out
    have cGy := cell_row Gy.out
    have cGs := cell_row Gs.out
    have cGq := cell_row Gq.out
    go_wp2_with fail
    refine (S5.out _).mono ?_
    rintro e w21 ⟨rfl, hb⟩
    clear cGn cGx cGy cGs cGq
    replace VB := Lib.hid (VB.out.below hb)
    replace Gn := Lib.hid ((hb.block _ (lt_of_heap Gn.out)).trans Gn.out)
    replace Gx := Lib.hid ((hb.block _ (lt_of_heap Gx.out)).trans Gx.out)
    replace Gy := Lib.hid ((hb.block _ (lt_of_heap Gy.out)).trans Gy.out)
    replace Gs := Lib.hid ((hb.block _ (lt_of_heap Gs.out)).trans Gs.out)
    replace Gq := Lib.hid ((hb.block _ (lt_of_heap Gq.out)).trans Gq.out)
    clear hb
    have HZ3 := Lib.hid (lt_of_heap Gy.out)
    replace Gn := Lib.hid (keepAl (o' := .cells (wcells R) 24) Gn.out)
    replace Gx := Lib.hid (keepAl (o' := .cells (wcells R) 24) Gx.out)
    replace Gy := Lib.hid (keepAl (o' := .cells (wcells R) 24) Gy.out)
    replace Gs := Lib.hid (keepAl (o' := .cells (wcells R) 24) Gs.out)
    have Gv := Lib.hid (alloc_new (w21) (.cells (wcells R) 24))
    replace VB := Lib.hid (VB.out.al (.cells (wcells R) 24))
    have cGn := cell_row Gn.out
    have cGx := cell_row Gx.out
    have cGy := cell_row Gy.out
    have cGs := cell_row Gs.out
    have cGv := cell_row Gv.out
    go_upto_region 9 with fail
    clear cGn cGx cGy cGs cGv
    obtain ⟨w22, hw⟩ : ∃ wx, wx = (w21).alloc (.cells (wcells R) 24) := ⟨_, rfl⟩
    rw [← hw] at Gx Gy Gs Gv VB ⊢
    clear hw
    refine wp_region_store [⟨w.heap.size + 1, 24, .tmp 64⟩, ⟨w.heap.size + 1 + 1, 24, .tmp 65⟩] (by kernel_rfl) (by kernel_rfl) (by kernel_rfl) rfl (List.Pairwise.cons (by intro r hr; simp only [List.mem_cons, List.not_mem_nil, or_false] at hr; subst hr <;> dsimp only <;> (have := HZ.out; have := HZ2.out; have := HG10.out; have := HZ3.out; omega)) (List.pairwise_singleton _ _)) ?_ ?_
    · intro r hr
      simp only [List.mem_cons, List.not_mem_nil, or_false] at hr
      rcases hr with rfl | rfl
      · exact ⟨_, Gx.out, by kernel_rfl⟩
      · exact ⟨_, Gy.out, by kernel_rfl⟩
    have xGs := extR_row (B := w22.heap.size) (R := [⟨w.heap.size + 1, 24, .tmp 64⟩, ⟨w.heap.size + 1 + 1, 24, .tmp 65⟩]) Gs.out (lt_of_heap Gs.out) (by intro r hr; simp only [List.mem_cons, List.not_mem_nil, or_false] at hr; rcases hr with rfl | rfl <;> dsimp only <;> (have := HZ.out; have := HZ2.out; have := HG10.out; have := HZ3.out; omega))
    have xGv := extR_row (B := w22.heap.size) (R := [⟨w.heap.size + 1, 24, .tmp 64⟩, ⟨w.heap.size + 1 + 1, 24, .tmp 65⟩]) Gv.out (lt_of_heap Gv.out) (by intro r hr; simp only [List.mem_cons, List.not_mem_nil, or_false] at hr; rcases hr with rfl | rfl <;> dsimp only <;> (have := HZ.out; have := HZ2.out; have := HG10.out; have := HZ3.out; omega))
    repeat (refine wpCalm_step (fun K hK => ?_); go_simp; first | (refine hK _ ?_; clear hK K) | (apply Exists.intro; refine ⟨fun _ => ?_, hK _ ?_⟩; (first | fail); clear hK K))
    refine wpCalm_nil ⟨?_, fun x hx => ?_⟩
    · intro r hr
      simp only [List.mem_cons, List.not_mem_nil, or_false] at hr
      rcases hr with rfl | rfl <;> exact fits_wv (by kernel_rfl) _
    replace Gx : Hid (x.val.heap[w.heap.size + 1]? = some (.cells (wcells (S)) 24 (0, 0))) := Lib.hid (hx ⟨w.heap.size + 1, 24, .tmp 64⟩ (by simp))
    replace Gy : Hid (x.val.heap[w.heap.size + 1 + 1]? = some (.cells (wcells (R)) 24 (0, 0))) := Lib.hid (hx ⟨w.heap.size + 1 + 1, 24, .tmp 65⟩ (by simp))
    replace Gs := Lib.hid (extR_block x Gs.out (lt_of_heap Gs.out) (by intro r hr; simp only [List.mem_cons, List.not_mem_nil, or_false] at hr; rcases hr with rfl | rfl <;> dsimp only <;> (have := HZ.out; have := HZ2.out; have := HG10.out; have := HZ3.out; omega)))
    replace Gv := Lib.hid (extR_block x Gv.out (lt_of_heap Gv.out) (by intro r hr; simp only [List.mem_cons, List.not_mem_nil, or_false] at hr; rcases hr with rfl | rfl <;> dsimp only <;> (have := HZ.out; have := HZ2.out; have := HG10.out; have := HZ3.out; omega)))
    replace VB := Lib.hid (VB.out.extR x (by intro r hr; simp only [List.mem_cons, List.not_mem_nil, or_false] at hr; rcases hr with rfl | rfl <;> dsimp only <;> (have := HZ.out; have := HZ2.out; have := HG10.out; have := HZ3.out; omega)))
    clear hx xGs xGv
    obtain ⟨w23, hw⟩ : ∃ wx, wx = x.val := ⟨_, rfl⟩
    rw [← hw] at Gx Gy Gs Gv VB ⊢
    clear hw x
    have cGx := cell_row Gx.out
    have cGy := cell_row Gy.out
    have cGs := cell_row Gs.out
    have cGv := cell_row Gv.out
    go_wp2
    exact bodyPost_ret (v := .tuple #[wv S, wv R, .int .i64 0]) (res_cct Tryz.results17 _ _ _ _ _ _ _ _ _ _ _ rfl rfl rfl Gx.out Gy.out aggW aggW) rfl ⟨rfl, VB.out⟩
theorem rootQ_w (e g n : Nat) (hn : n < M) (w : World) (hE : w.heap[e]? = some (.cells #[.pointer (some ⟨g, 0, none⟩)] 76 (0, 0))) (hI : IsRom w g) (hne : e ≠ g) :
    Calls Tryz.prog 17 #[.pointer (some ⟨e, 0, none⟩), wv n] w fun x w' => x = .returned (.tuple #[wv (rsS n), wv (rsR n), .int .i64 (rsE n)]) ∧ VG g w w' := by
  by_cases h0 : n = 0
  · have h : n < P2 256 := by rw [h0]; exact P2_pos _
    obtain ⟨e1, e2, e3⟩ := rs_yes h
    have e4 : rtN 2 n = 0 := by rw [h0]; exact rt_unique (by decide) (by decide)
    have key := rootQ_no (.pointer (some ⟨e, 0, none⟩)) n (rsE n) hn (Or.inr h0) (fun w' => mayQ_w e n hn w') w
    rw [e1, e2, e4, h0, Nat.zero_mul, Nat.sub_zero]
    rw [h0] at key
    exact key.mono fun _ _ ⟨h1, h2⟩ => ⟨h1, (VG.refl hI).below h2⟩
  · by_cases h : n < P2 256
    · obtain ⟨e1, e2, e3⟩ := rs_yes h
      rw [e1, e2, e3]
      exact rootQ_yes e g n h0 h w hE hI hne
    · obtain ⟨e1, e2, e3⟩ := rs_no h
      have key := rootQ_no (.pointer (some ⟨e, 0, none⟩)) n (rsE n) hn (Or.inl (by rw [e3]; decide)) (fun w' => mayQ_w e n hn w') w
      rw [e1, e2]
      exact key.mono fun _ _ ⟨h1, h2⟩ => ⟨h1, (VG.refl hI).below h2⟩
set_option maxRecDepth 100000 in
theorem newR_nil (w : World) : Calls Tryz.prog 15 #[.pointer none] w fun x w' => ∃ e g, x = .returned (.pointer (some ⟨e, 0, none⟩)) ∧ IsEng 76 w.heap.size e g w' ∧ Below w.heap.size w w' := by
  have S0 := Lib.hid (fun w' => romNew_any w')
  go_enter Tryz.func15, Tryz.ntmps15
  go_wp2_with fail
  refine (S0.out _).mono ?_
  rintro x w1 ⟨rfl, hn, hb⟩
  have HN := Lib.hid hn
  have HB := Lib.hid hb
  clear hn hb
  go_wp2
  go_ret
  have h1 := HN.out.lt
  exact ⟨_, _, rfl, ⟨alloc_new _ _, (show IsRom w1 w.heap.size from Or.inl HN.out).keep (alloc_old _ _ _ h1), by omega, by omega, Nat.le_refl _⟩, below_al HB _⟩
set_option maxRecDepth 100000 in
theorem newR_at (g : Nat) (w : World) (h : IsRom w g) : Calls Tryz.prog 15 #[.pointer (some ⟨g, 0, none⟩)] w fun x w' => x = .returned (.pointer (some ⟨w.heap.size, 0, none⟩)) ∧ w'.heap[w.heap.size]? = some (.cells #[.pointer (some ⟨g, 0, none⟩)] 76 (0, 0)) ∧ IsRom w' g ∧ Below w.heap.size w w' := by
  have HN := Lib.hid h
  clear h
  go_enter Tryz.func15, Tryz.ntmps15
  go_wp2
  go_ret
  exact ⟨rfl, alloc_new _ _, HN.out.keep (alloc_old _ _ _ HN.out.lt), below_al (Lib.hid (Below.refl _ _)) _⟩
end Go.Proofs.YtegmmaaapdgocaaGreat

/- THE WALKS of newtonroot, going on: reciprocals, or why there is none. -/
namespace Go.Proofs.YtegmmaaapdgocaaGreat
open Go Go.RowKit

attribute [local go_sem ↓] Go.wp_at_zero Go.wp_at_succ
set_option maxRecDepth 100000 in
set_option maxHeartbeats 2000000 in
theorem recQ_nil (n : Nat) (k : Int) (hn : n < M) (w : World) :
    Calls Tryz.prog 56 #[.pointer none, wv n, .int .i64 k] w fun x w' => x = .returned (.tuple #[wv 0, .int .i64 6]) ∧ Below w.heap.size w w' := by
  have SM := Lib.hid (fun w' => mayQ_nil n w')
  obtain ⟨U, b, hN⟩ := normS_some n hn
  have SN := Lib.hid hN
  obtain ⟨ok, hok⟩ : ∃ x, x = decide (n ≠ 0 ∧ n < P2 256) := ⟨_, rfl⟩
  rw [← hok] at SN
  clear hN hn hok
  go_enter Tryz.func56, Tryz.ntmps56
  have HB := Lib.hid (Below.refl w.heap.size w)
  have Gn := Lib.hid (alloc_new (w) (.cells (wcells n) 24))
  replace HB := Lib.hid (below_al HB.out (.cells (wcells n) 24))
  replace Gn := Lib.hid (keepAl (o' := .cells (wcells 0) 24) Gn.out)
  have Go := Lib.hid (alloc_new' (w := (w).alloc (.cells (wcells n) 24)) (n := w.heap.size + 1) (.cells (wcells 0) 24) (by simp))
  replace HB := Lib.hid (below_al HB.out (.cells (wcells 0) 24))
  have cGn := cell_row Gn.out
  have cGo := cell_row Go.out
  go_wp2_with fail
  refine (SM.out _).mono ?_
  rintro e w1 ⟨rfl, hb⟩
  clear cGn cGo
  replace HB := Lib.hid (below_then HB.out hb)
  replace Gn := Lib.hid ((hb.block _ (lt_of_heap Gn.out)).trans Gn.out)
  replace Go := Lib.hid ((hb.block _ (lt_of_heap Go.out)).trans Go.out)
  clear hb
  have cGn := cell_row Gn.out
  have cGo := cell_row Go.out
  go_wp2_with fail
  refine (SN.out _).mono ?_
  rintro e w2 ⟨rfl, hb⟩
  clear cGn cGo
  replace HB := Lib.hid (below_then HB.out hb)
  replace Gn := Lib.hid ((hb.block _ (lt_of_heap Gn.out)).trans Gn.out)
  replace Go := Lib.hid ((hb.block _ (lt_of_heap Go.out)).trans Go.out)
  clear hb
  have HZ := Lib.hid (lt_of_heap Go.out)
  replace Gn := Lib.hid (keepAl (o' := .cells (wcells U) 24) Gn.out)
  replace Go := Lib.hid (keepAl (o' := .cells (wcells U) 24) Go.out)
  have Gu := Lib.hid (alloc_new (w2) (.cells (wcells U) 24))
  replace HB := Lib.hid (below_al HB.out (.cells (wcells U) 24))
  have pd := cell_row Gn.out
  have sto := st_row (P := Tryz.prog) Go.out rfl (0)
  replace Gn := Lib.hid ((setRow_other ((w2).alloc (.cells (wcells U) 24)) (w.heap.size + 1) _ (wcells (0)) (by (have := HZ.out; omega))).trans Gn.out)
  replace Gu := Lib.hid ((setRow_other ((w2).alloc (.cells (wcells U) 24)) (w.heap.size + 1) _ (wcells (0)) (by (have := HZ.out; omega))).trans Gu.out)
  replace Go := Lib.hid (setRow_heap ((w2).alloc (.cells (wcells U) 24)) (w.heap.size + 1) _ (wcells (0)) _ _ Go.out)
  replace HB := Lib.hid (below_setRow' HB.out (show _ ≤ w.heap.size + 1 by (have := HZ.out; omega)) (wcells (0)))
  have cGn := cell_row Gn.out
  have cGo := cell_row Go.out
  have cGu := cell_row Gu.out
  go_wp2
  exact bodyPost_ret (v := .tuple #[wv 0, .int .i64 6]) (res_ct Tryz.results56 _ _ _ _ _ _ _ rfl rfl Go.out aggW) rfl ⟨rfl, HB.out⟩
set_option maxRecDepth 100000 in
set_option maxHeartbeats 2000000 in
theorem recQ_range (e n : Nat) (k : Int) (hn : n < M) (hc : k < 0 ∨ 10 < k ∨ ¬ n < P2 256) (w : World) :
    Calls Tryz.prog 56 #[.pointer (some ⟨e, 0, none⟩), wv n, .int .i64 k] w fun x w' => x = .returned (.tuple #[wv 0, .int .i64 4]) ∧ Below w.heap.size w w' := by
  have SM := Lib.hid (fun w' => mayQ_w e n hn w')
  have hE : rsE n = 0 ∨ rsE n = 4 := by unfold rsE; split; exact Or.inl rfl; exact Or.inr rfl
  have hE4 : ¬ n < P2 256 → rsE n = 4 := fun h => (rs_no h).2.2
  obtain ⟨E, hEe⟩ : ∃ E, E = rsE n := ⟨_, rfl⟩
  rw [← hEe] at SM hE hE4
  obtain ⟨U, b, hN⟩ := normS_some n hn
  have SN := Lib.hid hN
  obtain ⟨ok, hok⟩ : ∃ x, x = decide (n ≠ 0 ∧ n < P2 256) := ⟨_, rfl⟩
  rw [← hok] at SN
  have b3 : (E == 6) = false := by rcases hE with h | h <;> rw [h] <;> rfl
  clear hN hn hok hEe
  by_cases c0 : k < 0
  · have b0 : decide (k < 0) = true := decide_eq_true c0
    clear hc c0 hE hE4
    go_enter Tryz.func56, Tryz.ntmps56
    have HB := Lib.hid (Below.refl w.heap.size w)
    have Gn := Lib.hid (alloc_new (w) (.cells (wcells n) 24))
    replace HB := Lib.hid (below_al HB.out (.cells (wcells n) 24))
    replace Gn := Lib.hid (keepAl (o' := .cells (wcells 0) 24) Gn.out)
    have Go := Lib.hid (alloc_new' (w := (w).alloc (.cells (wcells n) 24)) (n := w.heap.size + 1) (.cells (wcells 0) 24) (by simp))
    replace HB := Lib.hid (below_al HB.out (.cells (wcells 0) 24))
    have cGn := cell_row Gn.out
    have cGo := cell_row Go.out
    go_wp2_with fail
    refine (SM.out _).mono ?_
    rintro e w3 ⟨rfl, hb⟩
    clear cGn cGo
    replace HB := Lib.hid (below_then HB.out hb)
    replace Gn := Lib.hid ((hb.block _ (lt_of_heap Gn.out)).trans Gn.out)
    replace Go := Lib.hid ((hb.block _ (lt_of_heap Go.out)).trans Go.out)
    clear hb
    have cGn := cell_row Gn.out
    have cGo := cell_row Go.out
    go_wp2_with fail
    refine (SN.out _).mono ?_
    rintro e w4 ⟨rfl, hb⟩
    clear cGn cGo
    replace HB := Lib.hid (below_then HB.out hb)
    replace Gn := Lib.hid ((hb.block _ (lt_of_heap Gn.out)).trans Gn.out)
    replace Go := Lib.hid ((hb.block _ (lt_of_heap Go.out)).trans Go.out)
    clear hb
    have HZ := Lib.hid (lt_of_heap Go.out)
    replace Gn := Lib.hid (keepAl (o' := .cells (wcells U) 24) Gn.out)
    replace Go := Lib.hid (keepAl (o' := .cells (wcells U) 24) Go.out)
    have Gu := Lib.hid (alloc_new (w4) (.cells (wcells U) 24))
    replace HB := Lib.hid (below_al HB.out (.cells (wcells U) 24))
    have pd := cell_row Gn.out
    have sto := st_row (P := Tryz.prog) Go.out rfl (0)
    replace Gn := Lib.hid ((setRow_other ((w4).alloc (.cells (wcells U) 24)) (w.heap.size + 1) _ (wcells (0)) (by (have := HZ.out; omega))).trans Gn.out)
    replace Gu := Lib.hid ((setRow_other ((w4).alloc (.cells (wcells U) 24)) (w.heap.size + 1) _ (wcells (0)) (by (have := HZ.out; omega))).trans Gu.out)
    replace Go := Lib.hid (setRow_heap ((w4).alloc (.cells (wcells U) 24)) (w.heap.size + 1) _ (wcells (0)) _ _ Go.out)
    replace HB := Lib.hid (below_setRow' HB.out (show _ ≤ w.heap.size + 1 by (have := HZ.out; omega)) (wcells (0)))
    have cGn := cell_row Gn.out
    have cGo := cell_row Go.out
    have cGu := cell_row Gu.out
    go_wp2
    exact bodyPost_ret (v := .tuple #[wv 0, .int .i64 4]) (res_ct Tryz.results56 _ _ _ _ _ _ _ rfl rfl Go.out aggW) rfl ⟨rfl, HB.out⟩
  · have b0 : decide (k < 0) = false := decide_eq_false c0
    by_cases c1 : 10 < k
    · have b1 : decide (10 < k) = true := decide_eq_true c1
      clear hc c0 c1 hE hE4
      go_enter Tryz.func56, Tryz.ntmps56
      have HB := Lib.hid (Below.refl w.heap.size w)
      have Gn := Lib.hid (alloc_new (w) (.cells (wcells n) 24))
      replace HB := Lib.hid (below_al HB.out (.cells (wcells n) 24))
      replace Gn := Lib.hid (keepAl (o' := .cells (wcells 0) 24) Gn.out)
      have Go := Lib.hid (alloc_new' (w := (w).alloc (.cells (wcells n) 24)) (n := w.heap.size + 1) (.cells (wcells 0) 24) (by simp))
      replace HB := Lib.hid (below_al HB.out (.cells (wcells 0) 24))
      have cGn := cell_row Gn.out
      have cGo := cell_row Go.out
      go_wp2_with fail
      refine (SM.out _).mono ?_
      rintro e w5 ⟨rfl, hb⟩
      clear cGn cGo
      replace HB := Lib.hid (below_then HB.out hb)
      replace Gn := Lib.hid ((hb.block _ (lt_of_heap Gn.out)).trans Gn.out)
      replace Go := Lib.hid ((hb.block _ (lt_of_heap Go.out)).trans Go.out)
      clear hb
      have cGn := cell_row Gn.out
      have cGo := cell_row Go.out
      go_wp2_with fail
      refine (SN.out _).mono ?_
      rintro e w6 ⟨rfl, hb⟩
      clear cGn cGo
      replace HB := Lib.hid (below_then HB.out hb)
      replace Gn := Lib.hid ((hb.block _ (lt_of_heap Gn.out)).trans Gn.out)
      replace Go := Lib.hid ((hb.block _ (lt_of_heap Go.out)).trans Go.out)
      clear hb
      have HZ := Lib.hid (lt_of_heap Go.out)
      replace Gn := Lib.hid (keepAl (o' := .cells (wcells U) 24) Gn.out)
      replace Go := Lib.hid (keepAl (o' := .cells (wcells U) 24) Go.out)
      have Gu := Lib.hid (alloc_new (w6) (.cells (wcells U) 24))
      replace HB := Lib.hid (below_al HB.out (.cells (wcells U) 24))
      have pd := cell_row Gn.out
      have sto := st_row (P := Tryz.prog) Go.out rfl (0)
      replace Gn := Lib.hid ((setRow_other ((w6).alloc (.cells (wcells U) 24)) (w.heap.size + 1) _ (wcells (0)) (by (have := HZ.out; omega))).trans Gn.out)
      replace Gu := Lib.hid ((setRow_other ((w6).alloc (.cells (wcells U) 24)) (w.heap.size + 1) _ (wcells (0)) (by (have := HZ.out; omega))).trans Gu.out)
      replace Go := Lib.hid (setRow_heap ((w6).alloc (.cells (wcells U) 24)) (w.heap.size + 1) _ (wcells (0)) _ _ Go.out)
      replace HB := Lib.hid (below_setRow' HB.out (show _ ≤ w.heap.size + 1 by (have := HZ.out; omega)) (wcells (0)))
      have cGn := cell_row Gn.out
      have cGo := cell_row Go.out
      have cGu := cell_row Gu.out
      go_wp2
      exact bodyPost_ret (v := .tuple #[wv 0, .int .i64 4]) (res_ct Tryz.results56 _ _ _ _ _ _ _ rfl rfl Go.out aggW) rfl ⟨rfl, HB.out⟩
    · have b1 : decide (10 < k) = false := decide_eq_false c1
      obtain rfl := hE4 (by rcases hc with h | h | h; exact absurd h c0; exact absurd h c1; exact h)
      clear hc c0 c1 hE hE4
      go_enter Tryz.func56, Tryz.ntmps56
      have HB := Lib.hid (Below.refl w.heap.size w)
      have Gn := Lib.hid (alloc_new (w) (.cells (wcells n) 24))
      replace HB := Lib.hid (below_al HB.out (.cells (wcells n) 24))
      replace Gn := Lib.hid (keepAl (o' := .cells (wcells 0) 24) Gn.out)
      have Go := Lib.hid (alloc_new' (w := (w).alloc (.cells (wcells n) 24)) (n := w.heap.size + 1) (.cells (wcells 0) 24) (by simp))
      replace HB := Lib.hid (below_al HB.out (.cells (wcells 0) 24))
      have cGn := cell_row Gn.out
      have cGo := cell_row Go.out
      go_wp2_with fail
      refine (SM.out _).mono ?_
      rintro e w7 ⟨rfl, hb⟩
      clear cGn cGo
      replace HB := Lib.hid (below_then HB.out hb)
      replace Gn := Lib.hid ((hb.block _ (lt_of_heap Gn.out)).trans Gn.out)
      replace Go := Lib.hid ((hb.block _ (lt_of_heap Go.out)).trans Go.out)
      clear hb
      have cGn := cell_row Gn.out
      have cGo := cell_row Go.out
      go_wp2_with fail
      refine (SN.out _).mono ?_
      rintro e w8 ⟨rfl, hb⟩
      clear cGn cGo
      replace HB := Lib.hid (below_then HB.out hb)
      replace Gn := Lib.hid ((hb.block _ (lt_of_heap Gn.out)).trans Gn.out)
      replace Go := Lib.hid ((hb.block _ (lt_of_heap Go.out)).trans Go.out)
      clear hb
      have HZ := Lib.hid (lt_of_heap Go.out)
      replace Gn := Lib.hid (keepAl (o' := .cells (wcells U) 24) Gn.out)
      replace Go := Lib.hid (keepAl (o' := .cells (wcells U) 24) Go.out)
      have Gu := Lib.hid (alloc_new (w8) (.cells (wcells U) 24))
      replace HB := Lib.hid (below_al HB.out (.cells (wcells U) 24))
      have pd := cell_row Gn.out
      have sto := st_row (P := Tryz.prog) Go.out rfl (0)
      replace Gn := Lib.hid ((setRow_other ((w8).alloc (.cells (wcells U) 24)) (w.heap.size + 1) _ (wcells (0)) (by (have := HZ.out; omega))).trans Gn.out)
      replace Gu := Lib.hid ((setRow_other ((w8).alloc (.cells (wcells U) 24)) (w.heap.size + 1) _ (wcells (0)) (by (have := HZ.out; omega))).trans Gu.out)
      replace Go := Lib.hid (setRow_heap ((w8).alloc (.cells (wcells U) 24)) (w.heap.size + 1) _ (wcells (0)) _ _ Go.out)
      replace HB := Lib.hid (below_setRow' HB.out (show _ ≤ w.heap.size + 1 by (have := HZ.out; omega)) (wcells (0)))
      have cGn := cell_row Gn.out
      have cGo := cell_row Go.out
      have cGu := cell_row Gu.out
      go_wp2
      exact bodyPost_ret (v := .tuple #[wv 0, .int .i64 4]) (res_ct Tryz.results56 _ _ _ _ _ _ _ rfl rfl Go.out aggW) rfl ⟨rfl, HB.out⟩
set_option maxRecDepth 100000 in
set_option maxHeartbeats 2000000 in
theorem recQ_zero (e : Nat) (k : Int) (h0 : 0 ≤ k) (h1 : k ≤ 10) (w : World) :
    Calls Tryz.prog 56 #[.pointer (some ⟨e, 0, none⟩), wv 0, .int .i64 k] w fun x w' => x = .returned (.tuple #[wv 0, .int .i64 5]) ∧ Below w.heap.size w w' := by
  have SM := Lib.hid (fun w' => mayQ_w e 0 M_pos w')
  rw [(rs_yes (P2_pos 256)).2.2] at SM
  have SN : Hid (∀ w' : World, Calls Tryz.prog 61 #[wv 0] w' fun e w'' => e = .returned (.tuple #[wv 0, .int .i64 0, .bool false]) ∧ Below w'.heap.size w' w'') := Lib.hid (fun w' => normS_no 0 M_pos (Or.inl rfl) w')
  have b0 : decide (k < 0) = false := decide_eq_false (by omega)
  have b1 : decide (10 < k) = false := decide_eq_false (by omega)
  clear h0 h1
  go_enter Tryz.func56, Tryz.ntmps56
  have HB := Lib.hid (Below.refl w.heap.size w)
  have Gn := Lib.hid (alloc_new (w) (.cells (wcells 0) 24))
  replace HB := Lib.hid (below_al HB.out (.cells (wcells 0) 24))
  replace Gn := Lib.hid (keepAl (o' := .cells (wcells 0) 24) Gn.out)
  have Go := Lib.hid (alloc_new' (w := (w).alloc (.cells (wcells 0) 24)) (n := w.heap.size + 1) (.cells (wcells 0) 24) (by simp))
  replace HB := Lib.hid (below_al HB.out (.cells (wcells 0) 24))
  have cGn := cell_row Gn.out
  have cGo := cell_row Go.out
  go_wp2_with fail
  refine (SM.out _).mono ?_
  rintro e w9 ⟨rfl, hb⟩
  clear cGn cGo
  replace HB := Lib.hid (below_then HB.out hb)
  replace Gn := Lib.hid ((hb.block _ (lt_of_heap Gn.out)).trans Gn.out)
  replace Go := Lib.hid ((hb.block _ (lt_of_heap Go.out)).trans Go.out)
  clear hb
  have cGn := cell_row Gn.out
  have cGo := cell_row Go.out
  go_wp2_with fail
  refine (SN.out _).mono ?_
  rintro e w10 ⟨rfl, hb⟩
  clear cGn cGo
  replace HB := Lib.hid (below_then HB.out hb)
  replace Gn := Lib.hid ((hb.block _ (lt_of_heap Gn.out)).trans Gn.out)
  replace Go := Lib.hid ((hb.block _ (lt_of_heap Go.out)).trans Go.out)
  clear hb
  have HZ := Lib.hid (lt_of_heap Go.out)
  replace Gn := Lib.hid (keepAl (o' := .cells (wcells 0) 24) Gn.out)
  replace Go := Lib.hid (keepAl (o' := .cells (wcells 0) 24) Go.out)
  have Gu := Lib.hid (alloc_new (w10) (.cells (wcells 0) 24))
  replace HB := Lib.hid (below_al HB.out (.cells (wcells 0) 24))
  have pd := cell_row Gn.out
  have sto := st_row (P := Tryz.prog) Go.out rfl (0)
  replace Gn := Lib.hid ((setRow_other ((w10).alloc (.cells (wcells 0) 24)) (w.heap.size + 1) _ (wcells (0)) (by (have := HZ.out; omega))).trans Gn.out)
  replace Gu := Lib.hid ((setRow_other ((w10).alloc (.cells (wcells 0) 24)) (w.heap.size + 1) _ (wcells (0)) (by (have := HZ.out; omega))).trans Gu.out)
  replace Go := Lib.hid (setRow_heap ((w10).alloc (.cells (wcells 0) 24)) (w.heap.size + 1) _ (wcells (0)) _ _ Go.out)
  replace HB := Lib.hid (below_setRow' HB.out (show _ ≤ w.heap.size + 1 by (have := HZ.out; omega)) (wcells (0)))
  have cGn := cell_row Gn.out
  have cGo := cell_row Go.out
  have cGu := cell_row Gu.out
  go_wp2
  exact bodyPost_ret (v := .tuple #[wv 0, .int .i64 5]) (res_ct Tryz.results56 _ _ _ _ _ _ _ rfl rfl Go.out aggW) rfl ⟨rfl, HB.out⟩
set_option maxRecDepth 100000 in
set_option maxHeartbeats 2000000 in
theorem recQ_yes (e g n k : Nat) (hk : k ≤ 10) (h0 : n ≠ 0) (h : n < P2 256) (w : World) (hE : w.heap[e]? = some (.cells #[.pointer (some ⟨g, 0, none⟩)] 76 (0, 0))) (hI : IsRom w g) (hne : e ≠ g) :
    Calls Tryz.prog 56 #[.pointer (some ⟨e, 0, none⟩), wv n, .int .i64 (k : Int)] w fun x w' => x = .returned (.tuple #[wv (nrY (upN n) k), .int .i64 0]) ∧ VG g w w' := by
  obtain ⟨u1, u2, u3⟩ := up_range h0 h
  have hn : n < M := Nat.lt_trans h (by rw [M_eq]; exact P2_lt (by omega))
  have SM := Lib.hid (fun w' => mayQ_w e n hn w')
  rw [(rs_yes h).2.2] at SM
  have SN := Lib.hid (fun w' => normS_yes n h0 h w')
  have S1 := Lib.hid (fun w' hE hI => recipR_w e g (upN n) k u3 u1 u2 hk w' hE hI hne)
  have b0 : decide ((k : Int) < 0) = false := decide_eq_false (by omega)
  have b1 : decide ((10 : Int) < (k : Int)) = false := decide_eq_false (by omega)
  have hz := isZ_no hn h0
  obtain ⟨y, hy⟩ : ∃ y, y = nrY (upN n) k := ⟨_, rfl⟩
  rw [← hy] at S1 ⊢
  obtain ⟨U, hU⟩ : ∃ y, y = upN n := ⟨_, rfl⟩
  rw [← hU] at SN S1
  obtain ⟨b, hb⟩ : ∃ y, y = nrmN n := ⟨_, rfl⟩
  rw [← hb] at SN
  have VB := Lib.hid (VG.refl hI)
  have Ge := Lib.hid hE
  have HNE := Lib.hid hne
  clear hk h0 h hE hI hne u1 u2 u3 hn hy hU hb
  go_enter Tryz.func56, Tryz.ntmps56
  replace Ge := Lib.hid (keepAl (o' := .cells (wcells n) 24) Ge.out)
  have Gn := Lib.hid (alloc_new (w) (.cells (wcells n) 24))
  replace VB := Lib.hid (VB.out.al (.cells (wcells n) 24))
  replace Ge := Lib.hid (keepAl (o' := .cells (wcells 0) 24) Ge.out)
  replace Gn := Lib.hid (keepAl (o' := .cells (wcells 0) 24) Gn.out)
  have Go := Lib.hid (alloc_new' (w := (w).alloc (.cells (wcells n) 24)) (n := w.heap.size + 1) (.cells (wcells 0) 24) (by simp))
  replace VB := Lib.hid (VB.out.al (.cells (wcells 0) 24))
  have cGe := cell_row Ge.out
  have cGn := cell_row Gn.out
  have cGo := cell_row Go.out
  go_wp2_with fail
  refine (SM.out _).mono ?_
  rintro e w11 ⟨rfl, hb⟩
  clear cGe cGn cGo
  replace VB := Lib.hid (VB.out.below hb)
  replace Ge := Lib.hid ((hb.block _ (lt_of_heap Ge.out)).trans Ge.out)
  replace Gn := Lib.hid ((hb.block _ (lt_of_heap Gn.out)).trans Gn.out)
  replace Go := Lib.hid ((hb.block _ (lt_of_heap Go.out)).trans Go.out)
  clear hb
  have cGe := cell_row Ge.out
  have cGn := cell_row Gn.out
  have cGo := cell_row Go.out
  go_wp2_with fail
  refine (SN.out _).mono ?_
  rintro e w12 ⟨rfl, hb⟩
  clear cGe cGn cGo
  replace VB := Lib.hid (VB.out.below hb)
  replace Ge := Lib.hid ((hb.block _ (lt_of_heap Ge.out)).trans Ge.out)
  replace Gn := Lib.hid ((hb.block _ (lt_of_heap Gn.out)).trans Gn.out)
  replace Go := Lib.hid ((hb.block _ (lt_of_heap Go.out)).trans Go.out)
  clear hb
  have HZ := Lib.hid (lt_of_heap Go.out)
  replace Ge := Lib.hid (keepAl (o' := .cells (wcells U) 24) Ge.out)
  replace Gn := Lib.hid (keepAl (o' := .cells (wcells U) 24) Gn.out)
  replace Go := Lib.hid (keepAl (o' := .cells (wcells U) 24) Go.out)
  have Gu := Lib.hid (alloc_new (w12) (.cells (wcells U) 24))
  replace VB := Lib.hid (VB.out.al (.cells (wcells U) 24))
  have cGe := cell_row Ge.out
  have cGn := cell_row Gn.out
  have cGo := cell_row Go.out
  have cGu := cell_row Gu.out
  go_wp2_with fail
  refine (S1.out _ Ge.out VB.out.rom).mono ?_
  rintro e w13 ⟨rfl, hv⟩
  clear cGe cGn cGo cGu
  replace Ge := Lib.hid (hv.heap Ge.out (by have := VB.out.lt; (try have := HNE.out); (try have := HZ.out); omega))
  replace Gn := Lib.hid (hv.heap Gn.out (by have := VB.out.lt; (try have := HNE.out); (try have := HZ.out); omega))
  replace Go := Lib.hid (hv.heap Go.out (by have := VB.out.lt; (try have := HNE.out); (try have := HZ.out); omega))
  replace Gu := Lib.hid (hv.heap Gu.out (by have := VB.out.lt; (try have := HNE.out); (try have := HZ.out); omega))
  replace VB := Lib.hid (VB.out.trans hv)
  clear hv
  have sto := st_row (P := Tryz.prog) Go.out rfl (y)
  replace Go := Lib.hid (setRow_heap (w13) (w.heap.size + 1) _ (wcells (y)) _ _ Go.out)
  replace VB := Lib.hid (VB.out.row (show _ ≤ w.heap.size + 1 by (omega)) (wcells (y)))
  have cGo := cell_row Go.out
  go_wp2
  exact bodyPost_ret (v := .tuple #[wv y, .int .i64 0]) (res_ct Tryz.results56 _ _ _ _ _ _ _ rfl rfl Go.out aggW) rfl ⟨rfl, VB.out⟩
end Go.Proofs.YtegmmaaapdgocaaGreat
