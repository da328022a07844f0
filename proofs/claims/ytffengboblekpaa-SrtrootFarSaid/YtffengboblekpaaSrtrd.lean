/- THE WALKS of srtroot: roots. -/
import Derived.Test.YtffengboblekpaaSrtrc
import Derived.Test.YtffengboblekpaaRt2b
namespace Go.Proofs.Ytffengboblekpaa
open Go Go.RowKit

attribute [local go_sem ↓] Go.wp_at_zero Go.wp_at_succ
theorem rootFunS_any (Eb a b P L : Nat) (i d : Int) (w : World) (he : w.heap[Eb]? = some (.cells (fc a b) 65 (0, 0))) :
    Calls Try.prog 44 #[.int .i64 i, .int .i64 d, .agg (fc P L), .pointer (some ⟨Eb, 0, none⟩)] w fun e w' => e = .returned (.bool true) ∧ w'.heap[Eb]? = some (.cells (fc P L) 65 (0, 0)) ∧ But (fun k => k = Eb) w w' := by
  have Ge := Lib.hid he
  have hlt := lt_of_heap he
  clear he
  go_enter Try.func44, Try.ntmps44
  have UB := Lib.hid (But.refl (fun k => k = Eb) w)
  replace Ge := Lib.hid (keepAl (o' := .cells (fc P L) 65) Ge.out)
  have Gf := Lib.hid (alloc_new (w) (.cells (fc P L) 65))
  replace UB := Lib.hid (UB.out.al (.cells (fc P L) 65))
  have cf := cell_row Gf.out
  have ste := st_16 (P := Try.prog) Ge.out rfl (P) (L)
  replace Gf := Lib.hid ((setRow_other ((w).alloc (.cells (fc P L) 65)) (Eb) _ (fc (P) (L)) (by (omega))).trans Gf.out)
  replace Ge := Lib.hid (setRow_heap ((w).alloc (.cells (fc P L) 65)) (Eb) _ (fc (P) (L)) _ _ Ge.out)
  replace UB := Lib.hid (But.row UB.out (by first | exact Or.inl rfl | exact Or.inr rfl | exact rfl) (fc (P) (L)))
  go_wp2
  go_ret
  exact ⟨rfl, Ge.out, UB.out⟩
theorem enters_rootS : Enters Try.prog 44 := fun args w => by simp [go_sem]
/-- What the root has in hand behind i steps. -/
structure RootInS (U Eb : Nat) (wq : World) (i : Nat) (w' : World) : Prop where
  e : ∃ a b, w'.heap[Eb]? = some (.cells (fc a b) 65 (0, 0)) ∧ (0 < i → a = toW (rP U i) ∧ b = toW (rL U i))
  but : But (fun k => k = Eb ∨ wq.heap.size ≤ k) wq w'
set_option maxRecDepth 100000 in
set_option maxHeartbeats 1000000 in
theorem rootRunS_any (U Eb : Nat) (w : World) (hU1 : P2 254 ≤ U) (hU2 : U < P2 256) (hE : Eb < w.heap.size) (he : w.heap[Eb]? = some (.cells (fc 0 0) 65 (0, 0))) :
    Calls Try.prog 43 #[wv U, .func (.func 44) #[] #[.pointer (some ⟨Eb, 0, none⟩)]] w fun e w' => e = .returned (.tuple #[]) ∧ w'.heap[Eb]? = some (.cells (fc (toW (rP U 64)) (toW (rL U 64))) 65 (0, 0)) ∧ But (fun k => k = Eb ∨ w.heap.size ≤ k) w w' := by
  refine (runS_any 44 #[.pointer (some ⟨Eb, 0, none⟩)] U 64 (fun _ => true) (fun _ => RootInS U Eb w) w hU1 hU2 (Nat.le_refl _) (by decide) enters_rootS (fun _ _ => rfl) (Or.inl rfl) ?_ ?_ ?_).mono ?_
  · intro g i w1 w2 hg h hb
    obtain ⟨a, b, h1, h2⟩ := h.e
    exact ⟨⟨a, b, hb.heap h1 (by omega), h2⟩, h.but.trans (hb.mono fun k _ hk => Or.inr (by omega))⟩
  · intro g i w' hi hg hsz h
    obtain ⟨a, b, h1, h2⟩ := h.e
    have := rootFunS_any Eb a b (toW (rP U (i + 1))) (toW (rL U (i + 1))) (i : Int) (rDig U i) w' h1
    refine (show Calls Try.prog 44 (#[.int .i64 (i : Int), .int .i64 (rDig U i), .agg (fc (toW (rP U (i + 1))) (toW (rL U (i + 1))))] ++ #[.pointer (some ⟨Eb, 0, none⟩)]) w' _ from this).mono ?_
    rintro e w'' ⟨rfl, g1, g2⟩
    refine ⟨rfl, ⟨⟨_, _, g1, fun _ => ⟨rfl, rfl⟩⟩, h.but.trans (g2.mono fun k _ hk => Or.inl hk)⟩, g2.mono fun k _ hk => ?_⟩
    subst hk
    omega
  · intro g w' hg hb _
    exact ⟨⟨0, 0, (hb.block _ hE).trans he, fun h => absurd h (by decide)⟩, But.of_below hb⟩
  · rintro e w' ⟨rfl, g, hg, h, hsz⟩
    obtain ⟨a, b, h1, h2⟩ := h.e
    obtain ⟨rfl, rfl⟩ := h2 (by decide)
    exact ⟨rfl, h1, h.but⟩
theorem rootEnd (n : Nat) (h0 : n ≠ 0) (h : n < P2 256) :
    ∃ (p : Nat) (neg : Bool), p < M ∧ toW (rP (upN n) 64) = p ∧ decide (P2 511 ≤ toW (rL (upN n) 64)) = neg ∧ (neg = false → p / P2 (nrmN n / 2) = rtN 2 n) ∧ (neg = true → subN p 1 / P2 (nrmN n / 2) = rtN 2 n) := by
  obtain ⟨u1, u2, _⟩ := up_range h0 h
  obtain ⟨e1, e2⟩ := rP_end u1 u2
  have hk := rP_keep u1 u2 64 (Nat.le_refl _)
  have hlow := hk.low u1
  have htop := hk.top
  have h128 : P2 128 < M := by rw [M_eq]; exact P2_lt (by omega)
  obtain ⟨p, hp⟩ := Int.eq_ofNat_of_zero_le (show 0 ≤ rP (upN n) 64 by omega)
  have hpp : p * p ≤ P2 256 := by
    rw [show P2 256 = P2 128 * P2 128 by rw [← P2_add]]
    exact Nat.mul_le_mul (by omega) (by omega)
  have hppi : ((p * p : Nat) : Int) = (p : Int) * (p : Int) := Int.natCast_mul _ _
  have h511 : P2 256 < P2 511 := P2_lt (by omega)
  have hL : rL (upN n) 64 = (upN n : Int) - (p : Int) * (p : Int) := by unfold rL; rw [hp]
  rw [hp] at e1 e2
  rw [← hL] at e1 e2
  have hs : rtN 2 (upN n) / P2 (nrmN n / 2) = rtN 2 n := by
    unfold upN
    rw [show nrmN n = 2 * (nrmN n / 2) by unfold nrmN; omega, Nat.mul_div_cancel_left _ (by decide)]
    exact rt_shift n _
  refine ⟨p, decide (rL (upN n) 64 < 0), by omega, by rw [hp]; exact toW_nat (by omega), minus_toW (by omega) (by omega), fun hn => ?_, fun hn => ?_⟩
  · have := e1 (by have := of_decide_eq_false hn; omega)
    rw [show p = rtN 2 (upN n) by omega]
    exact hs
  · have h1 := of_decide_eq_true hn
    have := e2 h1
    have hsub : subN p 1 = rtN 2 (upN n) := by
      unfold subN
      rw [show p + M - 1 = rtN 2 (upN n) + M by omega, Nat.add_mod_right, Nat.mod_eq_of_lt (by omega)]
    rw [hsub]
    exact hs
set_option maxRecDepth 100000 in
set_option maxHeartbeats 4000000 in
theorem rootS_w (n : Nat) (hn : n < M) (w : World) :
    Calls Try.prog 11 #[wv n] w fun e w' => e = .returned (.tuple #[wv (rsS n), wv (rsR n), .int .i64 (rsE n)]) ∧ Below w.heap.size w w' := by
  by_cases h0 : n = 0
  · have SN := Lib.hid (fun w' => normS_no n hn (Or.inl h0) w')
    have hz := isZ_yes h0
    have hm : n < P2 256 := by rw [h0]; exact P2_pos _
    obtain ⟨e1, e2, e3⟩ := rs_yes hm
    have hs : rtN 2 n = n := by rw [h0]; exact rt_unique (by decide) (by decide)
    have e4 : rsS n = n := e1.trans hs
    have e5 : rsR n = n := by rw [e2, hs, h0]
    rw [e3, e4, e5]
    clear hn h0 hm e1 e2 e3 hs e4 e5
    go_enter Try.func11, Try.ntmps11
    have HB := Lib.hid (Below.refl w.heap.size w)
    have Gn := Lib.hid (alloc_new (w) (.cells (wcells n) 24))
    replace HB := Lib.hid (below_al HB.out (.cells (wcells n) 24))
    replace Gn := Lib.hid (keepAl (o' := .cells (wcells 0) 24) Gn.out)
    have Gx := Lib.hid (alloc_new' (w := (w).alloc (.cells (wcells n) 24)) (n := w.heap.size + 1) (.cells (wcells 0) 24) (by simp))
    replace HB := Lib.hid (below_al HB.out (.cells (wcells 0) 24))
    replace Gn := Lib.hid (keepAl (o' := .cells (wcells 0) 24) Gn.out)
    replace Gx := Lib.hid (keepAl (o' := .cells (wcells 0) 24) Gx.out)
    have Gy := Lib.hid (alloc_new' (w := ((w).alloc (.cells (wcells n) 24)).alloc (.cells (wcells 0) 24)) (n := w.heap.size + 1 + 1) (.cells (wcells 0) 24) (by simp))
    replace HB := Lib.hid (below_al HB.out (.cells (wcells 0) 24))
    have cGn := cell_row Gn.out
    have cGx := cell_row Gx.out
    have cGy := cell_row Gy.out
    go_wp2_with fail
    refine (SN.out _).mono ?_
    rintro e w1 ⟨rfl, hb⟩
    clear cGn cGx cGy
    replace HB := Lib.hid (below_then HB.out hb)
    replace Gn := Lib.hid ((hb.block _ (lt_of_heap Gn.out)).trans Gn.out)
    replace Gx := Lib.hid ((hb.block _ (lt_of_heap Gx.out)).trans Gx.out)
    replace Gy := Lib.hid ((hb.block _ (lt_of_heap Gy.out)).trans Gy.out)
    clear hb
    have HZ := Lib.hid (lt_of_heap Gy.out)
    replace Gn := Lib.hid (keepAl (o' := .cells (wcells 0) 24) Gn.out)
    replace Gx := Lib.hid (keepAl (o' := .cells (wcells 0) 24) Gx.out)
    replace Gy := Lib.hid (keepAl (o' := .cells (wcells 0) 24) Gy.out)
    have Gu := Lib.hid (alloc_new (w1) (.cells (wcells 0) 24))
    replace HB := Lib.hid (below_al HB.out (.cells (wcells 0) 24))
    have cGn := cell_row Gn.out
    have cGx := cell_row Gx.out
    have cGy := cell_row Gy.out
    have cGu := cell_row Gu.out
    go_upto_region 3 with fail
    clear cGn cGx cGy cGu
    obtain ⟨w2, hw⟩ : ∃ wx, wx = (w1).alloc (.cells (wcells 0) 24) := ⟨_, rfl⟩
    rw [← hw] at Gn Gx Gy Gu HB ⊢
    clear hw
    refine wp_region_store [⟨w.heap.size + 1, 24, .tmp 25⟩, ⟨w.heap.size + 1 + 1, 24, .tmp 26⟩] (by kernel_rfl) (by kernel_rfl) (by kernel_rfl) rfl (List.Pairwise.cons (by intro r hr; simp only [List.mem_cons, List.not_mem_nil, or_false] at hr; subst hr <;> dsimp only <;> (have := HZ.out; omega)) (List.pairwise_singleton _ _)) ?_ ?_
    · intro r hr
      simp only [List.mem_cons, List.not_mem_nil, or_false] at hr
      rcases hr with rfl | rfl
      · exact ⟨_, Gx.out, by kernel_rfl⟩
      · exact ⟨_, Gy.out, by kernel_rfl⟩
    have xGn := extR_row (B := w2.heap.size) (R := [⟨w.heap.size + 1, 24, .tmp 25⟩, ⟨w.heap.size + 1 + 1, 24, .tmp 26⟩]) Gn.out (lt_of_heap Gn.out) (by intro r hr; simp only [List.mem_cons, List.not_mem_nil, or_false] at hr; rcases hr with rfl | rfl <;> dsimp only <;> (have := HZ.out; omega))
    have xGu := extR_row (B := w2.heap.size) (R := [⟨w.heap.size + 1, 24, .tmp 25⟩, ⟨w.heap.size + 1 + 1, 24, .tmp 26⟩]) Gu.out (lt_of_heap Gu.out) (by intro r hr; simp only [List.mem_cons, List.not_mem_nil, or_false] at hr; rcases hr with rfl | rfl <;> dsimp only <;> (have := HZ.out; omega))
    repeat (refine wpCalm_step (fun K hK => ?_); go_simp; first | (refine hK _ ?_; clear hK K) | (apply Exists.intro; refine ⟨fun _ => ?_, hK _ ?_⟩; (first | fail); clear hK K))
    refine wpCalm_nil ⟨?_, fun x hx => ?_⟩
    · intro r hr
      simp only [List.mem_cons, List.not_mem_nil, or_false] at hr
      rcases hr with rfl | rfl <;> exact fits_wv (by kernel_rfl) _
    replace Gx : Hid (x.val.heap[w.heap.size + 1]? = some (.cells (wcells (n)) 24 (0, 0))) := Lib.hid (hx ⟨w.heap.size + 1, 24, .tmp 25⟩ (by simp))
    replace Gy : Hid (x.val.heap[w.heap.size + 1 + 1]? = some (.cells (wcells (n)) 24 (0, 0))) := Lib.hid (hx ⟨w.heap.size + 1 + 1, 24, .tmp 26⟩ (by simp))
    replace Gn := Lib.hid (extR_block x Gn.out (lt_of_heap Gn.out) (by intro r hr; simp only [List.mem_cons, List.not_mem_nil, or_false] at hr; rcases hr with rfl | rfl <;> dsimp only <;> (have := HZ.out; omega)))
    replace Gu := Lib.hid (extR_block x Gu.out (lt_of_heap Gu.out) (by intro r hr; simp only [List.mem_cons, List.not_mem_nil, or_false] at hr; rcases hr with rfl | rfl <;> dsimp only <;> (have := HZ.out; omega)))
    replace HB := Lib.hid (extR_below x HB.out HB.out.size (by intro r hr; simp only [List.mem_cons, List.not_mem_nil, or_false] at hr; rcases hr with rfl | rfl <;> dsimp only <;> (have := HZ.out; omega)))
    clear hx xGn xGu
    obtain ⟨w3, hw⟩ : ∃ wx, wx = x.val := ⟨_, rfl⟩
    rw [← hw] at Gn Gx Gy Gu HB ⊢
    clear hw x
    have cGn := cell_row Gn.out
    have cGx := cell_row Gx.out
    have cGy := cell_row Gy.out
    have cGu := cell_row Gu.out
    go_wp2
    exact bodyPost_ret (v := .tuple #[wv n, wv n, .int .i64 0]) (res_cct Try.results11 _ _ _ _ _ _ _ _ _ _ _ rfl rfl rfl Gx.out Gy.out aggW aggW) rfl ⟨rfl, HB.out⟩
  by_cases hm : n < P2 256
  · have SN := Lib.hid (fun w' => normS_yes n h0 hm w')
    have hz := isZ_no hn h0
    obtain ⟨u1, u2, u3⟩ := up_range h0 hm
    clear u3
    obtain ⟨e1, e2, e3⟩ := rs_yes hm
    obtain ⟨p, neg, hp, hpe, hneg, hn0, hn1⟩ := rootEnd n h0 hm
    have SR := Lib.hid (fun Eb w' hE he => rootRunS_any (upN n) Eb w' u1 u2 hE he)
    have SM := Lib.hid (fun w' => minus_w (toW (rL (upN n) 64)) (toW_lt _) w')
    rw [hneg] at SM
    rw [hpe] at SR
    have hS := rt_lt hm
    have h128 : P2 128 < M := by rw [M_eq]; exact P2_lt (by omega)
    have hSS : rtN 2 n * rtN 2 n ≤ n := by have := (rt_spec 2 n (by decide)).1; rwa [sqr] at this
    have SQ := Lib.hid (fun w' => square_w (rtN 2 n) (by omega) w')
    rw [Nat.mod_eq_of_lt (show rtN 2 n * rtN 2 n < M by omega)] at SQ
    have SS := Lib.hid (fun w' => sub_w n (rtN 2 n * rtN 2 n) hn (by omega) w')
    have hsub : subN n (rtN 2 n * rtN 2 n) = n - rtN 2 n * rtN 2 n := by
      unfold subN
      rw [show n + M - rtN 2 n * rtN 2 n = (n - rtN 2 n * rtN 2 n) + M by omega, Nat.add_mod_right, Nat.mod_eq_of_lt (by omega)]
    rw [hsub] at SS
    rw [e1, e2, e3]
    have hb2 : Int.tdiv ((nrmN n : Nat) : Int) 2 = ((nrmN n / 2 : Nat) : Int) := by rw [Int.tdiv_eq_ediv_of_nonneg (by omega)]; omega
    have hb512 : nrmN n / 2 ≤ 512 := by unfold nrmN; omega
    have hw2 : IntKind.i64.wrap ((nrmN n / 2 : Nat) : Int) = ((nrmN n / 2 : Nat) : Int) := IntWalk.i64_in _ (by omega)
    have SH := Lib.hid (fun x (hx : x < M) w' => shr_any x hx ((nrmN n / 2 : Nat) : Int) w' (by omega) (by omega))
    rw [clampN_at hb512] at SH
    have SO : Hid (∀ (w' : World) (p : Nat), w'.heap[p]? = some (.cells #[.int .u64 1] 22 (0, 0)) → Calls Try.prog 47 #[.slice (some ⟨p, 0, none⟩) 1 1] w' fun e w'' => e = .returned (wv 1) ∧ Below w'.heap.size w' w'') := Lib.hid fun w' p h => of_one 1 (by omega) w' p h
    have hM1 : (1 : Nat) < M := lit_ltM _ (by decide)
    have SD := Lib.hid (fun w' => sub_w p 1 hp hM1 w')
    have hlt1 := subN_lt p 1
    obtain ⟨X, hX⟩ : ∃ x, x = upN n := ⟨_, rfl⟩
    rw [← hX] at SN SR SM
    obtain ⟨LE, hLE⟩ : ∃ x, x = toW (rL X 64) := ⟨_, rfl⟩
    rw [← hLE] at SR SM
    obtain ⟨by_, hby⟩ : ∃ x, x = nrmN n := ⟨_, rfl⟩
    rw [← hby] at SN hb2 hw2 SH hn0 hn1
    obtain ⟨S, hSe⟩ : ∃ x, x = rtN 2 n := ⟨_, rfl⟩
    rw [← hSe] at SQ SS hn0 hn1 ⊢
    obtain ⟨Q, hQ⟩ : ∃ x, x = S * S := ⟨_, rfl⟩
    rw [← hQ] at SQ SS ⊢
    obtain ⟨R, hR⟩ : ∃ x, x = n - Q := ⟨_, rfl⟩
    rw [← hR] at SS ⊢
    obtain ⟨c, hc⟩ : ∃ x, x = by_ / 2 := ⟨_, rfl⟩
    rw [← hc] at hb2 hw2 SH hn0 hn1
    obtain ⟨P1, hP1⟩ : ∃ x, x = subN p 1 := ⟨_, rfl⟩
    rw [← hP1] at SD hn1 hlt1
    obtain ⟨b1, hb1⟩ : ∃ x, x = decide (p < 1) := ⟨_, rfl⟩
    rw [← hb1] at SD
    obtain ⟨b3, hb3⟩ : ∃ x, x = decide (S * S < M) := ⟨_, rfl⟩
    rw [← hQ] at hb3
    rw [← hb3] at SQ
    obtain ⟨b4, hb4⟩ : ∃ x, x = decide (n < Q) := ⟨_, rfl⟩
    rw [← hb4] at SS
    have HP := Lib.hid hp; have HP1 := Lib.hid hlt1; have HN0 := Lib.hid hn0; have HN1 := Lib.hid hn1
    clear hn h0 hm u1 u2 e1 e2 e3 hp hpe hneg hn0 hn1 hS h128 hSS hsub hb512 hM1 hlt1 hX hLE hby hSe hQ hR hc hP1 hb1 hb3 hb4
    cases neg
    · have S3 := Lib.hid (fun w' => SH.out p HP.out w')
      rw [HN0.out rfl] at S3
      obtain ⟨b5, hb5⟩ : ∃ x, x = decide (p % P2 c ≠ 0) := ⟨_, rfl⟩
      rw [← hb5] at S3
      clear hb5 HN0 HN1 HP HP1 SH SO SD
      go_enter Try.func11, Try.ntmps11
      have HB := Lib.hid (Below.refl w.heap.size w)
      have Gn := Lib.hid (alloc_new (w) (.cells (wcells n) 24))
      replace HB := Lib.hid (below_al HB.out (.cells (wcells n) 24))
      replace Gn := Lib.hid (keepAl (o' := .cells (wcells 0) 24) Gn.out)
      have Gx := Lib.hid (alloc_new' (w := (w).alloc (.cells (wcells n) 24)) (n := w.heap.size + 1) (.cells (wcells 0) 24) (by simp))
      replace HB := Lib.hid (below_al HB.out (.cells (wcells 0) 24))
      replace Gn := Lib.hid (keepAl (o' := .cells (wcells 0) 24) Gn.out)
      replace Gx := Lib.hid (keepAl (o' := .cells (wcells 0) 24) Gx.out)
      have Gy := Lib.hid (alloc_new' (w := ((w).alloc (.cells (wcells n) 24)).alloc (.cells (wcells 0) 24)) (n := w.heap.size + 1 + 1) (.cells (wcells 0) 24) (by simp))
      replace HB := Lib.hid (below_al HB.out (.cells (wcells 0) 24))
      have cGn := cell_row Gn.out
      have cGx := cell_row Gx.out
      have cGy := cell_row Gy.out
      go_wp2_with fail
      refine (SN.out _).mono ?_
      rintro e w4 ⟨rfl, hb⟩
      clear cGn cGx cGy
      replace HB := Lib.hid (below_then HB.out hb)
      replace Gn := Lib.hid ((hb.block _ (lt_of_heap Gn.out)).trans Gn.out)
      replace Gx := Lib.hid ((hb.block _ (lt_of_heap Gx.out)).trans Gx.out)
      replace Gy := Lib.hid ((hb.block _ (lt_of_heap Gy.out)).trans Gy.out)
      clear hb
      have HZ := Lib.hid (lt_of_heap Gy.out)
      replace Gn := Lib.hid (keepAl (o' := .cells (wcells X) 24) Gn.out)
      replace Gx := Lib.hid (keepAl (o' := .cells (wcells X) 24) Gx.out)
      replace Gy := Lib.hid (keepAl (o' := .cells (wcells X) 24) Gy.out)
      have Gu := Lib.hid (alloc_new (w4) (.cells (wcells X) 24))
      replace HB := Lib.hid (below_al HB.out (.cells (wcells X) 24))
      have cGn := cell_row Gn.out
      have cGx := cell_row Gx.out
      have cGy := cell_row Gy.out
      have cGu := cell_row Gu.out
      go_upto_region 7 with fail
      clear cGn cGx cGy cGu
      replace Gn := Lib.hid (keepAl (o' := .cells (fc 0 0) 65) Gn.out)
      replace Gx := Lib.hid (keepAl (o' := .cells (fc 0 0) 65) Gx.out)
      replace Gy := Lib.hid (keepAl (o' := .cells (fc 0 0) 65) Gy.out)
      replace Gu := Lib.hid (keepAl (o' := .cells (fc 0 0) 65) Gu.out)
      have Ge := Lib.hid (alloc_new' (w := (w4).alloc (.cells (wcells X) 24)) (n := w4.heap.size + 1) (.cells (fc 0 0) 65) (by simp))
      replace HB := Lib.hid (below_al HB.out (.cells (fc 0 0) 65))
      have cGn := cell_row Gn.out
      have cGx := cell_row Gx.out
      have cGy := cell_row Gy.out
      have cGu := cell_row Gu.out
      have cGe := cell_row Ge.out
      go_wp2_with fail
      clear cGn cGx cGy cGu cGe
      obtain ⟨E, hE⟩ : ∃ E, E = w4.heap.size + 1 := ⟨_, rfl⟩
      have HE := Lib.hid (show w.heap.size + 1 + 1 < E by have := HZ.out; omega)
      rw [← hE] at Ge ⊢
      clear hE
      obtain ⟨wq, hw⟩ : ∃ wx, wx = ((w4).alloc (.cells (wcells X) 24)).alloc (.cells (fc 0 0) 65) := ⟨_, rfl⟩
      rw [← hw] at Gn Gx Gy Gu Ge HB ⊢
      clear hw
      refine (SR.out E _ (lt_of_heap Ge.out) Ge.out).mono ?_
      rintro e w5 ⟨rfl, he, hbut⟩
      have hz0 := HE.out
      have hwq := lt_of_heap Ge.out
      replace HB := Lib.hid (But.below HB.out hbut HB.out.size (fun i hi => by omega))
      replace Gn := Lib.hid (hbut.heap Gn.out (by omega))
      replace Gx := Lib.hid (hbut.heap Gx.out (by omega))
      replace Gy := Lib.hid (hbut.heap Gy.out (by omega))
      replace Ge := Lib.hid he
      clear he hbut Gu hz0 hwq
      have cGn := cell_row Gn.out
      have cGx := cell_row Gx.out
      have cGy := cell_row Gy.out
      have cGe := cell_row Ge.out
      go_wp2_with fail
      refine (SM.out _).mono ?_
      rintro e w5 ⟨rfl, hb⟩
      clear cGn cGx cGy cGe
      replace HB := Lib.hid (below_then HB.out hb)
      replace Gn := Lib.hid ((hb.block _ (lt_of_heap Gn.out)).trans Gn.out)
      replace Gx := Lib.hid ((hb.block _ (lt_of_heap Gx.out)).trans Gx.out)
      replace Gy := Lib.hid ((hb.block _ (lt_of_heap Gy.out)).trans Gy.out)
      replace Ge := Lib.hid ((hb.block _ (lt_of_heap Ge.out)).trans Ge.out)
      clear hb
      skip
      have cGn := cell_row Gn.out
      have cGx := cell_row Gx.out
      have cGy := cell_row Gy.out
      have cGe := cell_row Ge.out
      go_wp2_with fail
      refine (S3.out _).mono ?_
      rintro e w6 ⟨rfl, hb⟩
      clear cGn cGx cGy cGe
      replace HB := Lib.hid (below_then HB.out hb)
      replace Gn := Lib.hid ((hb.block _ (lt_of_heap Gn.out)).trans Gn.out)
      replace Gx := Lib.hid ((hb.block _ (lt_of_heap Gx.out)).trans Gx.out)
      replace Gy := Lib.hid ((hb.block _ (lt_of_heap Gy.out)).trans Gy.out)
      replace Ge := Lib.hid ((hb.block _ (lt_of_heap Ge.out)).trans Ge.out)
      clear hb
      have HZ3 := Lib.hid (lt_of_heap Gy.out)
      replace Gn := Lib.hid (keepAl (o' := .cells (wcells S) 24) Gn.out)
      replace Gx := Lib.hid (keepAl (o' := .cells (wcells S) 24) Gx.out)
      replace Gy := Lib.hid (keepAl (o' := .cells (wcells S) 24) Gy.out)
      replace Ge := Lib.hid (keepAl (o' := .cells (wcells S) 24) Ge.out)
      have Gs := Lib.hid (alloc_new (w6) (.cells (wcells S) 24))
      replace HB := Lib.hid (below_al HB.out (.cells (wcells S) 24))
      have cGn := cell_row Gn.out
      have cGx := cell_row Gx.out
      have cGy := cell_row Gy.out
      have cGe := cell_row Ge.out
      have cGs := cell_row Gs.out
      go_wp2_with fail
      refine (SQ.out _).mono ?_
      rintro e w7 ⟨rfl, hb⟩
      clear cGn cGx cGy cGe cGs
      replace HB := Lib.hid (below_then HB.out hb)
      replace Gn := Lib.hid ((hb.block _ (lt_of_heap Gn.out)).trans Gn.out)
      replace Gx := Lib.hid ((hb.block _ (lt_of_heap Gx.out)).trans Gx.out)
      replace Gy := Lib.hid ((hb.block _ (lt_of_heap Gy.out)).trans Gy.out)
      replace Ge := Lib.hid ((hb.block _ (lt_of_heap Ge.out)).trans Ge.out)
      replace Gs := Lib.hid ((hb.block _ (lt_of_heap Gs.out)).trans Gs.out)
      clear hb
      have HZ4 := Lib.hid (lt_of_heap Gy.out)
      have HZ5 := Lib.hid (lt_of_heap Gs.out)
      replace Gn := Lib.hid (keepAl (o' := .cells (wcells Q) 24) Gn.out)
      replace Gx := Lib.hid (keepAl (o' := .cells (wcells Q) 24) Gx.out)
      replace Gy := Lib.hid (keepAl (o' := .cells (wcells Q) 24) Gy.out)
      replace Ge := Lib.hid (keepAl (o' := .cells (wcells Q) 24) Ge.out)
      replace Gs := Lib.hid (keepAl (o' := .cells (wcells Q) 24) Gs.out)
      have Gq := Lib.hid (alloc_new (w7) (.cells (wcells Q) 24))
      replace HB := Lib.hid (below_al HB.out (.cells (wcells Q) 24))
      have cGn := cell_row Gn.out
      have cGx := cell_row Gx.out
      have cGy := cell_row Gy.out
      have cGe := cell_row Ge.out
      have cGs := cell_row Gs.out
      have cGq := cell_row Gq.out
      go_wp2_with fail
      refine (SS.out _).mono ?_
      rintro e w8 ⟨rfl, hb⟩
      clear cGn cGx cGy cGe cGs cGq
      replace HB := Lib.hid (below_then HB.out hb)
      replace Gn := Lib.hid ((hb.block _ (lt_of_heap Gn.out)).trans Gn.out)
      replace Gx := Lib.hid ((hb.block _ (lt_of_heap Gx.out)).trans Gx.out)
      replace Gy := Lib.hid ((hb.block _ (lt_of_heap Gy.out)).trans Gy.out)
      replace Ge := Lib.hid ((hb.block _ (lt_of_heap Ge.out)).trans Ge.out)
      replace Gs := Lib.hid ((hb.block _ (lt_of_heap Gs.out)).trans Gs.out)
      replace Gq := Lib.hid ((hb.block _ (lt_of_heap Gq.out)).trans Gq.out)
      clear hb
      have HZ6 := Lib.hid (lt_of_heap Gy.out)
      have HZ7 := Lib.hid (lt_of_heap Gs.out)
      replace Gn := Lib.hid (keepAl (o' := .cells (wcells R) 24) Gn.out)
      replace Gx := Lib.hid (keepAl (o' := .cells (wcells R) 24) Gx.out)
      replace Gy := Lib.hid (keepAl (o' := .cells (wcells R) 24) Gy.out)
      replace Gs := Lib.hid (keepAl (o' := .cells (wcells R) 24) Gs.out)
      have Gr := Lib.hid (alloc_new (w8) (.cells (wcells R) 24))
      replace HB := Lib.hid (below_al HB.out (.cells (wcells R) 24))
      have cGn := cell_row Gn.out
      have cGx := cell_row Gx.out
      have cGy := cell_row Gy.out
      have cGs := cell_row Gs.out
      have cGr := cell_row Gr.out
      go_upto_region 13 with fail
      clear cGn cGx cGy cGs cGr
      obtain ⟨w9, hw⟩ : ∃ wx, wx = (w8).alloc (.cells (wcells R) 24) := ⟨_, rfl⟩
      rw [← hw] at Gn Gx Gy Gs Gr HB ⊢
      clear hw
      refine wp_region_store [⟨w.heap.size + 1, 24, .tmp 66⟩, ⟨w.heap.size + 1 + 1, 24, .tmp 67⟩] (by kernel_rfl) (by kernel_rfl) (by kernel_rfl) rfl (List.Pairwise.cons (by intro r hr; simp only [List.mem_cons, List.not_mem_nil, or_false] at hr; subst hr <;> dsimp only <;> (have := HZ3.out; have := HZ4.out; have := HZ6.out; have := HE.out; omega)) (List.pairwise_singleton _ _)) ?_ ?_
      · intro r hr
        simp only [List.mem_cons, List.not_mem_nil, or_false] at hr
        rcases hr with rfl | rfl
        · exact ⟨_, Gx.out, by kernel_rfl⟩
        · exact ⟨_, Gy.out, by kernel_rfl⟩
      have xGn := extR_row (B := w9.heap.size) (R := [⟨w.heap.size + 1, 24, .tmp 66⟩, ⟨w.heap.size + 1 + 1, 24, .tmp 67⟩]) Gn.out (lt_of_heap Gn.out) (by intro r hr; simp only [List.mem_cons, List.not_mem_nil, or_false] at hr; rcases hr with rfl | rfl <;> dsimp only <;> (have := HZ3.out; have := HZ4.out; have := HZ6.out; have := HE.out; omega))
      have xGs := extR_row (B := w9.heap.size) (R := [⟨w.heap.size + 1, 24, .tmp 66⟩, ⟨w.heap.size + 1 + 1, 24, .tmp 67⟩]) Gs.out (lt_of_heap Gs.out) (by intro r hr; simp only [List.mem_cons, List.not_mem_nil, or_false] at hr; rcases hr with rfl | rfl <;> dsimp only <;> (have := HZ3.out; have := HZ4.out; have := HZ6.out; have := HE.out; omega))
      have xGr := extR_row (B := w9.heap.size) (R := [⟨w.heap.size + 1, 24, .tmp 66⟩, ⟨w.heap.size + 1 + 1, 24, .tmp 67⟩]) Gr.out (lt_of_heap Gr.out) (by intro r hr; simp only [List.mem_cons, List.not_mem_nil, or_false] at hr; rcases hr with rfl | rfl <;> dsimp only <;> (have := HZ3.out; have := HZ4.out; have := HZ6.out; have := HE.out; omega))
      repeat (refine wpCalm_step (fun K hK => ?_); go_simp; first | (refine hK _ ?_; clear hK K) | (apply Exists.intro; refine ⟨fun _ => ?_, hK _ ?_⟩; (first | fail); clear hK K))
      refine wpCalm_nil ⟨?_, fun x hx => ?_⟩
      · intro r hr
        simp only [List.mem_cons, List.not_mem_nil, or_false] at hr
        rcases hr with rfl | rfl <;> exact fits_wv (by kernel_rfl) _
      replace Gx : Hid (x.val.heap[w.heap.size + 1]? = some (.cells (wcells (S)) 24 (0, 0))) := Lib.hid (hx ⟨w.heap.size + 1, 24, .tmp 66⟩ (by simp))
      replace Gy : Hid (x.val.heap[w.heap.size + 1 + 1]? = some (.cells (wcells (R)) 24 (0, 0))) := Lib.hid (hx ⟨w.heap.size + 1 + 1, 24, .tmp 67⟩ (by simp))
      replace Gn := Lib.hid (extR_block x Gn.out (lt_of_heap Gn.out) (by intro r hr; simp only [List.mem_cons, List.not_mem_nil, or_false] at hr; rcases hr with rfl | rfl <;> dsimp only <;> (have := HZ3.out; have := HZ4.out; have := HZ6.out; have := HE.out; omega)))
      replace Gs := Lib.hid (extR_block x Gs.out (lt_of_heap Gs.out) (by intro r hr; simp only [List.mem_cons, List.not_mem_nil, or_false] at hr; rcases hr with rfl | rfl <;> dsimp only <;> (have := HZ3.out; have := HZ4.out; have := HZ6.out; have := HE.out; omega)))
      replace Gr := Lib.hid (extR_block x Gr.out (lt_of_heap Gr.out) (by intro r hr; simp only [List.mem_cons, List.not_mem_nil, or_false] at hr; rcases hr with rfl | rfl <;> dsimp only <;> (have := HZ3.out; have := HZ4.out; have := HZ6.out; have := HE.out; omega)))
      replace HB := Lib.hid (extR_below x HB.out HB.out.size (by intro r hr; simp only [List.mem_cons, List.not_mem_nil, or_false] at hr; rcases hr with rfl | rfl <;> dsimp only <;> (have := HZ3.out; have := HZ4.out; have := HZ6.out; have := HE.out; omega)))
      clear hx xGn xGs xGr
      obtain ⟨w10, hw⟩ : ∃ wx, wx = x.val := ⟨_, rfl⟩
      rw [← hw] at Gn Gx Gy Gs Gr HB ⊢
      clear hw x
      have cGn := cell_row Gn.out
      have cGx := cell_row Gx.out
      have cGy := cell_row Gy.out
      have cGs := cell_row Gs.out
      have cGr := cell_row Gr.out
      go_wp2
      exact bodyPost_ret (v := .tuple #[wv S, wv R, .int .i64 0]) (res_cct Try.results11 _ _ _ _ _ _ _ _ _ _ _ rfl rfl rfl Gx.out Gy.out aggW aggW) rfl ⟨rfl, HB.out⟩
    · have S3 := Lib.hid (fun w' => SH.out P1 HP1.out w')
      rw [HN1.out rfl] at S3
      obtain ⟨b5, hb5⟩ : ∃ x, x = decide (P1 % P2 c ≠ 0) := ⟨_, rfl⟩
      rw [← hb5] at S3
      clear hb5 HN0 HN1 HP HP1 SH
      go_enter Try.func11, Try.ntmps11
      have HB := Lib.hid (Below.refl w.heap.size w)
      have Gn := Lib.hid (alloc_new (w) (.cells (wcells n) 24))
      replace HB := Lib.hid (below_al HB.out (.cells (wcells n) 24))
      replace Gn := Lib.hid (keepAl (o' := .cells (wcells 0) 24) Gn.out)
      have Gx := Lib.hid (alloc_new' (w := (w).alloc (.cells (wcells n) 24)) (n := w.heap.size + 1) (.cells (wcells 0) 24) (by simp))
      replace HB := Lib.hid (below_al HB.out (.cells (wcells 0) 24))
      replace Gn := Lib.hid (keepAl (o' := .cells (wcells 0) 24) Gn.out)
      replace Gx := Lib.hid (keepAl (o' := .cells (wcells 0) 24) Gx.out)
      have Gy := Lib.hid (alloc_new' (w := ((w).alloc (.cells (wcells n) 24)).alloc (.cells (wcells 0) 24)) (n := w.heap.size + 1 + 1) (.cells (wcells 0) 24) (by simp))
      replace HB := Lib.hid (below_al HB.out (.cells (wcells 0) 24))
      have cGn := cell_row Gn.out
      have cGx := cell_row Gx.out
      have cGy := cell_row Gy.out
      go_wp2_with fail
      refine (SN.out _).mono ?_
      rintro e w11 ⟨rfl, hb⟩
      clear cGn cGx cGy
      replace HB := Lib.hid (below_then HB.out hb)
      replace Gn := Lib.hid ((hb.block _ (lt_of_heap Gn.out)).trans Gn.out)
      replace Gx := Lib.hid ((hb.block _ (lt_of_heap Gx.out)).trans Gx.out)
      replace Gy := Lib.hid ((hb.block _ (lt_of_heap Gy.out)).trans Gy.out)
      clear hb
      have HZ := Lib.hid (lt_of_heap Gy.out)
      replace Gn := Lib.hid (keepAl (o' := .cells (wcells X) 24) Gn.out)
      replace Gx := Lib.hid (keepAl (o' := .cells (wcells X) 24) Gx.out)
      replace Gy := Lib.hid (keepAl (o' := .cells (wcells X) 24) Gy.out)
      have Gu := Lib.hid (alloc_new (w11) (.cells (wcells X) 24))
      replace HB := Lib.hid (below_al HB.out (.cells (wcells X) 24))
      have cGn := cell_row Gn.out
      have cGx := cell_row Gx.out
      have cGy := cell_row Gy.out
      have cGu := cell_row Gu.out
      go_upto_region 7 with fail
      clear cGn cGx cGy cGu
      replace Gn := Lib.hid (keepAl (o' := .cells (fc 0 0) 65) Gn.out)
      replace Gx := Lib.hid (keepAl (o' := .cells (fc 0 0) 65) Gx.out)
      replace Gy := Lib.hid (keepAl (o' := .cells (fc 0 0) 65) Gy.out)
      replace Gu := Lib.hid (keepAl (o' := .cells (fc 0 0) 65) Gu.out)
      have Ge := Lib.hid (alloc_new' (w := (w11).alloc (.cells (wcells X) 24)) (n := w11.heap.size + 1) (.cells (fc 0 0) 65) (by simp))
      replace HB := Lib.hid (below_al HB.out (.cells (fc 0 0) 65))
      have cGn := cell_row Gn.out
      have cGx := cell_row Gx.out
      have cGy := cell_row Gy.out
      have cGu := cell_row Gu.out
      have cGe := cell_row Ge.out
      go_wp2_with fail
      clear cGn cGx cGy cGu cGe
      obtain ⟨E, hE⟩ : ∃ E, E = w11.heap.size + 1 := ⟨_, rfl⟩
      have HE := Lib.hid (show w.heap.size + 1 + 1 < E by have := HZ.out; omega)
      rw [← hE] at Ge ⊢
      clear hE
      obtain ⟨wq, hw⟩ : ∃ wx, wx = ((w11).alloc (.cells (wcells X) 24)).alloc (.cells (fc 0 0) 65) := ⟨_, rfl⟩
      rw [← hw] at Gn Gx Gy Gu Ge HB ⊢
      clear hw
      refine (SR.out E _ (lt_of_heap Ge.out) Ge.out).mono ?_
      rintro e w5 ⟨rfl, he, hbut⟩
      have hz0 := HE.out
      have hwq := lt_of_heap Ge.out
      replace HB := Lib.hid (But.below HB.out hbut HB.out.size (fun i hi => by omega))
      replace Gn := Lib.hid (hbut.heap Gn.out (by omega))
      replace Gx := Lib.hid (hbut.heap Gx.out (by omega))
      replace Gy := Lib.hid (hbut.heap Gy.out (by omega))
      replace Ge := Lib.hid he
      clear he hbut Gu hz0 hwq
      have cGn := cell_row Gn.out
      have cGx := cell_row Gx.out
      have cGy := cell_row Gy.out
      have cGe := cell_row Ge.out
      go_wp2_with fail
      refine (SM.out _).mono ?_
      rintro e w12 ⟨rfl, hb⟩
      clear cGn cGx cGy cGe
      replace HB := Lib.hid (below_then HB.out hb)
      replace Gn := Lib.hid ((hb.block _ (lt_of_heap Gn.out)).trans Gn.out)
      replace Gx := Lib.hid ((hb.block _ (lt_of_heap Gx.out)).trans Gx.out)
      replace Gy := Lib.hid ((hb.block _ (lt_of_heap Gy.out)).trans Gy.out)
      replace Ge := Lib.hid ((hb.block _ (lt_of_heap Ge.out)).trans Ge.out)
      clear hb
      have cGn := cell_row Gn.out
      have cGx := cell_row Gx.out
      have cGy := cell_row Gy.out
      have cGe := cell_row Ge.out
      go_upto_region 9 with fail
      clear cGn cGx cGy cGe
      have kGn := cell_row (w := w12.drew) Gn.out
      have kGx := cell_row (w := w12.drew) Gx.out
      have kGy := cell_row (w := w12.drew) Gy.out
      have kGe := cell_row (w := w12.drew) Ge.out
      go_cut [] (fun wx => wx.heap[E]? = some (.cells (fc (P1) (LE)) 65 (0, 0)) ∧ But (fun k => k = E) w12 wx)
      case first =>
        have UL := Lib.hid (But.refl (fun k => k = E) w12).drew
        have AGn := Lib.hid (show w12.drew.heap[_]? = some _ from Gn.out)
        have AGx := Lib.hid (show w12.drew.heap[_]? = some _ from Gx.out)
        have AGy := Lib.hid (show w12.drew.heap[_]? = some _ from Gy.out)
        have AGe := Lib.hid (show w12.drew.heap[_]? = some _ from Ge.out)
        have st := st_lo (P := Try.prog) AGe.out (P1)
        have kn := Lib.hid (show (w12.alloc (.cells #[.int .u64 1] 22)).drew.heap[w12.heap.size]? = some (.cells #[.int .u64 1] 22 (0, 0)) from alloc_new w12 _)
        have VL := Lib.hid (((But.refl (fun k => k = E) w12).al (.cells #[.int .u64 1] 22)).drew)
        have BGn := Lib.hid (show (w12.alloc (.cells #[.int .u64 1] 22)).drew.heap[_]? = some _ from keepAl Gn.out)
        have jGn := cell_row BGn.out
        have BGx := Lib.hid (show (w12.alloc (.cells #[.int .u64 1] 22)).drew.heap[_]? = some _ from keepAl Gx.out)
        have jGx := cell_row BGx.out
        have BGy := Lib.hid (show (w12.alloc (.cells #[.int .u64 1] 22)).drew.heap[_]? = some _ from keepAl Gy.out)
        have jGy := cell_row BGy.out
        have BGe := Lib.hid (show (w12.alloc (.cells #[.int .u64 1] 22)).drew.heap[_]? = some _ from keepAl Ge.out)
        have jGe := cell_row BGe.out
        go_region_with
          (first
            | (go_at_call 47
               refine (SO.out _ _ kn.out).mono ?_
               rintro e wA ⟨rfl, hb⟩
               have AGn := Lib.hid (show wA.heap[_]? = some _ from by first | exact (hb.block _ (lt_of_heap AGn.out)).trans AGn.out | exact (hb.block _ (lt_of_heap BGn.out)).trans BGn.out)
               have kGn := cell_row AGn.out
               have AGx := Lib.hid (show wA.heap[_]? = some _ from by first | exact (hb.block _ (lt_of_heap AGx.out)).trans AGx.out | exact (hb.block _ (lt_of_heap BGx.out)).trans BGx.out)
               have kGx := cell_row AGx.out
               have AGy := Lib.hid (show wA.heap[_]? = some _ from by first | exact (hb.block _ (lt_of_heap AGy.out)).trans AGy.out | exact (hb.block _ (lt_of_heap BGy.out)).trans BGy.out)
               have kGy := cell_row AGy.out
               have AGe := Lib.hid (show wA.heap[_]? = some _ from by first | exact (hb.block _ (lt_of_heap AGe.out)).trans AGe.out | exact (hb.block _ (lt_of_heap BGe.out)).trans BGe.out)
               have kGe := cell_row AGe.out
               have UL : Hid (But (fun k => k = E) w12 wA) := Lib.hid (by first | exact UL.out.trans (But.of_below hb) | exact VL.out.trans (But.of_below hb))
               have st := st_lo (P := Try.prog) AGe.out (P1)
               clear hb)
            | (go_at_call 46
               refine (SD.out _).mono ?_
               rintro e wA ⟨rfl, hb⟩
               have AGn := Lib.hid (show wA.heap[_]? = some _ from by first | exact (hb.block _ (lt_of_heap AGn.out)).trans AGn.out | exact (hb.block _ (lt_of_heap BGn.out)).trans BGn.out)
               have kGn := cell_row AGn.out
               have AGx := Lib.hid (show wA.heap[_]? = some _ from by first | exact (hb.block _ (lt_of_heap AGx.out)).trans AGx.out | exact (hb.block _ (lt_of_heap BGx.out)).trans BGx.out)
               have kGx := cell_row AGx.out
               have AGy := Lib.hid (show wA.heap[_]? = some _ from by first | exact (hb.block _ (lt_of_heap AGy.out)).trans AGy.out | exact (hb.block _ (lt_of_heap BGy.out)).trans BGy.out)
               have kGy := cell_row AGy.out
               have AGe := Lib.hid (show wA.heap[_]? = some _ from by first | exact (hb.block _ (lt_of_heap AGe.out)).trans AGe.out | exact (hb.block _ (lt_of_heap BGe.out)).trans BGe.out)
               have kGe := cell_row AGe.out
               have UL : Hid (But (fun k => k = E) w12 wA) := Lib.hid (by first | exact UL.out.trans (But.of_below hb) | exact VL.out.trans (But.of_below hb))
               have st := st_lo (P := Try.prog) AGe.out (P1)
               clear hb))
        all_goals
          go_wp2
          go_meet
          exact ⟨setRow_heap _ _ _ _ _ _ AGe.out, But.row UL.out rfl _⟩
      case rest =>
      obtain ⟨hgx, hbx⟩ := hcut
      clear kGn kGx kGy kGe
      replace HB := Lib.hid (But.below HB.out hbx HB.out.size (fun i hi => by (have := HE.out; omega)))
      replace Gn := Lib.hid (hbx.heap Gn.out (by (have := HE.out; omega)))
      replace Gx := Lib.hid (hbx.heap Gx.out (by (have := HE.out; omega)))
      replace Gy := Lib.hid (hbx.heap Gy.out (by (have := HE.out; omega)))
      replace Ge := Lib.hid hgx
      clear hgx hbx
      obtain ⟨w13, hw⟩ : ∃ wx, wx = wc := ⟨_, rfl⟩
      rw [← hw] at Gn Gx Gy Ge HB ⊢
      clear hw
      have cGn := cell_row Gn.out
      have cGx := cell_row Gx.out
      have cGy := cell_row Gy.out
      have cGe := cell_row Ge.out
      go_wp2_with fail
      refine (S3.out _).mono ?_
      rintro e w14 ⟨rfl, hb⟩
      clear cGn cGx cGy cGe
      replace HB := Lib.hid (below_then HB.out hb)
      replace Gn := Lib.hid ((hb.block _ (lt_of_heap Gn.out)).trans Gn.out)
      replace Gx := Lib.hid ((hb.block _ (lt_of_heap Gx.out)).trans Gx.out)
      replace Gy := Lib.hid ((hb.block _ (lt_of_heap Gy.out)).trans Gy.out)
      replace Ge := Lib.hid ((hb.block _ (lt_of_heap Ge.out)).trans Ge.out)
      clear hb
      have HZ3 := Lib.hid (lt_of_heap Gy.out)
      replace Gn := Lib.hid (keepAl (o' := .cells (wcells S) 24) Gn.out)
      replace Gx := Lib.hid (keepAl (o' := .cells (wcells S) 24) Gx.out)
      replace Gy := Lib.hid (keepAl (o' := .cells (wcells S) 24) Gy.out)
      replace Ge := Lib.hid (keepAl (o' := .cells (wcells S) 24) Ge.out)
      have Gs := Lib.hid (alloc_new (w14) (.cells (wcells S) 24))
      replace HB := Lib.hid (below_al HB.out (.cells (wcells S) 24))
      have cGn := cell_row Gn.out
      have cGx := cell_row Gx.out
      have cGy := cell_row Gy.out
      have cGe := cell_row Ge.out
      have cGs := cell_row Gs.out
      go_wp2_with fail
      refine (SQ.out _).mono ?_
      rintro e w15 ⟨rfl, hb⟩
      clear cGn cGx cGy cGe cGs
      replace HB := Lib.hid (below_then HB.out hb)
      replace Gn := Lib.hid ((hb.block _ (lt_of_heap Gn.out)).trans Gn.out)
      replace Gx := Lib.hid ((hb.block _ (lt_of_heap Gx.out)).trans Gx.out)
      replace Gy := Lib.hid ((hb.block _ (lt_of_heap Gy.out)).trans Gy.out)
      replace Ge := Lib.hid ((hb.block _ (lt_of_heap Ge.out)).trans Ge.out)
      replace Gs := Lib.hid ((hb.block _ (lt_of_heap Gs.out)).trans Gs.out)
      clear hb
      have HZ4 := Lib.hid (lt_of_heap Gy.out)
      have HZ5 := Lib.hid (lt_of_heap Gs.out)
      replace Gn := Lib.hid (keepAl (o' := .cells (wcells Q) 24) Gn.out)
      replace Gx := Lib.hid (keepAl (o' := .cells (wcells Q) 24) Gx.out)
      replace Gy := Lib.hid (keepAl (o' := .cells (wcells Q) 24) Gy.out)
      replace Ge := Lib.hid (keepAl (o' := .cells (wcells Q) 24) Ge.out)
      replace Gs := Lib.hid (keepAl (o' := .cells (wcells Q) 24) Gs.out)
      have Gq := Lib.hid (alloc_new (w15) (.cells (wcells Q) 24))
      replace HB := Lib.hid (below_al HB.out (.cells (wcells Q) 24))
      have cGn := cell_row Gn.out
      have cGx := cell_row Gx.out
      have cGy := cell_row Gy.out
      have cGe := cell_row Ge.out
      have cGs := cell_row Gs.out
      have cGq := cell_row Gq.out
      go_wp2_with fail
      refine (SS.out _).mono ?_
      rintro e w16 ⟨rfl, hb⟩
      clear cGn cGx cGy cGe cGs cGq
      replace HB := Lib.hid (below_then HB.out hb)
      replace Gn := Lib.hid ((hb.block _ (lt_of_heap Gn.out)).trans Gn.out)
      replace Gx := Lib.hid ((hb.block _ (lt_of_heap Gx.out)).trans Gx.out)
      replace Gy := Lib.hid ((hb.block _ (lt_of_heap Gy.out)).trans Gy.out)
      replace Ge := Lib.hid ((hb.block _ (lt_of_heap Ge.out)).trans Ge.out)
      replace Gs := Lib.hid ((hb.block _ (lt_of_heap Gs.out)).trans Gs.out)
      replace Gq := Lib.hid ((hb.block _ (lt_of_heap Gq.out)).trans Gq.out)
      clear hb
      have HZ6 := Lib.hid (lt_of_heap Gy.out)
      have HZ7 := Lib.hid (lt_of_heap Gs.out)
      replace Gn := Lib.hid (keepAl (o' := .cells (wcells R) 24) Gn.out)
      replace Gx := Lib.hid (keepAl (o' := .cells (wcells R) 24) Gx.out)
      replace Gy := Lib.hid (keepAl (o' := .cells (wcells R) 24) Gy.out)
      replace Gs := Lib.hid (keepAl (o' := .cells (wcells R) 24) Gs.out)
      have Gr := Lib.hid (alloc_new (w16) (.cells (wcells R) 24))
      replace HB := Lib.hid (below_al HB.out (.cells (wcells R) 24))
      have cGn := cell_row Gn.out
      have cGx := cell_row Gx.out
      have cGy := cell_row Gy.out
      have cGs := cell_row Gs.out
      have cGr := cell_row Gr.out
      go_upto_region 13 with fail
      clear cGn cGx cGy cGs cGr
      obtain ⟨w17, hw⟩ : ∃ wx, wx = (w16).alloc (.cells (wcells R) 24) := ⟨_, rfl⟩
      rw [← hw] at Gn Gx Gy Gs Gr HB ⊢
      clear hw
      refine wp_region_store [⟨w.heap.size + 1, 24, .tmp 66⟩, ⟨w.heap.size + 1 + 1, 24, .tmp 67⟩] (by kernel_rfl) (by kernel_rfl) (by kernel_rfl) rfl (List.Pairwise.cons (by intro r hr; simp only [List.mem_cons, List.not_mem_nil, or_false] at hr; subst hr <;> dsimp only <;> (have := HZ3.out; have := HZ4.out; have := HZ6.out; have := HE.out; omega)) (List.pairwise_singleton _ _)) ?_ ?_
      · intro r hr
        simp only [List.mem_cons, List.not_mem_nil, or_false] at hr
        rcases hr with rfl | rfl
        · exact ⟨_, Gx.out, by kernel_rfl⟩
        · exact ⟨_, Gy.out, by kernel_rfl⟩
      have xGn := extR_row (B := w17.heap.size) (R := [⟨w.heap.size + 1, 24, .tmp 66⟩, ⟨w.heap.size + 1 + 1, 24, .tmp 67⟩]) Gn.out (lt_of_heap Gn.out) (by intro r hr; simp only [List.mem_cons, List.not_mem_nil, or_false] at hr; rcases hr with rfl | rfl <;> dsimp only <;> (have := HZ3.out; have := HZ4.out; have := HZ6.out; have := HE.out; omega))
      have xGs := extR_row (B := w17.heap.size) (R := [⟨w.heap.size + 1, 24, .tmp 66⟩, ⟨w.heap.size + 1 + 1, 24, .tmp 67⟩]) Gs.out (lt_of_heap Gs.out) (by intro r hr; simp only [List.mem_cons, List.not_mem_nil, or_false] at hr; rcases hr with rfl | rfl <;> dsimp only <;> (have := HZ3.out; have := HZ4.out; have := HZ6.out; have := HE.out; omega))
      have xGr := extR_row (B := w17.heap.size) (R := [⟨w.heap.size + 1, 24, .tmp 66⟩, ⟨w.heap.size + 1 + 1, 24, .tmp 67⟩]) Gr.out (lt_of_heap Gr.out) (by intro r hr; simp only [List.mem_cons, List.not_mem_nil, or_false] at hr; rcases hr with rfl | rfl <;> dsimp only <;> (have := HZ3.out; have := HZ4.out; have := HZ6.out; have := HE.out; omega))
      repeat (refine wpCalm_step (fun K hK => ?_); go_simp; first | (refine hK _ ?_; clear hK K) | (apply Exists.intro; refine ⟨fun _ => ?_, hK _ ?_⟩; (first | fail); clear hK K))
      refine wpCalm_nil ⟨?_, fun x hx => ?_⟩
      · intro r hr
        simp only [List.mem_cons, List.not_mem_nil, or_false] at hr
        rcases hr with rfl | rfl <;> exact fits_wv (by kernel_rfl) _
      replace Gx : Hid (x.val.heap[w.heap.size + 1]? = some (.cells (wcells (S)) 24 (0, 0))) := Lib.hid (hx ⟨w.heap.size + 1, 24, .tmp 66⟩ (by simp))
      replace Gy : Hid (x.val.heap[w.heap.size + 1 + 1]? = some (.cells (wcells (R)) 24 (0, 0))) := Lib.hid (hx ⟨w.heap.size + 1 + 1, 24, .tmp 67⟩ (by simp))
      replace Gn := Lib.hid (extR_block x Gn.out (lt_of_heap Gn.out) (by intro r hr; simp only [List.mem_cons, List.not_mem_nil, or_false] at hr; rcases hr with rfl | rfl <;> dsimp only <;> (have := HZ3.out; have := HZ4.out; have := HZ6.out; have := HE.out; omega)))
      replace Gs := Lib.hid (extR_block x Gs.out (lt_of_heap Gs.out) (by intro r hr; simp only [List.mem_cons, List.not_mem_nil, or_false] at hr; rcases hr with rfl | rfl <;> dsimp only <;> (have := HZ3.out; have := HZ4.out; have := HZ6.out; have := HE.out; omega)))
      replace Gr := Lib.hid (extR_block x Gr.out (lt_of_heap Gr.out) (by intro r hr; simp only [List.mem_cons, List.not_mem_nil, or_false] at hr; rcases hr with rfl | rfl <;> dsimp only <;> (have := HZ3.out; have := HZ4.out; have := HZ6.out; have := HE.out; omega)))
      replace HB := Lib.hid (extR_below x HB.out HB.out.size (by intro r hr; simp only [List.mem_cons, List.not_mem_nil, or_false] at hr; rcases hr with rfl | rfl <;> dsimp only <;> (have := HZ3.out; have := HZ4.out; have := HZ6.out; have := HE.out; omega)))
      clear hx xGn xGs xGr
      obtain ⟨w18, hw⟩ : ∃ wx, wx = x.val := ⟨_, rfl⟩
      rw [← hw] at Gn Gx Gy Gs Gr HB ⊢
      clear hw x
      have cGn := cell_row Gn.out
      have cGx := cell_row Gx.out
      have cGy := cell_row Gy.out
      have cGs := cell_row Gs.out
      have cGr := cell_row Gr.out
      go_wp2
      exact bodyPost_ret (v := .tuple #[wv S, wv R, .int .i64 0]) (res_cct Try.results11 _ _ _ _ _ _ _ _ _ _ _ rfl rfl rfl Gx.out Gy.out aggW aggW) rfl ⟨rfl, HB.out⟩
  · have SN := Lib.hid (fun w' => normS_no n hn (Or.inr hm) w')
    have hz := isZ_no hn h0
    obtain ⟨e1, e2, e3⟩ := rs_no hm
    rw [e1, e2, e3]
    clear hn h0 hm e1 e2 e3
    go_enter Try.func11, Try.ntmps11
    have HB := Lib.hid (Below.refl w.heap.size w)
    have Gn := Lib.hid (alloc_new (w) (.cells (wcells n) 24))
    replace HB := Lib.hid (below_al HB.out (.cells (wcells n) 24))
    replace Gn := Lib.hid (keepAl (o' := .cells (wcells 0) 24) Gn.out)
    have Gx := Lib.hid (alloc_new' (w := (w).alloc (.cells (wcells n) 24)) (n := w.heap.size + 1) (.cells (wcells 0) 24) (by simp))
    replace HB := Lib.hid (below_al HB.out (.cells (wcells 0) 24))
    replace Gn := Lib.hid (keepAl (o' := .cells (wcells 0) 24) Gn.out)
    replace Gx := Lib.hid (keepAl (o' := .cells (wcells 0) 24) Gx.out)
    have Gy := Lib.hid (alloc_new' (w := ((w).alloc (.cells (wcells n) 24)).alloc (.cells (wcells 0) 24)) (n := w.heap.size + 1 + 1) (.cells (wcells 0) 24) (by simp))
    replace HB := Lib.hid (below_al HB.out (.cells (wcells 0) 24))
    have cGn := cell_row Gn.out
    have cGx := cell_row Gx.out
    have cGy := cell_row Gy.out
    go_wp2_with fail
    refine (SN.out _).mono ?_
    rintro e w19 ⟨rfl, hb⟩
    clear cGn cGx cGy
    replace HB := Lib.hid (below_then HB.out hb)
    replace Gn := Lib.hid ((hb.block _ (lt_of_heap Gn.out)).trans Gn.out)
    replace Gx := Lib.hid ((hb.block _ (lt_of_heap Gx.out)).trans Gx.out)
    replace Gy := Lib.hid ((hb.block _ (lt_of_heap Gy.out)).trans Gy.out)
    clear hb
    have HZ := Lib.hid (lt_of_heap Gy.out)
    replace Gn := Lib.hid (keepAl (o' := .cells (wcells 0) 24) Gn.out)
    replace Gx := Lib.hid (keepAl (o' := .cells (wcells 0) 24) Gx.out)
    replace Gy := Lib.hid (keepAl (o' := .cells (wcells 0) 24) Gy.out)
    have Gu := Lib.hid (alloc_new (w19) (.cells (wcells 0) 24))
    replace HB := Lib.hid (below_al HB.out (.cells (wcells 0) 24))
    have cn := cell_row Gn.out
    have stx := st_row (P := Try.prog) Gx.out rfl (0)
    replace Gn := Lib.hid ((setRow_other ((w19).alloc (.cells (wcells 0) 24)) (w.heap.size + 1) _ (wcells (0)) (by (have := HZ.out; omega))).trans Gn.out)
    replace Gy := Lib.hid ((setRow_other ((w19).alloc (.cells (wcells 0) 24)) (w.heap.size + 1) _ (wcells (0)) (by (have := HZ.out; omega))).trans Gy.out)
    replace Gu := Lib.hid ((setRow_other ((w19).alloc (.cells (wcells 0) 24)) (w.heap.size + 1) _ (wcells (0)) (by (have := HZ.out; omega))).trans Gu.out)
    replace Gx := Lib.hid (setRow_heap ((w19).alloc (.cells (wcells 0) 24)) (w.heap.size + 1) _ (wcells (0)) _ _ Gx.out)
    replace HB := Lib.hid (below_setRow' HB.out (show _ ≤ w.heap.size + 1 by (have := HZ.out; omega)) (wcells (0)))
    have q1 := stx
    clear stx
    have sty := st_row (P := Try.prog) Gy.out rfl (0)
    replace Gn := Lib.hid ((setRow_other (((w19).alloc (.cells (wcells 0) 24)).setRow (w.heap.size + 1) (wcells (0))) (w.heap.size + 1 + 1) _ (wcells (0)) (by (have := HZ.out; omega))).trans Gn.out)
    replace Gx := Lib.hid ((setRow_other (((w19).alloc (.cells (wcells 0) 24)).setRow (w.heap.size + 1) (wcells (0))) (w.heap.size + 1 + 1) _ (wcells (0)) (by (have := HZ.out; omega))).trans Gx.out)
    replace Gu := Lib.hid ((setRow_other (((w19).alloc (.cells (wcells 0) 24)).setRow (w.heap.size + 1) (wcells (0))) (w.heap.size + 1 + 1) _ (wcells (0)) (by (have := HZ.out; omega))).trans Gu.out)
    replace Gy := Lib.hid (setRow_heap (((w19).alloc (.cells (wcells 0) 24)).setRow (w.heap.size + 1) (wcells (0))) (w.heap.size + 1 + 1) _ (wcells (0)) _ _ Gy.out)
    replace HB := Lib.hid (below_setRow' HB.out (show _ ≤ w.heap.size + 1 + 1 by (have := HZ.out; omega)) (wcells (0)))
    have cGn := cell_row Gn.out
    have cGx := cell_row Gx.out
    have cGy := cell_row Gy.out
    have cGu := cell_row Gu.out
    go_wp2
    exact bodyPost_ret (v := .tuple #[wv 0, wv 0, .int .i64 4]) (res_cct Try.results11 _ _ _ _ _ _ _ _ _ _ _ rfl rfl rfl Gx.out Gy.out aggW aggW) rfl ⟨rfl, HB.out⟩
end Go.Proofs.Ytffengboblekpaa
