/- THE WALK of the law on newton's guesses. -/
import Derived.Test.YtegmmaaapdgocaaGreatLaw19
import Derived.Test.YtegmmaaapdgocaaGreatRef19
import Derived.Test.YtegmmaaapdgocaaGreatK16
namespace Go.Proofs.YtegmmaaapdgocaaGreat
open Go Go.RowKit

theorem within_near {g q : Nat} (h1 : g ≤ q + 1) (h2 : q ≤ g + 1) : withinB ((g - q) + (q - g)) 2 = true := by
  unfold withinB
  rw [decide_eq_true (by decide), decide_eq_true (by omega)]
  rfl
theorem wide_small (v : Value) (b : Nat) (w : World) (hb : b < M) (hv : IsBig w v b) :
    Calls Tryz.prog 30 #[v] w fun e w' => e = .returned (.tuple #[wv b, .bool (decide (M ≤ b))]) ∧ Below w.heap.size w w' := by
  have := wide_any v b w (small_M hb) hv
  rw [Nat.mod_eq_of_lt hb] at this
  exact this
attribute [local go_sem ↓] Go.wp_at_zero Go.wp_at_succ
set_option maxRecDepth 100000 in
set_option maxHeartbeats 4000000 in
theorem newtonGuesses_any (n d : Nat) (w : World) (hn : n < M) (hd : d < M) :
    Calls Tryz.prog 9 #[wv n, wv d] w fun e w' => e = .returned (.bool true) ∧ Below w.heap.size w w' := by
  have S0 := Lib.hid (fun w' => newE_nil w')
  have S2 := Lib.hid (fun w' => rmay_any n d hn hd w')
  have SA := Lib.hid (fun w' => awake19_any w')
  by_cases hm : mayN n d = 0
  · obtain ⟨m1, m2, m3⟩ := may_ok hm
    obtain ⟨r1, r2, r3, _⟩ := shift_range hm
    obtain ⟨n1, n2⟩ := nwq_near hm
    have hq := quo_128 hm
    have h128 : P2 128 < M := by rw [M_eq]; exact P2_lt (by omega)
    have h200 : P2 200 < M := by rw [M_eq]; exact P2_lt (by omega)
    have hg := near_small hm n1
    have hl : blen d ≤ 120 := blen_le_of m2
    have hN := may_N hm
    have hy := (nw_all (up_len hm) r2 5).small r1
    have hNy : n * P2 (128 - blen d) * nwY (d * P2 (128 - blen d)) 5 < P2 418 := by
      have := Nat.mul_lt_mul'' hN hy
      rwa [← P2_add] at this
    have S1 := Lib.hid (fun e g w' hE hI hne => guessE_yes e g n d hm hn hd w' hE hI hne)
    rw [hm] at S2
    have S3 := Lib.hid (fun w' => big_any d hd w')
    have S4 := Lib.hid (fun v w' h => rlen_any v d w' (small_M hd) h)
    have S5 := Lib.hid (fun w' => big_any n hn w')
    have S6 := Lib.hid (fun v w' h => rshl_any v n (128 - blen d) w' (small_M hn) (by omega) h)
    have S7 := Lib.hid (fun v w' h => rrecip19_any v d 5 w' (by omega) m2 (by decide) h)
    have S8 := Lib.hid (fun v v2 w' h h2 => mul_any v v2 (n * P2 (128 - blen d)) (nwY (d * P2 (128 - blen d)) 5) w' (small_of hN (by decide)) (small_of hy (by decide)) h h2)
    have S9 := Lib.hid (fun v w' h => rshr_any v (n * P2 (128 - blen d) * nwY (d * P2 (128 - blen d)) 5) 288 w' (small_of hNy (by decide)) (by decide) h)
    rw [show n * P2 (128 - blen d) * nwY (d * P2 (128 - blen d)) 5 / P2 288 = nwq n d from rfl] at S9
    have S10 := Lib.hid (fun v w' h => wide_small v (nwq n d) w' (by omega) h)
    have S11 := Lib.hid (fun w' => rdivide_any n d w' hn hd m1 (Nat.lt_of_lt_of_le hq (P2_le (by omega))))
    have S12 := Lib.hid (fun w' => big_any (nwq n d) (by omega) w')
    have S13 := Lib.hid (fun w' => big_any (n / d) (by omega) w')
    have S14 := Lib.hid (fun v v2 w' h h2 => raway_any v v2 (nwq n d) (n / d) w' (small_of hg (by decide)) (small_of hq (by decide)) h h2)
    have S15 := Lib.hid (fun v w' h => rwithin_any v ((nwq n d - n / d) + (n / d - nwq n d)) 2 w' (small_of (show _ < P2 32 by rw [P2_eq]; omega) (by decide)) (by decide) h)
    rw [within_near n1 n2] at S15
    have hk1 : IntKind.i64.wrap (128 - ((blen d : Nat) : Int)) = ((128 - blen d : Nat) : Int) := by rw [IntWalk.i64_in _ (by omega)]; omega
    obtain ⟨A, hA⟩ : ∃ A : Nat, A = (nwq n d - n / d) + (n / d - nwq n d) := ⟨_, rfl⟩
    rw [← hA] at S14 S15
    obtain ⟨G, hG⟩ : ∃ A, A = nwq n d := ⟨_, rfl⟩
    rw [← hG] at S1 S9 S10 S12 S14
    obtain ⟨f, hf⟩ : ∃ f, f = decide (M ≤ G) := ⟨_, rfl⟩
    rw [← hf] at S10
    obtain ⟨Q, hQ⟩ : ∃ A, A = n / d := ⟨_, rfl⟩
    obtain ⟨R, hR⟩ : ∃ A, A = n % d := ⟨_, rfl⟩
    rw [← hQ] at S13 S14
    rw [← hQ, ← hR] at S11
    obtain ⟨Z, hZ⟩ : ∃ A, A = n * P2 (128 - blen d) * nwY (d * P2 (128 - blen d)) 5 := ⟨_, rfl⟩
    rw [← hZ] at S8 S9
    obtain ⟨N, hNe⟩ : ∃ A, A = n * P2 (128 - blen d) := ⟨_, rfl⟩
    rw [← hNe] at S6 S8
    obtain ⟨y, hye⟩ : ∃ A, A = nwY (d * P2 (128 - blen d)) 5 := ⟨_, rfl⟩
    rw [← hye] at S7 S8
    obtain ⟨b, hb⟩ : ∃ A, A = 128 - blen d := ⟨_, rfl⟩
    rw [← hb] at S6 hk1
    obtain ⟨l, hle⟩ : ∃ A, A = blen d := ⟨_, rfl⟩
    rw [← hle] at S4 hk1
    clear hn hd hm m1 m2 m3 r1 r2 r3 n1 n2 hq h128 h200 hg hl hN hy hNy hA hG hf hQ hR hZ hNe hye hb hle
    go_enter Tryz.func9, Tryz.ntmps9
    have HB := Lib.hid (Below.refl w.heap.size w)
    have Gn := Lib.hid (alloc_new (w) (.cells (wcells n) 24))
    replace HB := Lib.hid (below_al HB.out (.cells (wcells n) 24))
    replace Gn := Lib.hid (keepAl (o' := .cells (wcells d) 24) Gn.out)
    have Gd := Lib.hid (alloc_new' (w := (w).alloc (.cells (wcells n) 24)) (n := w.heap.size + 1) (.cells (wcells d) 24) (by simp))
    replace HB := Lib.hid (below_al HB.out (.cells (wcells d) 24))
    have cGn := cell_row Gn.out
    have cGd := cell_row Gd.out
    go_upto_region 1 with fail
    clear cGn cGd
    obtain ⟨wA, hw⟩ : ∃ wx, wx = ((w).alloc (.cells (wcells n) 24)).alloc (.cells (wcells d) 24) := ⟨_, rfl⟩
    rw [← hw] at Gn Gd HB ⊢
    clear hw
    have HZ := Lib.hid (lt_of_heap Gd.out)
    have cGn := cell_row Gn.out
    have cGd := cell_row Gd.out
    go_wp2_with fail
    refine (S0.out _).mono ?_
    rintro x w1 ⟨e, g, rfl, hen, hb⟩
    clear cGn cGd
    replace HB := Lib.hid (below_then HB.out hb)
    replace Gn := Lib.hid ((hb.block _ (lt_of_heap Gn.out)).trans Gn.out)
    replace Gd := Lib.hid ((hb.block _ (lt_of_heap Gd.out)).trans Gd.out)
    have Ge := Lib.hid hen.eng
    have KR := Lib.hid hen.rom
    have HNE := Lib.hid hen.ne
    have HLE := Lib.hid hen.le
    have HLG := Lib.hid hen.lg
    clear hen hb
    have cGn := cell_row Gn.out
    have cGd := cell_row Gd.out
    have cGe := cell_row Ge.out
    go_wp2_with fail
    refine (S1.out _ _ _ Ge.out KR.out HNE.out).mono ?_
    rintro e w2 ⟨rfl, hv⟩
    clear cGn cGd cGe
    replace Gn := Lib.hid (hv.heap Gn.out (by have := HZ.out; have := HLG.out; have := HNE.out; omega))
    replace Gd := Lib.hid (hv.heap Gd.out (by have := HZ.out; have := HLG.out; have := HNE.out; omega))
    replace Ge := Lib.hid (hv.heap Ge.out (by have := HZ.out; have := HLG.out; have := HNE.out; omega))
    replace HB := Lib.hid (hv.out HB.out (by have := HZ.out; have := HLG.out; have := HNE.out; omega))
    replace KR := Lib.hid hv.rom
    clear hv
    replace Gn := Lib.hid (keepAl (o' := .cells (wcells G) 24) Gn.out)
    replace Gd := Lib.hid (keepAl (o' := .cells (wcells G) 24) Gd.out)
    have Gg := Lib.hid (alloc_new (w2) (.cells (wcells G) 24))
    replace HB := Lib.hid (below_al HB.out (.cells (wcells G) 24))
    have cGn := cell_row Gn.out
    have cGd := cell_row Gd.out
    have cGg := cell_row Gg.out
    go_wp2_with fail
    refine (S2.out _).mono ?_
    rintro e w3 ⟨rfl, hb⟩
    clear cGn cGd cGg
    replace HB := Lib.hid (below_then HB.out hb)
    replace Gn := Lib.hid ((hb.block _ (lt_of_heap Gn.out)).trans Gn.out)
    replace Gd := Lib.hid ((hb.block _ (lt_of_heap Gd.out)).trans Gd.out)
    replace Gg := Lib.hid ((hb.block _ (lt_of_heap Gg.out)).trans Gg.out)
    clear hb
    have cGn := cell_row Gn.out
    have cGd := cell_row Gd.out
    have cGg := cell_row Gg.out
    go_wp2_with fail
    refine (S3.out _).mono ?_
    rintro e w4 ⟨rd, rfl, hr, hb⟩
    clear cGn cGd cGg
    replace HB := Lib.hid (below_then HB.out hb)
    replace Gn := Lib.hid ((hb.block _ (lt_of_heap Gn.out)).trans Gn.out)
    replace Gd := Lib.hid ((hb.block _ (lt_of_heap Gd.out)).trans Gd.out)
    replace Gg := Lib.hid ((hb.block _ (lt_of_heap Gg.out)).trans Gg.out)
    have Rd := Lib.hid hr
    clear hr hb
    have cGn := cell_row Gn.out
    have cGd := cell_row Gd.out
    have cGg := cell_row Gg.out
    go_wp2_with fail
    refine (S4.out _ _ Rd.out).mono ?_
    rintro e w5 ⟨rfl, hb⟩
    clear cGn cGd cGg
    replace HB := Lib.hid (below_then HB.out hb)
    replace Gn := Lib.hid ((hb.block _ (lt_of_heap Gn.out)).trans Gn.out)
    replace Gd := Lib.hid ((hb.block _ (lt_of_heap Gd.out)).trans Gd.out)
    replace Gg := Lib.hid ((hb.block _ (lt_of_heap Gg.out)).trans Gg.out)
    replace Rd := Lib.hid (Rd.out.below hb)
    clear hb
    have cGn := cell_row Gn.out
    have cGd := cell_row Gd.out
    have cGg := cell_row Gg.out
    go_wp2_with fail
    refine (S5.out _).mono ?_
    rintro e w6 ⟨rn, rfl, hr, hb⟩
    clear cGn cGd cGg
    replace HB := Lib.hid (below_then HB.out hb)
    replace Gn := Lib.hid ((hb.block _ (lt_of_heap Gn.out)).trans Gn.out)
    replace Gd := Lib.hid ((hb.block _ (lt_of_heap Gd.out)).trans Gd.out)
    replace Gg := Lib.hid ((hb.block _ (lt_of_heap Gg.out)).trans Gg.out)
    replace Rd := Lib.hid (Rd.out.below hb)
    have Rn := Lib.hid hr
    clear hr hb
    have cGn := cell_row Gn.out
    have cGd := cell_row Gd.out
    have cGg := cell_row Gg.out
    go_wp2_with fail
    refine (S6.out _ _ Rn.out).mono ?_
    rintro e w7 ⟨rs, rfl, hr, hb⟩
    clear cGn cGd cGg
    replace HB := Lib.hid (below_then HB.out hb)
    replace Gn := Lib.hid ((hb.block _ (lt_of_heap Gn.out)).trans Gn.out)
    replace Gd := Lib.hid ((hb.block _ (lt_of_heap Gd.out)).trans Gd.out)
    replace Gg := Lib.hid ((hb.block _ (lt_of_heap Gg.out)).trans Gg.out)
    replace Rd := Lib.hid (Rd.out.below hb)
    replace Rn := Lib.hid (Rn.out.below hb)
    have Rs := Lib.hid hr
    clear hr hb
    have cGn := cell_row Gn.out
    have cGd := cell_row Gd.out
    have cGg := cell_row Gg.out
    go_wp2_with fail
    refine (S7.out _ _ Rd.out).mono ?_
    rintro e w8 ⟨ry, rfl, hr, hb⟩
    clear cGn cGd cGg
    replace HB := Lib.hid (below_then HB.out hb)
    replace Gn := Lib.hid ((hb.block _ (lt_of_heap Gn.out)).trans Gn.out)
    replace Gd := Lib.hid ((hb.block _ (lt_of_heap Gd.out)).trans Gd.out)
    replace Gg := Lib.hid ((hb.block _ (lt_of_heap Gg.out)).trans Gg.out)
    replace Rd := Lib.hid (Rd.out.below hb)
    replace Rs := Lib.hid (Rs.out.below hb)
    have Ry := Lib.hid hr
    clear hr hb
    have cGn := cell_row Gn.out
    have cGd := cell_row Gd.out
    have cGg := cell_row Gg.out
    go_wp2_with fail
    refine (S8.out _ _ _ Rs.out Ry.out).mono ?_
    rintro e w9 ⟨rz, rfl, hr, hb⟩
    clear cGn cGd cGg
    replace HB := Lib.hid (below_then HB.out hb)
    replace Gn := Lib.hid ((hb.block _ (lt_of_heap Gn.out)).trans Gn.out)
    replace Gd := Lib.hid ((hb.block _ (lt_of_heap Gd.out)).trans Gd.out)
    replace Gg := Lib.hid ((hb.block _ (lt_of_heap Gg.out)).trans Gg.out)
    replace Rs := Lib.hid (Rs.out.below hb)
    replace Ry := Lib.hid (Ry.out.below hb)
    have Rz := Lib.hid hr
    clear hr hb
    have cGn := cell_row Gn.out
    have cGd := cell_row Gd.out
    have cGg := cell_row Gg.out
    go_wp2_with fail
    refine (S9.out _ _ Rz.out).mono ?_
    rintro e w10 ⟨rq, rfl, hr, hb⟩
    clear cGn cGd cGg
    replace HB := Lib.hid (below_then HB.out hb)
    replace Gn := Lib.hid ((hb.block _ (lt_of_heap Gn.out)).trans Gn.out)
    replace Gd := Lib.hid ((hb.block _ (lt_of_heap Gd.out)).trans Gd.out)
    replace Gg := Lib.hid ((hb.block _ (lt_of_heap Gg.out)).trans Gg.out)
    replace Rz := Lib.hid (Rz.out.below hb)
    have Rq := Lib.hid hr
    clear hr hb
    have cGn := cell_row Gn.out
    have cGd := cell_row Gd.out
    have cGg := cell_row Gg.out
    go_wp2_with fail
    refine (S10.out _ _ Rq.out).mono ?_
    rintro e w11 ⟨rfl, hb⟩
    clear cGn cGd cGg
    replace HB := Lib.hid (below_then HB.out hb)
    replace Gn := Lib.hid ((hb.block _ (lt_of_heap Gn.out)).trans Gn.out)
    replace Gd := Lib.hid ((hb.block _ (lt_of_heap Gd.out)).trans Gd.out)
    replace Gg := Lib.hid ((hb.block _ (lt_of_heap Gg.out)).trans Gg.out)
    replace Rq := Lib.hid (Rq.out.below hb)
    clear hb
    replace Gn := Lib.hid (keepAl (o' := .cells (wcells G) 24) Gn.out)
    replace Gd := Lib.hid (keepAl (o' := .cells (wcells G) 24) Gd.out)
    replace Gg := Lib.hid (keepAl (o' := .cells (wcells G) 24) Gg.out)
    have Gx := Lib.hid (alloc_new (w11) (.cells (wcells G) 24))
    replace HB := Lib.hid (below_al HB.out (.cells (wcells G) 24))
    have cGn := cell_row Gn.out
    have cGd := cell_row Gd.out
    have cGg := cell_row Gg.out
    have cGx := cell_row Gx.out
    go_wp2_with fail
    refine (S11.out _).mono ?_
    rintro e w12 ⟨rfl, hb⟩
    clear cGn cGd cGg cGx
    replace HB := Lib.hid (below_then HB.out hb)
    replace Gn := Lib.hid ((hb.block _ (lt_of_heap Gn.out)).trans Gn.out)
    replace Gd := Lib.hid ((hb.block _ (lt_of_heap Gd.out)).trans Gd.out)
    replace Gg := Lib.hid ((hb.block _ (lt_of_heap Gg.out)).trans Gg.out)
    replace Gx := Lib.hid ((hb.block _ (lt_of_heap Gx.out)).trans Gx.out)
    clear hb
    replace Gn := Lib.hid (keepAl (o' := .cells (wcells Q) 24) Gn.out)
    replace Gd := Lib.hid (keepAl (o' := .cells (wcells Q) 24) Gd.out)
    replace Gg := Lib.hid (keepAl (o' := .cells (wcells Q) 24) Gg.out)
    replace Gx := Lib.hid (keepAl (o' := .cells (wcells Q) 24) Gx.out)
    have Gq := Lib.hid (alloc_new (w12) (.cells (wcells Q) 24))
    replace HB := Lib.hid (below_al HB.out (.cells (wcells Q) 24))
    replace Gn := Lib.hid (keepAl (o' := .cells (wcells R) 24) Gn.out)
    replace Gd := Lib.hid (keepAl (o' := .cells (wcells R) 24) Gd.out)
    replace Gg := Lib.hid (keepAl (o' := .cells (wcells R) 24) Gg.out)
    replace Gx := Lib.hid (keepAl (o' := .cells (wcells R) 24) Gx.out)
    replace Gq := Lib.hid (keepAl (o' := .cells (wcells R) 24) Gq.out)
    have Gr := Lib.hid (alloc_new' (w := (w12).alloc (.cells (wcells Q) 24)) (n := w12.heap.size + 1) (.cells (wcells R) 24) (by simp))
    replace HB := Lib.hid (below_al HB.out (.cells (wcells R) 24))
    have cGg := cell_row Gg.out
    have cGx := cell_row Gx.out
    have cGq := cell_row Gq.out
    go_upto_region 12 with fail
    clear cGg cGx cGq
    obtain ⟨wT, hw⟩ : ∃ wx, wx = ((w12).alloc (.cells (wcells Q) 24)).alloc (.cells (wcells R) 24) := ⟨_, rfl⟩
    rw [← hw] at Gg Gx Gq HB ⊢
    clear hw
    have xGg := ext_row (B := wT.heap.size) Gg.out (lt_of_heap Gg.out)
    have xGx := ext_row (B := wT.heap.size) Gx.out (lt_of_heap Gx.out)
    have xGq := ext_row (B := wT.heap.size) Gq.out (lt_of_heap Gq.out)
    apply wp_region_loose (looseR [_, _, _, _, _, _, _, _, _, _, _, _, _, _, _, _, _, _, _]) (pureL [])
    · kernel_rfl
    · kernel_rfl
    · kernel_rfl
    · exact allocs_ok [] rfl (by intro T hT; cases hT)
    · exact looseR_st _
    · change wpL _ _ _ _ _ _ _ 19 0 _ _
      refine wpL_calm wT rfl rfl rfl rfl (fun K hK K0 hK0 => ?_)
      go_simp
      first | refine hK _ _ rfl rfl ?_ | refine hK0 _ rfl ?_
      clear hK hK0 K K0
      refine wpL_calm wT rfl rfl rfl rfl (fun K hK K0 hK0 => ?_)
      go_simp
      first | refine hK _ _ rfl rfl ?_ | refine hK0 _ rfl ?_
      clear hK hK0 K K0
      refine wpL_calm wT rfl rfl rfl rfl (fun K hK K0 hK0 => ?_)
      go_simp
      first | refine hK _ _ rfl rfl ?_ | refine hK0 _ rfl ?_
      clear hK hK0 K K0
      refine wpL_calm wT rfl rfl rfl rfl (fun K hK K0 hK0 => ?_)
      go_simp
      first | refine hK _ _ rfl rfl ?_ | refine hK0 _ rfl ?_
      clear hK hK0 K K0
      refine wpL_calm wT rfl rfl rfl rfl (fun K hK K0 hK0 => ?_)
      go_simp
      first | refine hK _ _ rfl rfl ?_ | refine hK0 _ rfl ?_
      clear hK hK0 K K0
      refine wpL_calm wT rfl rfl rfl rfl (fun K hK K0 hK0 => ?_)
      go_simp
      first | refine hK _ _ rfl rfl ?_ | refine hK0 _ rfl ?_
      clear hK hK0 K K0
      refine wpL_calm wT rfl rfl rfl rfl (fun K hK K0 hK0 => ?_)
      go_simp
      first | refine hK _ _ rfl rfl ?_ | refine hK0 _ rfl ?_
      clear hK hK0 K K0
      refine wpL_calm wT rfl rfl rfl rfl (fun K hK K0 hK0 => ?_)
      go_simp
      first | refine hK _ _ rfl rfl ?_ | refine hK0 _ rfl ?_
      clear hK hK0 K K0
      refine wpL_calm wT rfl rfl rfl rfl (fun K hK K0 hK0 => ?_)
      go_simp
      first | refine hK _ _ rfl rfl ?_ | refine hK0 _ rfl ?_
      clear hK hK0 K K0
      refine wpL_call (Lft.big G) (big_some w _) rfl rfl rfl rfl (by first | rfl | go_simp) rfl (fun w' hC hF => ?_) (fun v9 hv9 => ?_)
      · obtain ⟨x, rfl⟩ := hC
        go_simp
        go_at_call 37
        exact gives_loose (S12.out _)
      refine wpL_calm wT rfl rfl rfl rfl (fun K hK K0 hK0 => ?_)
      go_simp
      first | refine hK _ _ rfl rfl ?_ | refine hK0 _ rfl ?_
      clear hK hK0 K K0
      refine wpL_call (Lft.big Q) (big_some w _) rfl rfl rfl rfl (by first | rfl | go_simp) rfl (fun w' hC hF => ?_) (fun v11 hv11 => ?_)
      · obtain ⟨x, rfl⟩ := hC
        go_simp
        go_at_call 37
        exact gives_loose (S13.out _)
      refine wpL_call (Lft.big A) (big_some w _) rfl rfl rfl rfl (by first | rfl | go_simp) rfl (fun w' hC hF => ?_) (fun v12 hv12 => ?_)
      · obtain ⟨x, rfl⟩ := hC
        go_simp
        go_at_call 36
        exact gives_loose (S14.out _ _ _ (hF 9 _ 73 rfl rfl rfl rfl (by decide)) (hF 11 _ 75 rfl rfl rfl rfl (by decide)))
      refine wpL_call (Lft.val (.bool true)) (val_some wT _) rfl rfl rfl rfl (by first | rfl | go_simp) rfl (fun w' hC hF => ?_) (fun v13 hv13 => ?_)
      · obtain ⟨x, rfl⟩ := hC
        go_simp
        go_at_call 35
        exact val_loose (S15.out _ _ (hF 12 _ 76 rfl rfl rfl rfl (by decide)))
      obtain ⟨_, rfl⟩ := hv13
      refine wpL_calm wT rfl rfl rfl rfl (fun K hK K0 hK0 => ?_)
      go_simp
      first | refine hK _ _ rfl rfl ?_ | refine hK0 _ rfl ?_
      clear hK hK0 K K0
      refine wpL_calm wT rfl rfl rfl rfl (fun K hK K0 hK0 => ?_)
      go_simp
      first | refine hK _ _ rfl rfl ?_ | refine hK0 _ rfl ?_
      clear hK hK0 K K0
      refine wpL_call (Lft.val (.bool true)) (val_some wT _) rfl rfl rfl rfl (by first | rfl | go_simp) rfl (fun w' hC hF => ?_) (fun v16 hv16 => ?_)
      · obtain ⟨x, rfl⟩ := hC
        go_simp
        go_at_call 23
        exact val_loose (SA.out _)
      obtain ⟨_, rfl⟩ := hv16
      refine wpL_calm wT rfl rfl rfl rfl (fun K hK K0 hK0 => ?_)
      go_simp
      first | refine hK _ _ rfl rfl ?_ | refine hK0 _ rfl ?_
      clear hK hK0 K K0
      refine wpL_calm wT rfl rfl rfl rfl (fun K hK K0 hK0 => ?_)
      go_simp
      first | refine hK _ _ rfl rfl ?_ | refine hK0 _ rfl ?_
      clear hK hK0 K K0
      refine wpL_nil (endL [] rfl (by intro q hq; cases hq) (fun w13 hb hst hap hfin => ?_))
      replace HB := Lib.hid (below_then HB.out hb)
      replace Gg := Lib.hid ((hb.block _ (lt_of_heap Gg.out)).trans Gg.out)
      replace Gx := Lib.hid ((hb.block _ (lt_of_heap Gx.out)).trans Gx.out)
      replace Gq := Lib.hid ((hb.block _ (lt_of_heap Gq.out)).trans Gq.out)
      clear hb hst hap hfin xGg xGx xGq
      go_wp2
      go_ret
      exact ⟨rfl, HB.out⟩
  · have S1 := Lib.hid (fun e (g : Nat) w' (_ : w'.heap[e]? = some (.cells #[.pointer (some ⟨g, 0, none⟩)] 108 (0, 0))) (hI : IsRom w' g) (_ : e ≠ g) => (guessE_no (.pointer (some ⟨e, 0, none⟩)) n d _ hm (fun w'' => mayE_w e n d hn hd w'') w').mono fun _ _ ⟨h1, h2⟩ => (⟨h1, (VG.refl hI).below h2⟩ : _ ∧ VG g w' _))
    obtain ⟨E, hE⟩ : ∃ x, x = mayN n d := ⟨_, rfl⟩
    rw [← hE] at S1 S2 hm
    have hb : (E != 0) = true := by simp [hm]
    clear hn hd hE
    go_enter Tryz.func9, Tryz.ntmps9
    have HB := Lib.hid (Below.refl w.heap.size w)
    have Gn := Lib.hid (alloc_new (w) (.cells (wcells n) 24))
    replace HB := Lib.hid (below_al HB.out (.cells (wcells n) 24))
    replace Gn := Lib.hid (keepAl (o' := .cells (wcells d) 24) Gn.out)
    have Gd := Lib.hid (alloc_new' (w := (w).alloc (.cells (wcells n) 24)) (n := w.heap.size + 1) (.cells (wcells d) 24) (by simp))
    replace HB := Lib.hid (below_al HB.out (.cells (wcells d) 24))
    have cGn := cell_row Gn.out
    have cGd := cell_row Gd.out
    go_upto_region 1 with fail
    clear cGn cGd
    obtain ⟨wA, hw⟩ : ∃ wx, wx = ((w).alloc (.cells (wcells n) 24)).alloc (.cells (wcells d) 24) := ⟨_, rfl⟩
    rw [← hw] at Gn Gd HB ⊢
    clear hw
    have HZ := Lib.hid (lt_of_heap Gd.out)
    have cGn := cell_row Gn.out
    have cGd := cell_row Gd.out
    go_wp2_with fail
    refine (S0.out _).mono ?_
    rintro x w14 ⟨e, g, rfl, hen, hb⟩
    clear cGn cGd
    replace HB := Lib.hid (below_then HB.out hb)
    replace Gn := Lib.hid ((hb.block _ (lt_of_heap Gn.out)).trans Gn.out)
    replace Gd := Lib.hid ((hb.block _ (lt_of_heap Gd.out)).trans Gd.out)
    have Ge := Lib.hid hen.eng
    have KR := Lib.hid hen.rom
    have HNE := Lib.hid hen.ne
    have HLE := Lib.hid hen.le
    have HLG := Lib.hid hen.lg
    clear hen hb
    have cGn := cell_row Gn.out
    have cGd := cell_row Gd.out
    have cGe := cell_row Ge.out
    go_wp2_with fail
    refine (S1.out _ _ _ Ge.out KR.out HNE.out).mono ?_
    rintro e w15 ⟨rfl, hv⟩
    clear cGn cGd cGe
    replace Gn := Lib.hid (hv.heap Gn.out (by have := HZ.out; have := HLG.out; have := HNE.out; omega))
    replace Gd := Lib.hid (hv.heap Gd.out (by have := HZ.out; have := HLG.out; have := HNE.out; omega))
    replace Ge := Lib.hid (hv.heap Ge.out (by have := HZ.out; have := HLG.out; have := HNE.out; omega))
    replace HB := Lib.hid (hv.out HB.out (by have := HZ.out; have := HLG.out; have := HNE.out; omega))
    replace KR := Lib.hid hv.rom
    clear hv
    replace Gn := Lib.hid (keepAl (o' := .cells (wcells 0) 24) Gn.out)
    replace Gd := Lib.hid (keepAl (o' := .cells (wcells 0) 24) Gd.out)
    have Gg := Lib.hid (alloc_new (w15) (.cells (wcells 0) 24))
    replace HB := Lib.hid (below_al HB.out (.cells (wcells 0) 24))
    have cGn := cell_row Gn.out
    have cGd := cell_row Gd.out
    have cGg := cell_row Gg.out
    go_wp2_with fail
    refine (S2.out _).mono ?_
    rintro e w16 ⟨rfl, hb⟩
    clear cGn cGd cGg
    replace HB := Lib.hid (below_then HB.out hb)
    replace Gn := Lib.hid ((hb.block _ (lt_of_heap Gn.out)).trans Gn.out)
    replace Gd := Lib.hid ((hb.block _ (lt_of_heap Gd.out)).trans Gd.out)
    replace Gg := Lib.hid ((hb.block _ (lt_of_heap Gg.out)).trans Gg.out)
    clear hb
    have cGn := cell_row Gn.out
    have cGd := cell_row Gd.out
    have cGg := cell_row Gg.out
    go_wp2_with fail
    refine (SA.out _).mono ?_
    rintro e w17 ⟨rfl, hb⟩
    clear cGn cGd cGg
    replace HB := Lib.hid (below_then HB.out hb)
    replace Gn := Lib.hid ((hb.block _ (lt_of_heap Gn.out)).trans Gn.out)
    replace Gd := Lib.hid ((hb.block _ (lt_of_heap Gd.out)).trans Gd.out)
    replace Gg := Lib.hid ((hb.block _ (lt_of_heap Gg.out)).trans Gg.out)
    clear hb
    have cGn := cell_row Gn.out
    have cGd := cell_row Gd.out
    have cGg := cell_row Gg.out
    go_wp2
    go_ret
    exact ⟨rfl, HB.out⟩
end Go.Proofs.YtegmmaaapdgocaaGreat
