/- THE WALK of the law on what is left, step by step. -/
import Derived.Test.YtenkaobgoknlhaaLaw11
import Derived.Test.YtenkaobgoknlhaaR2h
import Derived.Test.YtenkaobgoknlhaaLoose3
namespace Go.Proofs.Ytenkaobgoknlhaa
open Go Go.RowKit

theorem steps_ok (n d : Nat) (most : Int) (hn : n < M) (hd : d < M) (hm : mayN n d = 0) (w : World) :
    Calls Try.prog 93 #[wv n, wv d, .int .i64 most] w fun e w' => ∃ v, e = .returned (.tuple #[v, .int .i64 0]) ∧ IsWides w' v (stL n d (min 129 most.toNat)) ∧ Below w.heap.size w w' := by
  rcases Int.lt_or_le most 1 with h | h
  · refine (steps_no n d most hn hd (Or.inr h) w).mono ?_
    rintro e w' ⟨rfl, hb⟩
    rw [hm, show min 129 most.toNat = 0 by omega]
    exact ⟨_, rfl, ⟨none, 0, rfl, Nat.le_refl _, fun h0 => absurd h0 (by rw [stL_length]; omega)⟩, hb⟩
  · exact steps_yes n d most hn hd hm h w

attribute [local go_sem ↓] Go.wp_at_zero Go.wp_at_succ
set_option maxRecDepth 100000 in
set_option maxHeartbeats 4000000 in
theorem radix2Steps_any (n d : Nat) (most : Int) (w : World) (hn : n < M) (hd : d < M) (_h1 : -9223372036854775808 ≤ most) (_h2 : most ≤ 9223372036854775807) :
    Calls Try.prog 21 #[wv n, wv d, .int .i64 most] w fun e w' => e = .returned (.bool true) ∧ Below w.heap.size w w' := by
  have SA := Lib.hid (fun w' => awake11_any w')
  have S2 := Lib.hid (fun w' => rmay_any n d hn hd w')
  by_cases hm : mayN n d = 0
  · obtain ⟨g1, g2, g3⟩ := may_ok hm
    have hq : n / d < P2 131 := Nat.lt_of_lt_of_le (quo_lt g1 g3) (P2_le (by omega))
    have hqM : n / d < M := Nat.lt_of_le_of_lt (Nat.div_le_self _ _) hn
    have S1 := Lib.hid (fun w' => steps_ok n d most hn hd hm w')
    have S3 := Lib.hid (fun w' => rdivide_any n d w' hn hd g1 hq)
    have S4 := Lib.hid (fun w' => big_any (n / d) hqM w')
    have SN := Lib.hid (fun w' => big_any n hn w')
    have SD := Lib.hid (fun w' => big_any d hd w')
    have S5 := Lib.hid (fun v T w' (hT : T ≤ 128) h => rshr_any v (n / d) T w' (small_M hqM) (by omega) h)
    have hHq : ∀ T, n / d / P2 T * P2 T ≤ n / d := fun T => Nat.div_mul_le_self _ _
    have S6 := Lib.hid (fun v T w' (hT : T ≤ 128) h => rshl_any v (n / d / P2 T) T w' (Nat.lt_of_le_of_lt (Nat.div_le_self _ _) (small_M hqM)) (by omega) h)
    have S7 := Lib.hid (fun v v2 T w' h h' => mul_any v v2 (n / d / P2 T * P2 T) d w' (Nat.lt_of_le_of_lt (hHq T) (small_M hqM)) (small_M hd) h h')
    have hsub := lft_sub n d
    have hle := lft_le n d
    have S8 : Hid (∀ (i : Nat) (v v2 : Value) (w' : World), IsBig w' v n → IsBig w' v2 (n / d / P2 (128 - i) * P2 (128 - i) * d) → Calls Try.prog 36 #[v, v2] w' (GivesBig (lftN n d i) w')) := Lib.hid fun i v v2 w' h h' => by
      have e := hsub i
      have := sub_any v v2 (n / d / P2 (128 - i) * P2 (128 - i) * d) (lftN n d i) w' (by rw [Nat.add_comm, e]; exact small_M hn) (by rw [Nat.add_comm, e]; exact h) h'
      exact this
    have S9 : Hid (∀ (i : Nat) (v : Value) (w' : World), IsBig w' v (lftN n d i) → Calls Try.prog 29 #[v] w' fun e w'' => e = .returned (.tuple #[wv (lftN n d i), .bool (decide (M ≤ lftN n d i))]) ∧ Below w'.heap.size w' w'') := Lib.hid fun i v w' h => by
      have hlM := Nat.lt_of_le_of_lt (hle i) hn
      have := wide_any v (lftN n d i) w' (small_M hlM) h
      rwa [Nat.mod_eq_of_lt hlM] at this
    rw [hm] at S2
    obtain ⟨E, hE⟩ : ∃ E, E = min 129 most.toNat := ⟨_, rfl⟩
    have hmax : max 0 (min most 129) = (E : Int) := by omega
    have hE129 : E ≤ 129 := by omega
    obtain ⟨Q, hQ⟩ : ∃ x, x = n / d := ⟨_, rfl⟩
    obtain ⟨R, hR⟩ : ∃ x, x = n % d := ⟨_, rfl⟩
    rw [← hQ] at S3 S4 S5 S6 S7 S8
    rw [← hR] at S3
    rw [← hE] at S1
    have HE := Lib.hid hE129
    clear hn hd hm g1 g2 g3 hq hqM hQ hR hHq hsub hle hE _h1 _h2 hE129
    go_enter Try.func21, Try.ntmps21
    have HB := Lib.hid (Below.refl w.heap.size w)
    have Gn := Lib.hid (alloc_new (w) (.cells (wcells n) 26))
    replace HB := Lib.hid (below_al HB.out (.cells (wcells n) 26))
    replace Gn := Lib.hid (keepAl (o' := .cells (wcells d) 26) Gn.out)
    have Gd := Lib.hid (alloc_new' (w := (w).alloc (.cells (wcells n) 26)) (n := w.heap.size + 1) (.cells (wcells d) 26) (by simp))
    replace HB := Lib.hid (below_al HB.out (.cells (wcells d) 26))
    have cGn := cell_row Gn.out
    have cGd := cell_row Gd.out
    go_wp2_with fail
    clear cGn cGd
    obtain ⟨w0, hw⟩ : ∃ wx, wx = ((w).alloc (.cells (wcells n) 26)).alloc (.cells (wcells d) 26) := ⟨_, rfl⟩
    rw [← hw] at Gn Gd HB ⊢
    clear hw
    refine (S1.out _).mono ?_
    rintro e wD ⟨v, rfl, hI, hb⟩
    replace HB := Lib.hid (below_then HB.out hb)
    replace Gn := Lib.hid ((hb.block _ (lt_of_heap Gn.out)).trans Gn.out)
    replace Gd := Lib.hid ((hb.block _ (lt_of_heap Gd.out)).trans Gd.out)
    have HI := Lib.hid hI
    obtain ⟨a, cap, rfl, _, _⟩ := hI
    rw [stL_length] at HI ⊢
    have B1 := Lib.hid (Below.refl wD.heap.size wD)
    clear hb
    have cGn := cell_row Gn.out
    have cGd := cell_row Gd.out
    go_wp2_with fail
    refine (S2.out _).mono ?_
    rintro e w1 ⟨rfl, hb⟩
    clear cGn cGd
    replace HB := Lib.hid (below_then HB.out hb)
    replace Gn := Lib.hid ((hb.block _ (lt_of_heap Gn.out)).trans Gn.out)
    replace Gd := Lib.hid ((hb.block _ (lt_of_heap Gd.out)).trans Gd.out)
    replace B1 := Lib.hid (below_then B1.out hb)
    clear hb
    have cGn := cell_row Gn.out
    have cGd := cell_row Gd.out
    go_wp2_with fail
    refine (S3.out _).mono ?_
    rintro e w2 ⟨rfl, hb⟩
    clear cGn cGd
    replace HB := Lib.hid (below_then HB.out hb)
    replace Gn := Lib.hid ((hb.block _ (lt_of_heap Gn.out)).trans Gn.out)
    replace Gd := Lib.hid ((hb.block _ (lt_of_heap Gd.out)).trans Gd.out)
    replace B1 := Lib.hid (below_then B1.out hb)
    clear hb
    have HD1 := Lib.hid (lt_of_heap Gn.out)
    have HD2 := Lib.hid (lt_of_heap Gd.out)
    replace Gn := Lib.hid (keepAl (o' := .cells (wcells Q) 26) Gn.out)
    replace Gd := Lib.hid (keepAl (o' := .cells (wcells Q) 26) Gd.out)
    replace B1 := Lib.hid (below_al B1.out (.cells (wcells Q) 26))
    have Gq := Lib.hid (alloc_new (w2) (.cells (wcells Q) 26))
    replace HB := Lib.hid (below_al HB.out (.cells (wcells Q) 26))
    replace Gn := Lib.hid (keepAl (o' := .cells (wcells R) 26) Gn.out)
    replace Gd := Lib.hid (keepAl (o' := .cells (wcells R) 26) Gd.out)
    replace B1 := Lib.hid (below_al B1.out (.cells (wcells R) 26))
    replace Gq := Lib.hid (keepAl (o' := .cells (wcells R) 26) Gq.out)
    have Gr := Lib.hid (alloc_new' (w := (w2).alloc (.cells (wcells Q) 26)) (n := w2.heap.size + 1) (.cells (wcells R) 26) (by simp))
    replace HB := Lib.hid (below_al HB.out (.cells (wcells R) 26))
    have cGn := cell_row Gn.out
    have cGd := cell_row Gd.out
    have cGq := cell_row Gq.out
    have cGr := cell_row Gr.out
    go_wp2
    clear cGn cGd cGq cGr
    have hd1 := HD1.out
    have hd2 := HD2.out
    go_loopw [12] (fun s12 wr => ∃ i : Nat, s12 = .int .i64 i ∧ i ≤ E ∧ Hid (wr.heap[w.heap.size]? = some (.cells (wcells n) 26 (0, 0))) ∧ Hid (wr.heap[w.heap.size + 1]? = some (.cells (wcells d) 26 (0, 0))) ∧ Hid (wr.heap[w2.heap.size]? = some (.cells (wcells Q) 26 (0, 0))) ∧ Hid (Below w.heap.size w wr) ∧ Hid (Below wD.heap.size wD wr)) (fun s12 _ => E - (intOf s12).toNat)
    case atStart => exact ⟨0, rfl, Nat.zero_le _, Gn, Gd, Gq, HB, B1⟩
    case round =>
      clear HB B1 Gn Gd Gq Gr
      obtain ⟨i, rfl, hi, Gn, Gd, Gq, HB, B1⟩ := hrel
      by_cases hlt : i < E
      · have hi128 : i ≤ 128 := by have := HE.out; omega
        have e1 : (i : Int) < (E : Int) := by omega
        have e0 : (0 : Int) ≤ (i : Int) := by omega
        obtain ⟨T, hT⟩ : ∃ T, T = 128 - i := ⟨_, rfl⟩
        have hTs : IntKind.i64.wrap (128 - (i : Int)) = (T : Int) := by rw [IntWalk.i64_in _ (by omega)]; omega
        have hTT : 128 - (i : Int) = (T : Int) := by omega
        have T5 := Lib.hid (fun v w' h => S5.out v T w' (by omega) h)
        have T6 := Lib.hid (fun v w' h => S6.out v T w' (by omega) h)
        have T7 := Lib.hid (fun v v2 w' h h' => S7.out v v2 T w' h h')
        have T8 := Lib.hid (fun v v2 w' h h' => S8.out i v v2 w' h h')
        have T9 := Lib.hid (fun v w' h => S9.out i v w' h)
        rw [← hT] at T8
        have hLi : (stL n d E)[i]? = some (lftN n d i) := by unfold stL; rw [List.getElem?_map, List.getElem?_range hlt]; rfl
        obtain ⟨a', cap', hv, _, hx⟩ := HI.out
        rw [stL_length] at hv hx
        obtain ⟨rfl, rfl⟩ : a' = a ∧ cap' = cap := by simp only [Value.slice.injEq] at hv; exact ⟨hv.1.symm, hv.2.2.symm⟩
        obtain ⟨b, o, rfl, hbl, hcell⟩ := hx (by omega)
        obtain ⟨L, hL⟩ : ∃ L, L = lftN n d i := ⟨_, rfl⟩
        rw [← hL] at T8 T9 hLi
        have hc : ∀ j, j < 8 → wr.cell? ⟨b, o + i * 8 + j, none⟩ = some (.int .u64 (limb L j : Nat)) := fun j hj => (B1.out.cell (p := ⟨b, o + i * 8 + j, none⟩) hbl).trans (hcell i L hLi j hj)
        have HBL := Lib.hid (Nat.lt_of_lt_of_le hbl B1.out.size)
        have HC := Lib.hid hc
        obtain ⟨f, hf⟩ : ∃ f, f = decide (M ≤ L) := ⟨_, rfl⟩
        rw [← hf] at T9
        obtain ⟨N1, hN1⟩ : ∃ N, N = Q / P2 T := ⟨_, rfl⟩
        rw [← hN1] at T5 T6 T7 T8
        obtain ⟨N2, hN2⟩ : ∃ N, N = N1 * P2 T := ⟨_, rfl⟩
        rw [← hN2] at T6 T7 T8
        obtain ⟨N3, hN3⟩ : ∃ N, N = N2 * d := ⟨_, rfl⟩
        rw [← hN3] at T7 T8
        have HLT := Lib.hid hlt
        have HS := Lib.hid (lt_of_heap Gq.out)
        have B2 := Lib.hid (Below.refl wr.heap.size wr)
        clear hT hi128 hLi hv hx hbl hcell hL hc hf hN1 hN2 hN3 hlt hi
        have cGn := cell_row Gn.out
        have cGd := cell_row Gd.out
        have cGq := cell_row Gq.out
        go_wp2_with fail
        refine (S4.out _).mono ?_
        rintro e w3 ⟨rb, rfl, hr, hb⟩
        clear cGn cGd cGq
        replace HB := Lib.hid (below_then HB.out hb)
        replace B1 := Lib.hid (below_then B1.out hb)
        replace B2 := Lib.hid (below_then B2.out hb)
        replace Gn := Lib.hid ((hb.block _ (lt_of_heap Gn.out)).trans Gn.out)
        replace Gd := Lib.hid ((hb.block _ (lt_of_heap Gd.out)).trans Gd.out)
        replace Gq := Lib.hid ((hb.block _ (lt_of_heap Gq.out)).trans Gq.out)
        have Rb := Lib.hid hr
        clear hr hb
        have cGn := cell_row Gn.out
        have cGd := cell_row Gd.out
        have cGq := cell_row Gq.out
        go_wp2_with fail
        refine (T5.out _ _ Rb.out).mono ?_
        rintro e w4 ⟨rs, rfl, hr, hb⟩
        clear cGn cGd cGq
        replace HB := Lib.hid (below_then HB.out hb)
        replace B1 := Lib.hid (below_then B1.out hb)
        replace B2 := Lib.hid (below_then B2.out hb)
        replace Gn := Lib.hid ((hb.block _ (lt_of_heap Gn.out)).trans Gn.out)
        replace Gd := Lib.hid ((hb.block _ (lt_of_heap Gd.out)).trans Gd.out)
        replace Gq := Lib.hid ((hb.block _ (lt_of_heap Gq.out)).trans Gq.out)
        replace Rb := Lib.hid (Rb.out.below hb)
        have Rs := Lib.hid hr
        clear hr hb
        have cGn := cell_row Gn.out
        have cGd := cell_row Gd.out
        have cGq := cell_row Gq.out
        go_wp2_with fail
        refine (T6.out _ _ Rs.out).mono ?_
        rintro e w5 ⟨rh, rfl, hr, hb⟩
        clear cGn cGd cGq
        replace HB := Lib.hid (below_then HB.out hb)
        replace B1 := Lib.hid (below_then B1.out hb)
        replace B2 := Lib.hid (below_then B2.out hb)
        replace Gn := Lib.hid ((hb.block _ (lt_of_heap Gn.out)).trans Gn.out)
        replace Gd := Lib.hid ((hb.block _ (lt_of_heap Gd.out)).trans Gd.out)
        replace Gq := Lib.hid ((hb.block _ (lt_of_heap Gq.out)).trans Gq.out)
        replace Rb := Lib.hid (Rb.out.below hb)
        replace Rs := Lib.hid (Rs.out.below hb)
        have Rh := Lib.hid hr
        clear hr hb
        have cGn := cell_row Gn.out
        have cGd := cell_row Gd.out
        have cGq := cell_row Gq.out
        go_upto_region 12 with fail
        clear cGn cGd cGq
        obtain ⟨wK, hw⟩ : ∃ wx, wx = w5 := ⟨_, rfl⟩
        rw [← hw] at B1 B2 Gn Gd Gq Rh HB ⊢
        clear hw
        have xGn := ext_row (B := wK.heap.size) Gn.out (lt_of_heap Gn.out)
        have xGd := ext_row (B := wK.heap.size) Gd.out (lt_of_heap Gd.out)
        have xGq := ext_row (B := wK.heap.size) Gq.out (lt_of_heap Gq.out)
        apply wp_region_loose (looseR [_, _, _, _, _, _, _, _, _, _, _, Lft.val undef, Lft.val undef, _]) (pureL [8, 9, 10, 13])
        · kernel_rfl
        · kernel_rfl
        · kernel_rfl
        · exact allocs_ok [26] rfl (by intro T hT; simp only [List.mem_cons, List.not_mem_nil, or_false] at hT; subst hT; exact makes_wide)
        · exact looseR_st _
        · change wpL _ _ _ _ _ _ _ 14 0 _ _
          refine wpL_calm wK rfl rfl rfl rfl (fun K hK K0 hK0 => ?_)
          go_simp
          first | refine hK _ _ rfl rfl ?_ | refine hK0 _ rfl ?_
          clear hK hK0 K K0
          refine wpL_call (Lft.big n) (big_some w _) rfl rfl rfl rfl (by first | rfl | go_simp) rfl (fun w' hC hF => ?_) (fun v1 hv1 => ?_)
          · obtain ⟨x, rfl⟩ := hC
            go_simp
            go_at_call 32
            exact gives_loose (SN.out _)
          refine wpL_calm wK rfl rfl rfl rfl (fun K hK K0 hK0 => ?_)
          go_simp
          first | refine hK _ _ rfl rfl ?_ | refine hK0 _ rfl ?_
          clear hK hK0 K K0
          refine wpL_calm wK rfl rfl rfl rfl (fun K hK K0 hK0 => ?_)
          go_simp
          first | refine hK _ _ rfl rfl ?_ | refine hK0 _ rfl ?_
          clear hK hK0 K K0
          refine wpL_call (Lft.big d) (big_some w _) rfl rfl rfl rfl (by first | rfl | go_simp) rfl (fun w' hC hF => ?_) (fun v4 hv4 => ?_)
          · obtain ⟨x, rfl⟩ := hC
            go_simp
            go_at_call 32
            exact gives_loose (SD.out _)
          refine wpL_call (Lft.big N3) (big_some w _) rfl rfl rfl rfl (by first | rfl | go_simp) rfl (fun w' hC hF => ?_) (fun v5 hv5 => ?_)
          · obtain ⟨x, rfl⟩ := hC
            go_simp
            go_at_call 73
            exact gives_loose (T7.out _ _ _ (ext_bigB Rh.out (Below.refl _ _) x) (hF 4 _ 74 rfl rfl rfl rfl (by decide)))
          refine wpL_call (Lft.big L) (big_some w _) rfl rfl rfl rfl (by first | rfl | go_simp) rfl (fun w' hC hF => ?_) (fun v6 hv6 => ?_)
          · obtain ⟨x, rfl⟩ := hC
            go_simp
            go_at_call 36
            exact gives_loose (T8.out _ _ _ (hF 1 _ 71 rfl rfl rfl rfl (by decide)) (hF 5 _ 75 rfl rfl rfl rfl (by decide)))
          refine wpL_call (Lft.val (.tuple #[wv L, .bool f])) (val_some wK _) rfl rfl rfl rfl (by first | rfl | go_simp) rfl (fun w' hC hF => ?_) (fun v7 hv7 => ?_)
          · obtain ⟨x, rfl⟩ := hC
            go_simp
            go_at_call 29
            exact val_loose (T9.out _ _ (hF 6 _ 76 rfl rfl rfl rfl (by decide)))
          obtain ⟨_, rfl⟩ := hv7
          refine wpL_pure wK rfl rfl rfl rfl (fun K hK K0 hK0 => ?_)
          go_simp
          first | refine hK _ _ rfl rfl ?_ | refine hK0 _ rfl ?_
          clear hK hK0 K K0
          refine wpL_pure wK rfl rfl rfl rfl (fun K hK K0 hK0 => ?_)
          go_simp
          first | refine hK _ _ rfl rfl ?_ | refine hK0 _ rfl ?_
          clear hK hK0 K K0
          refine wpL_pure wK rfl rfl rfl rfl (fun K hK K0 hK0 => ?_)
          go_simp
          first | refine hK _ _ rfl rfl ?_ | refine hK0 _ rfl ?_
          clear hK hK0 K K0
          refine wpL_alloc rfl rfl rfl rfl (fun g11 hg11 => ?_)
          refine wpL_store rfl rfl ?_
          refine wpL_pure wK rfl rfl rfl rfl (fun K hK K0 hK0 => ?_)
          go_simp
          first | refine hK _ _ rfl rfl ?_ | refine hK0 _ rfl ?_
          clear hK hK0 K K0
          refine wpL_nil (endL [(26, .tmp 14, .tmp 78)] rfl (by intro q hq; simp only [List.mem_cons, List.not_mem_nil, or_false] at hq; subst hq; exact fits_wv (by kernel_rfl) _) (fun w6 hb hst hap hfin => ?_))
          have Gl : Hid (w6.heap[g11]? = some (.cells (wcells (L)) 26 (0, 0))) := Lib.hid (hst 12 _ _ _ _ g11 rfl rfl rfl)
          replace HB := Lib.hid (below_then HB.out hb)
          replace B1 := Lib.hid (below_then B1.out hb)
          replace B2 := Lib.hid (below_then B2.out hb)
          replace Gn := Lib.hid ((hb.block _ (lt_of_heap Gn.out)).trans Gn.out)
          replace Gd := Lib.hid ((hb.block _ (lt_of_heap Gd.out)).trans Gd.out)
          replace Gq := Lib.hid ((hb.block _ (lt_of_heap Gq.out)).trans Gq.out)
          replace Rh := Lib.hid (Rh.out.below hb)
          clear hb hst hap hfin xGn xGd xGq
          have hx := fun j hj => ext_cell ((B2.out.cell (p := ⟨b, o + i * 8 + j, none⟩) HBL.out).trans (HC.out j hj)) (Nat.lt_of_lt_of_le HBL.out B2.out.size)
          have x0 := hx 0 (by decide)
          have x1 := hx 1 (by decide); have x2 := hx 2 (by decide); have x3 := hx 3 (by decide); have x4 := hx 4 (by decide); have x5 := hx 5 (by decide); have x6 := hx 6 (by decide); have x7 := hx 7 (by decide)
          simp only [Nat.add_zero] at x0
          clear hx
          have cGn := cell_row Gn.out
          have cGd := cell_row Gd.out
          have cGq := cell_row Gq.out
          have cGl := cell_row Gl.out
          go_upto_region 13 with fail
          clear cGn cGd cGq cGl
          have xGn := ext_row (B := w6.heap.size) Gn.out (lt_of_heap Gn.out)
          have xGd := ext_row (B := w6.heap.size) Gd.out (lt_of_heap Gd.out)
          have xGq := ext_row (B := w6.heap.size) Gq.out (lt_of_heap Gq.out)
          have xGl := ext_row (B := w6.heap.size) Gl.out (lt_of_heap Gl.out)
          refine wp_region_ext w6.heap.size (by kernel_rfl) (by kernel_rfl) ?_
          repeat (go_big_quiet_step (fail))
          refine wpQuiet_nil ?_
          intro w7 hb
          clear xGn xGd xGq xGl
          replace HB := Lib.hid (below_then HB.out hb)
          replace B1 := Lib.hid (below_then B1.out hb)
          replace B2 := Lib.hid (below_then B2.out hb)
          replace Gn := Lib.hid ((hb.block _ (lt_of_heap Gn.out)).trans Gn.out)
          replace Gd := Lib.hid ((hb.block _ (lt_of_heap Gd.out)).trans Gd.out)
          replace Gq := Lib.hid ((hb.block _ (lt_of_heap Gq.out)).trans Gq.out)
          replace Gl := Lib.hid ((hb.block _ (lt_of_heap Gl.out)).trans Gl.out)
          clear hb
          clear x0 x1 x2 x3 x4 x5 x6 x7
          go_wp2
          go_roundw
          case rel => exact ⟨i + 1, by go_num, HLT.out, Gn, Gd, Gq, HB, B1⟩
          case measure => have := HLT.out; simp [intOf]; omega
      · obtain rfl : i = E := by omega
        clear hlt hi
        go_wp2_with fail
        refine (SA.out _).mono ?_
        rintro e w8 ⟨rfl, hb⟩
        replace HB := Lib.hid (below_then HB.out hb)
        clear hb
        go_wp2
        go_ret
        exact ⟨rfl, HB.out⟩
  · have S1 := Lib.hid (fun w' => steps_no n d most hn hd (Or.inl hm) w')
    obtain ⟨E, hE⟩ : ∃ x, x = mayN n d := ⟨_, rfl⟩
    rw [← hE] at S1 S2 hm
    have hb : (E == 0) = false := by simp [hm]
    clear hn hd hE _h1 _h2
    go_enter Try.func21, Try.ntmps21
    have HB := Lib.hid (Below.refl w.heap.size w)
    have Gn := Lib.hid (alloc_new (w) (.cells (wcells n) 26))
    replace HB := Lib.hid (below_al HB.out (.cells (wcells n) 26))
    replace Gn := Lib.hid (keepAl (o' := .cells (wcells d) 26) Gn.out)
    have Gd := Lib.hid (alloc_new' (w := (w).alloc (.cells (wcells n) 26)) (n := w.heap.size + 1) (.cells (wcells d) 26) (by simp))
    replace HB := Lib.hid (below_al HB.out (.cells (wcells d) 26))
    have cGn := cell_row Gn.out
    have cGd := cell_row Gd.out
    go_wp2_with fail
    refine (S1.out _).mono ?_
    rintro e w9 ⟨rfl, hb⟩
    clear cGn cGd
    replace HB := Lib.hid (below_then HB.out hb)
    replace Gn := Lib.hid ((hb.block _ (lt_of_heap Gn.out)).trans Gn.out)
    replace Gd := Lib.hid ((hb.block _ (lt_of_heap Gd.out)).trans Gd.out)
    clear hb
    have cGn := cell_row Gn.out
    have cGd := cell_row Gd.out
    go_wp2_with fail
    refine (S2.out _).mono ?_
    rintro e w10 ⟨rfl, hb⟩
    clear cGn cGd
    replace HB := Lib.hid (below_then HB.out hb)
    replace Gn := Lib.hid ((hb.block _ (lt_of_heap Gn.out)).trans Gn.out)
    replace Gd := Lib.hid ((hb.block _ (lt_of_heap Gd.out)).trans Gd.out)
    clear hb
    have cGn := cell_row Gn.out
    have cGd := cell_row Gd.out
    go_wp2_with fail
    refine (SA.out _).mono ?_
    rintro e w11 ⟨rfl, hb⟩
    clear cGn cGd
    replace HB := Lib.hid (below_then HB.out hb)
    replace Gn := Lib.hid ((hb.block _ (lt_of_heap Gn.out)).trans Gn.out)
    replace Gd := Lib.hid ((hb.block _ (lt_of_heap Gd.out)).trans Gd.out)
    clear hb
    have cGn := cell_row Gn.out
    have cGd := cell_row Gd.out
    go_wp2
    go_ret
    exact ⟨rfl, HB.out⟩
end Go.Proofs.Ytenkaobgoknlhaa
