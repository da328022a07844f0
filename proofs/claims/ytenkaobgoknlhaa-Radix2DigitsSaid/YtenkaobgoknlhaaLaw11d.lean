/- THE WALK of the law on a quotient's digits. -/
import Derived.Test.YtenkaobgoknlhaaLaw11
import Derived.Test.YtenkaobgoknlhaaR2g
import Derived.Test.YtenkaobgoknlhaaLoose3
namespace Go.Proofs.Ytenkaobgoknlhaa
open Go Go.RowKit

attribute [local go_sem ↓] Go.wp_at_zero Go.wp_at_succ
set_option maxRecDepth 100000 in
set_option maxHeartbeats 4000000 in
theorem radix2Digits_any (n d : Nat) (w : World) (hn : n < M) (hd : d < M) :
    Calls Try.prog 19 #[wv n, wv d] w fun e w' => e = .returned (.bool true) ∧ Below w.heap.size w w' := by
  have SA := Lib.hid (fun w' => awake11_any w')
  have S2 := Lib.hid (fun w' => rmay_any n d hn hd w')
  by_cases hm : mayN n d = 0
  · obtain ⟨g1, g2, g3⟩ := may_ok hm
    have hq : n / d < P2 131 := Nat.lt_of_lt_of_le (quo_lt g1 g3) (P2_le (by omega))
    have hqM : n / d < M := Nat.lt_of_le_of_lt (Nat.div_le_self _ _) hn
    have S1 := Lib.hid (fun w' => digits_yes n d hn hd hm w')
    have S3 := Lib.hid (fun w' => rdivide_any n d w' hn hd g1 hq)
    have S4 := Lib.hid (fun w' => big_any (n / d) hqM w')
    have S5 := Lib.hid (fun v T w' (hT : T ≤ 127) h => rshr_any v (n / d) T w' (small_M hqM) (by omega) h)
    have S6 := Lib.hid (fun v T w' h => odd_any v (n / d / P2 T) w' (Nat.lt_of_le_of_lt (Nat.div_le_self _ _) (small_M hqM)) h)
    have HD : Hid (∀ i, i < 128 → (n / d / P2 (127 - i)).testBit 0 = (((digN n d i : Nat) : Int) == 1)) := Lib.hid fun i _ => by
      rw [dig_bitQ, Nat.testBit_zero]
      have := Nat.mod_lt (n / d / P2 (127 - i)) (show 0 < 2 by decide)
      rcases (show n / d / P2 (127 - i) % 2 = 0 ∨ n / d / P2 (127 - i) % 2 = 1 by omega) with h | h <;> rw [h] <;> rfl
    have HD1 := Lib.hid (dig_le1 n d)
    rw [hm] at S2
    obtain ⟨Q, hQ⟩ : ∃ x, x = n / d := ⟨_, rfl⟩
    obtain ⟨R, hR⟩ : ∃ x, x = n % d := ⟨_, rfl⟩
    rw [← hQ] at S3 S4 S5 S6 HD
    rw [← hR] at S3
    clear hn hd hm g1 g2 g3 hq hqM hQ hR
    go_enter Try.func19, Try.ntmps19
    have HB := Lib.hid (Below.refl w.heap.size w)
    have Gn := Lib.hid (alloc_new (w) (.cells (wcells n) 26))
    replace HB := Lib.hid (below_al HB.out (.cells (wcells n) 26))
    replace Gn := Lib.hid (keepAl (o' := .cells (wcells d) 26) Gn.out)
    have Gd := Lib.hid (alloc_new' (w := (w).alloc (.cells (wcells n) 26)) (n := w.heap.size + 1) (.cells (wcells d) 26) (by simp))
    replace HB := Lib.hid (below_al HB.out (.cells (wcells d) 26))
    have cGn := cell_row Gn.out
    have cGd := cell_row Gd.out
    go_wp2_with fail
    clear cGn cGd
    obtain ⟨w0, hw⟩ : ∃ wx, wx = ((w).alloc (.cells (wcells n) 26)).alloc (.cells (wcells d) 26) := ⟨_, rfl⟩
    rw [← hw] at Gn Gd HB ⊢
    clear hw
    refine (S1.out _).mono ?_
    rintro e wD ⟨v, rfl, hI, hb⟩
    replace HB := Lib.hid (below_then HB.out hb)
    replace Gn := Lib.hid ((hb.block _ (lt_of_heap Gn.out)).trans Gn.out)
    replace Gd := Lib.hid ((hb.block _ (lt_of_heap Gd.out)).trans Gd.out)
    obtain ⟨a, cap, rfl, hcap, hx⟩ := hI
    obtain ⟨b, o, rfl, hbl, hcell⟩ := hx (by rw [List.length_map, List.length_range]; decide)
    rw [List.length_map, List.length_range] at hcap ⊢
    have HC : Hid (∀ i, i < 128 → wD.cell? ⟨b, o + i, none⟩ = some (.int .i64 ((digN n d i : Nat) : Int))) := Lib.hid fun i hi => hcell i _ (by rw [List.getElem?_map, List.getElem?_range hi]; rfl)
    have HBL := Lib.hid hbl
    have B1 := Lib.hid (Below.refl wD.heap.size wD)
    clear hb hx hcell hcap hbl
    have cGn := cell_row Gn.out
    have cGd := cell_row Gd.out
    go_wp2_with fail
    refine (S2.out _).mono ?_
    rintro e w1 ⟨rfl, hb⟩
    clear cGn cGd
    replace HB := Lib.hid (below_then HB.out hb)
    replace Gn := Lib.hid ((hb.block _ (lt_of_heap Gn.out)).trans Gn.out)
    replace Gd := Lib.hid ((hb.block _ (lt_of_heap Gd.out)).trans Gd.out)
    replace B1 := Lib.hid (below_then B1.out hb)
    clear hb
    have cGn := cell_row Gn.out
    have cGd := cell_row Gd.out
    go_wp2_with fail
    refine (S3.out _).mono ?_
    rintro e w2 ⟨rfl, hb⟩
    clear cGn cGd
    replace HB := Lib.hid (below_then HB.out hb)
    replace Gn := Lib.hid ((hb.block _ (lt_of_heap Gn.out)).trans Gn.out)
    replace Gd := Lib.hid ((hb.block _ (lt_of_heap Gd.out)).trans Gd.out)
    replace B1 := Lib.hid (below_then B1.out hb)
    clear hb
    replace Gn := Lib.hid (keepAl (o' := .cells (wcells Q) 26) Gn.out)
    replace Gd := Lib.hid (keepAl (o' := .cells (wcells Q) 26) Gd.out)
    replace B1 := Lib.hid (below_al B1.out (.cells (wcells Q) 26))
    have Gq := Lib.hid (alloc_new (w2) (.cells (wcells Q) 26))
    replace HB := Lib.hid (below_al HB.out (.cells (wcells Q) 26))
    replace Gn := Lib.hid (keepAl (o' := .cells (wcells R) 26) Gn.out)
    replace Gd := Lib.hid (keepAl (o' := .cells (wcells R) 26) Gd.out)
    replace B1 := Lib.hid (below_al B1.out (.cells (wcells R) 26))
    replace Gq := Lib.hid (keepAl (o' := .cells (wcells R) 26) Gq.out)
    have Gr := Lib.hid (alloc_new' (w := (w2).alloc (.cells (wcells Q) 26)) (n := w2.heap.size + 1) (.cells (wcells R) 26) (by simp))
    replace HB := Lib.hid (below_al HB.out (.cells (wcells R) 26))
    have cGn := cell_row Gn.out
    have cGd := cell_row Gd.out
    have cGq := cell_row Gq.out
    have cGr := cell_row Gr.out
    go_wp2_with fail
    refine (S4.out _).mono ?_
    rintro e w3 ⟨rb, rfl, hr, hb⟩
    clear cGn cGd cGq cGr
    replace HB := Lib.hid (below_then HB.out hb)
    replace Gn := Lib.hid ((hb.block _ (lt_of_heap Gn.out)).trans Gn.out)
    replace Gd := Lib.hid ((hb.block _ (lt_of_heap Gd.out)).trans Gd.out)
    replace B1 := Lib.hid (below_then B1.out hb)
    replace Gq := Lib.hid ((hb.block _ (lt_of_heap Gq.out)).trans Gq.out)
    replace Gr := Lib.hid ((hb.block _ (lt_of_heap Gr.out)).trans Gr.out)
    have Rb := Lib.hid hr
    clear hr hb
    have cGn := cell_row Gn.out
    have cGd := cell_row Gd.out
    have cGq := cell_row Gq.out
    have cGr := cell_row Gr.out
    go_wp2
    clear cGn cGd cGq cGr
    go_loopw [11] (fun s11 wr => ∃ i : Nat, s11 = .int .i64 i ∧ i ≤ 128 ∧ Hid (IsBig wr rb Q) ∧ Hid (Below w.heap.size w wr) ∧ Hid (Below wD.heap.size wD wr)) (fun s11 _ => 128 - (intOf s11).toNat)
    case atStart => exact ⟨0, rfl, by omega, Rb, HB, B1⟩
    case round =>
      clear Rb HB B1 Gn Gd Gq Gr
      obtain ⟨i, rfl, hi, Rb, HB, B1⟩ := hrel
      by_cases hlt : i < 128
      · have e1 : (i : Int) < 128 := by omega
        have e0 : (0 : Int) ≤ (i : Int) := by omega
        obtain ⟨T, hT⟩ : ∃ T, T = 127 - i := ⟨_, rfl⟩
        have hTs : IntKind.i64.wrap (127 - (i : Int)) = (T : Int) := by rw [IntWalk.i64_in _ (by omega)]; omega
        have hc := (B1.out.cell (p := ⟨b, o + i, none⟩) HBL.out).trans (HC.out i hlt)
        have T5 := Lib.hid (fun v w' h => S5.out v T w' (by omega) h)
        have T6 := Lib.hid (fun v w' h => S6.out v T w' h)
        have hdb := HD.out i hlt
        rw [← hT] at hdb
        rw [hdb] at T6
        have hd1 := HD1.out i
        have HLT := Lib.hid hlt
        obtain ⟨g, hg⟩ : ∃ g, g = digN n d i := ⟨_, rfl⟩
        rw [← hg] at hc T6 hd1
        have hx : ∀ x : Ext wr.heap.size wr, x.val.cell? ⟨b, o + i, none⟩ = some (.int .i64 (g : Int)) := ext_cell hc (Nat.lt_of_lt_of_le HBL.out B1.out.size)
        obtain ⟨N, hN⟩ : ∃ N, N = Q / P2 T := ⟨_, rfl⟩
        rw [← hN] at T5 T6
        clear hT hdb hg hN hlt hi hc
        obtain ⟨F, hF⟩ : ∃ F, F = ((g : Int) == 1) := ⟨_, rfl⟩
        rw [← hF] at T6
        rcases (show (g = 0 ∧ F = false) ∨ (g = 1 ∧ F = true) by
          rcases (show g = 0 ∨ g = 1 by omega) with h | h
          · left; exact ⟨h, by rw [hF, h]; rfl⟩
          · right; exact ⟨h, by rw [hF, h]; rfl⟩) with ⟨rfl, rfl⟩ | ⟨rfl, rfl⟩
        · clear hd1 hF
          go_upto_region 12 with fail
          apply wp_region_loose (looseR [_, _, _, _, _, _, _, _, _, _, _, _, _, _, _, _, _, _, _, _, _, _, _, _, _]) (pureL [])
          · kernel_rfl
          · kernel_rfl
          · kernel_rfl
          · exact allocs_ok [] rfl (by intro T hT; cases hT)
          · exact looseR_st _
          · change wpL _ _ _ _ _ _ _ 25 0 _ _
            refine wpL_calm wr rfl rfl rfl rfl (fun K hK K0 hK0 => ?_)
            go_simp
            first | refine hK _ _ rfl rfl ?_ | refine hK0 _ rfl ?_
            clear hK hK0 K K0
            refine wpL_calm wr rfl rfl rfl rfl (fun K hK K0 hK0 => ?_)
            go_simp
            first | refine hK _ _ rfl rfl ?_ | refine hK0 _ rfl ?_
            clear hK hK0 K K0
            refine wpL_calm wr rfl rfl rfl rfl (fun K hK K0 hK0 => ?_)
            go_simp
            first | refine hK _ _ rfl rfl ?_ | refine hK0 _ rfl ?_
            clear hK hK0 K K0
            refine wpL_calm wr rfl rfl rfl rfl (fun K hK K0 hK0 => ?_)
            go_simp
            first | refine hK _ _ rfl rfl ?_ | refine hK0 _ rfl ?_
            clear hK hK0 K K0
            refine wpL_calm wr rfl rfl rfl rfl (fun K hK K0 hK0 => ?_)
            go_simp
            first | refine hK _ _ rfl rfl ?_ | refine hK0 _ rfl ?_
            clear hK hK0 K K0
            refine wpL_calm wr rfl rfl rfl rfl (fun K hK K0 hK0 => ?_)
            go_simp
            first | refine hK _ _ rfl rfl ?_ | refine hK0 _ rfl ?_
            clear hK hK0 K K0
            refine wpL_calm wr rfl rfl rfl rfl (fun K hK K0 hK0 => ?_)
            go_simp
            first | refine hK _ _ rfl rfl ?_ | refine hK0 _ rfl ?_
            clear hK hK0 K K0
            refine wpL_calm wr rfl rfl rfl rfl (fun K hK K0 hK0 => ?_)
            go_simp
            first | refine hK _ _ rfl rfl ?_ | refine hK0 _ rfl ?_
            clear hK hK0 K K0
            refine wpL_calm wr rfl rfl rfl rfl (fun K hK K0 hK0 => ?_)
            go_simp
            first | refine hK _ _ rfl rfl ?_ | refine hK0 _ rfl ?_
            clear hK hK0 K K0
            refine wpL_calm wr rfl rfl rfl rfl (fun K hK K0 hK0 => ?_)
            go_simp
            first | refine hK _ _ rfl rfl ?_ | refine hK0 _ rfl ?_
            clear hK hK0 K K0
            refine wpL_calm wr rfl rfl rfl rfl (fun K hK K0 hK0 => ?_)
            go_simp
            first | refine hK _ _ rfl rfl ?_ | refine hK0 _ rfl ?_
            clear hK hK0 K K0
            refine wpL_calm wr rfl rfl rfl rfl (fun K hK K0 hK0 => ?_)
            go_simp
            first | refine hK _ _ rfl rfl ?_ | refine hK0 _ rfl ?_
            clear hK hK0 K K0
            refine wpL_calm wr rfl rfl rfl rfl (fun K hK K0 hK0 => ?_)
            go_simp
            first | refine hK _ _ rfl rfl ?_ | refine hK0 _ rfl ?_
            clear hK hK0 K K0
            refine wpL_calm wr rfl rfl rfl rfl (fun K hK K0 hK0 => ?_)
            go_simp
            first | refine hK _ _ rfl rfl ?_ | refine hK0 _ rfl ?_
            clear hK hK0 K K0
            refine wpL_calm wr rfl rfl rfl rfl (fun K hK K0 hK0 => ?_)
            go_simp
            first | refine hK _ _ rfl rfl ?_ | refine hK0 _ rfl ?_
            clear hK hK0 K K0
            refine wpL_calm wr rfl rfl rfl rfl (fun K hK K0 hK0 => ?_)
            go_simp
            first | refine hK _ _ rfl rfl ?_ | refine hK0 _ rfl ?_
            clear hK hK0 K K0
            refine wpL_calm wr rfl rfl rfl rfl (fun K hK K0 hK0 => ?_)
            go_simp
            first | refine hK _ _ rfl rfl ?_ | refine hK0 _ rfl ?_
            clear hK hK0 K K0
            refine wpL_calm wr rfl rfl rfl rfl (fun K hK K0 hK0 => ?_)
            go_simp
            first | refine hK _ _ rfl rfl ?_ | refine hK0 _ rfl ?_
            clear hK hK0 K K0
            refine wpL_calm wr rfl rfl rfl rfl (fun K hK K0 hK0 => ?_)
            go_simp
            first | refine hK _ _ rfl rfl ?_ | refine hK0 _ rfl ?_
            clear hK hK0 K K0
            refine wpL_calm wr rfl rfl rfl rfl (fun K hK K0 hK0 => ?_)
            go_simp
            first | refine hK _ _ rfl rfl ?_ | refine hK0 _ rfl ?_
            clear hK hK0 K K0
            refine wpL_calm wr rfl rfl rfl rfl (fun K hK K0 hK0 => ?_)
            go_simp
            first | refine hK _ _ rfl rfl ?_ | refine hK0 _ rfl ?_
            clear hK hK0 K K0
            refine wpL_call (Lft.big N) (big_some w _) rfl rfl rfl rfl (by first | rfl | go_simp) rfl (fun w' hC hF => ?_) (fun v21 hv21 => ?_)
            · obtain ⟨x, rfl⟩ := hC
              go_simp
              go_at_call 34
              exact gives_loose (T5.out _ _ (ext_bigB Rb.out (Below.refl _ _) x))
            refine wpL_call (Lft.val (.bool false)) (val_some wr _) rfl rfl rfl rfl (by first | rfl | go_simp) rfl (fun w' hC hF => ?_) (fun v22 hv22 => ?_)
            · obtain ⟨x, rfl⟩ := hC
              go_simp
              go_at_call 33
              exact val_loose (T6.out _ _ (hF 21 _ 74 rfl rfl rfl rfl (by decide)))
            obtain ⟨_, rfl⟩ := hv22
            refine wpL_calm wr rfl rfl rfl rfl (fun K hK K0 hK0 => ?_)
            go_simp
            first | refine hK _ _ rfl rfl ?_ | refine hK0 _ rfl ?_
            clear hK hK0 K K0
            refine wpL_calm wr rfl rfl rfl rfl (fun K hK K0 hK0 => ?_)
            go_simp
            first | refine hK _ _ rfl rfl ?_ | refine hK0 _ rfl ?_
            clear hK hK0 K K0
            refine wpL_nil (endL [] rfl (by intro q hq; cases hq) (fun w4 hb hst hap hfin => ?_))
            replace HB := Lib.hid (below_then HB.out hb)
            replace B1 := Lib.hid (below_then B1.out hb)
            replace Rb := Lib.hid (Rb.out.below hb)
            clear hb hst hap hfin 
            go_wp2
            go_roundw
            case rel => exact ⟨i + 1, by go_num, HLT.out, Rb, HB, B1⟩
            case measure => have := HLT.out; simp [intOf]; omega
        · clear hd1 hF
          go_upto_region 12 with fail
          apply wp_region_loose (looseR [_, _, _, _, _, _, _, _, _, _, _, _, _, _, _, _, _, _, _, _, _, _, _, _, _]) (pureL [])
          · kernel_rfl
          · kernel_rfl
          · kernel_rfl
          · exact allocs_ok [] rfl (by intro T hT; cases hT)
          · exact looseR_st _
          · change wpL _ _ _ _ _ _ _ 25 0 _ _
            refine wpL_calm wr rfl rfl rfl rfl (fun K hK K0 hK0 => ?_)
            go_simp
            first | refine hK _ _ rfl rfl ?_ | refine hK0 _ rfl ?_
            clear hK hK0 K K0
            refine wpL_calm wr rfl rfl rfl rfl (fun K hK K0 hK0 => ?_)
            go_simp
            first | refine hK _ _ rfl rfl ?_ | refine hK0 _ rfl ?_
            clear hK hK0 K K0
            refine wpL_calm wr rfl rfl rfl rfl (fun K hK K0 hK0 => ?_)
            go_simp
            first | refine hK _ _ rfl rfl ?_ | refine hK0 _ rfl ?_
            clear hK hK0 K K0
            refine wpL_calm wr rfl rfl rfl rfl (fun K hK K0 hK0 => ?_)
            go_simp
            first | refine hK _ _ rfl rfl ?_ | refine hK0 _ rfl ?_
            clear hK hK0 K K0
            refine wpL_calm wr rfl rfl rfl rfl (fun K hK K0 hK0 => ?_)
            go_simp
            first | refine hK _ _ rfl rfl ?_ | refine hK0 _ rfl ?_
            clear hK hK0 K K0
            refine wpL_calm wr rfl rfl rfl rfl (fun K hK K0 hK0 => ?_)
            go_simp
            first | refine hK _ _ rfl rfl ?_ | refine hK0 _ rfl ?_
            clear hK hK0 K K0
            refine wpL_calm wr rfl rfl rfl rfl (fun K hK K0 hK0 => ?_)
            go_simp
            first | refine hK _ _ rfl rfl ?_ | refine hK0 _ rfl ?_
            clear hK hK0 K K0
            refine wpL_calm wr rfl rfl rfl rfl (fun K hK K0 hK0 => ?_)
            go_simp
            first | refine hK _ _ rfl rfl ?_ | refine hK0 _ rfl ?_
            clear hK hK0 K K0
            refine wpL_calm wr rfl rfl rfl rfl (fun K hK K0 hK0 => ?_)
            go_simp
            first | refine hK _ _ rfl rfl ?_ | refine hK0 _ rfl ?_
            clear hK hK0 K K0
            refine wpL_calm wr rfl rfl rfl rfl (fun K hK K0 hK0 => ?_)
            go_simp
            first | refine hK _ _ rfl rfl ?_ | refine hK0 _ rfl ?_
            clear hK hK0 K K0
            refine wpL_calm wr rfl rfl rfl rfl (fun K hK K0 hK0 => ?_)
            go_simp
            first | refine hK _ _ rfl rfl ?_ | refine hK0 _ rfl ?_
            clear hK hK0 K K0
            refine wpL_calm wr rfl rfl rfl rfl (fun K hK K0 hK0 => ?_)
            go_simp
            first | refine hK _ _ rfl rfl ?_ | refine hK0 _ rfl ?_
            clear hK hK0 K K0
            refine wpL_calm wr rfl rfl rfl rfl (fun K hK K0 hK0 => ?_)
            go_simp
            first | refine hK _ _ rfl rfl ?_ | refine hK0 _ rfl ?_
            clear hK hK0 K K0
            refine wpL_calm wr rfl rfl rfl rfl (fun K hK K0 hK0 => ?_)
            go_simp
            first | refine hK _ _ rfl rfl ?_ | refine hK0 _ rfl ?_
            clear hK hK0 K K0
            refine wpL_calm wr rfl rfl rfl rfl (fun K hK K0 hK0 => ?_)
            go_simp
            first | refine hK _ _ rfl rfl ?_ | refine hK0 _ rfl ?_
            clear hK hK0 K K0
            refine wpL_calm wr rfl rfl rfl rfl (fun K hK K0 hK0 => ?_)
            go_simp
            first | refine hK _ _ rfl rfl ?_ | refine hK0 _ rfl ?_
            clear hK hK0 K K0
            refine wpL_calm wr rfl rfl rfl rfl (fun K hK K0 hK0 => ?_)
            go_simp
            first | refine hK _ _ rfl rfl ?_ | refine hK0 _ rfl ?_
            clear hK hK0 K K0
            refine wpL_calm wr rfl rfl rfl rfl (fun K hK K0 hK0 => ?_)
            go_simp
            first | refine hK _ _ rfl rfl ?_ | refine hK0 _ rfl ?_
            clear hK hK0 K K0
            refine wpL_calm wr rfl rfl rfl rfl (fun K hK K0 hK0 => ?_)
            go_simp
            first | refine hK _ _ rfl rfl ?_ | refine hK0 _ rfl ?_
            clear hK hK0 K K0
            refine wpL_calm wr rfl rfl rfl rfl (fun K hK K0 hK0 => ?_)
            go_simp
            first | refine hK _ _ rfl rfl ?_ | refine hK0 _ rfl ?_
            clear hK hK0 K K0
            refine wpL_calm wr rfl rfl rfl rfl (fun K hK K0 hK0 => ?_)
            go_simp
            first | refine hK _ _ rfl rfl ?_ | refine hK0 _ rfl ?_
            clear hK hK0 K K0
            refine wpL_call (Lft.big N) (big_some w _) rfl rfl rfl rfl (by first | rfl | go_simp) rfl (fun w' hC hF => ?_) (fun v21 hv21 => ?_)
            · obtain ⟨x, rfl⟩ := hC
              go_simp
              go_at_call 34
              exact gives_loose (T5.out _ _ (ext_bigB Rb.out (Below.refl _ _) x))
            refine wpL_call (Lft.val (.bool true)) (val_some wr _) rfl rfl rfl rfl (by first | rfl | go_simp) rfl (fun w' hC hF => ?_) (fun v22 hv22 => ?_)
            · obtain ⟨x, rfl⟩ := hC
              go_simp
              go_at_call 33
              exact val_loose (T6.out _ _ (hF 21 _ 74 rfl rfl rfl rfl (by decide)))
            obtain ⟨_, rfl⟩ := hv22
            refine wpL_calm wr rfl rfl rfl rfl (fun K hK K0 hK0 => ?_)
            go_simp
            first | refine hK _ _ rfl rfl ?_ | refine hK0 _ rfl ?_
            clear hK hK0 K K0
            refine wpL_calm wr rfl rfl rfl rfl (fun K hK K0 hK0 => ?_)
            go_simp
            first | refine hK _ _ rfl rfl ?_ | refine hK0 _ rfl ?_
            clear hK hK0 K K0
            refine wpL_nil (endL [] rfl (by intro q hq; cases hq) (fun w5 hb hst hap hfin => ?_))
            replace HB := Lib.hid (below_then HB.out hb)
            replace B1 := Lib.hid (below_then B1.out hb)
            replace Rb := Lib.hid (Rb.out.below hb)
            clear hb hst hap hfin 
            go_wp2
            go_roundw
            case rel => exact ⟨i + 1, by go_num, HLT.out, Rb, HB, B1⟩
            case measure => have := HLT.out; simp [intOf]; omega
      · obtain rfl : i = 128 := by omega
        clear hlt hi
        go_wp2_with fail
        refine (SA.out _).mono ?_
        rintro e w6 ⟨rfl, hb⟩
        replace HB := Lib.hid (below_then HB.out hb)
        clear hb
        go_wp2
        go_ret
        exact ⟨rfl, HB.out⟩
  · have S1 := Lib.hid (fun w' => digits_no n d hn hd hm w')
    obtain ⟨E, hE⟩ : ∃ x, x = mayN n d := ⟨_, rfl⟩
    rw [← hE] at S1 S2 hm
    have hb : (E == 0) = false := by simp [hm]
    clear hn hd hE
    go_enter Try.func19, Try.ntmps19
    have HB := Lib.hid (Below.refl w.heap.size w)
    have Gn := Lib.hid (alloc_new (w) (.cells (wcells n) 26))
    replace HB := Lib.hid (below_al HB.out (.cells (wcells n) 26))
    replace Gn := Lib.hid (keepAl (o' := .cells (wcells d) 26) Gn.out)
    have Gd := Lib.hid (alloc_new' (w := (w).alloc (.cells (wcells n) 26)) (n := w.heap.size + 1) (.cells (wcells d) 26) (by simp))
    replace HB := Lib.hid (below_al HB.out (.cells (wcells d) 26))
    have cGn := cell_row Gn.out
    have cGd := cell_row Gd.out
    go_wp2_with fail
    refine (S1.out _).mono ?_
    rintro e w7 ⟨rfl, hb⟩
    clear cGn cGd
    replace HB := Lib.hid (below_then HB.out hb)
    replace Gn := Lib.hid ((hb.block _ (lt_of_heap Gn.out)).trans Gn.out)
    replace Gd := Lib.hid ((hb.block _ (lt_of_heap Gd.out)).trans Gd.out)
    clear hb
    have cGn := cell_row Gn.out
    have cGd := cell_row Gd.out
    go_wp2_with fail
    refine (S2.out _).mono ?_
    rintro e w8 ⟨rfl, hb⟩
    clear cGn cGd
    replace HB := Lib.hid (below_then HB.out hb)
    replace Gn := Lib.hid ((hb.block _ (lt_of_heap Gn.out)).trans Gn.out)
    replace Gd := Lib.hid ((hb.block _ (lt_of_heap Gd.out)).trans Gd.out)
    clear hb
    have cGn := cell_row Gn.out
    have cGd := cell_row Gd.out
    go_wp2_with fail
    refine (SA.out _).mono ?_
    rintro e w9 ⟨rfl, hb⟩
    clear cGn cGd
    replace HB := Lib.hid (below_then HB.out hb)
    replace Gn := Lib.hid ((hb.block _ (lt_of_heap Gn.out)).trans Gn.out)
    replace Gd := Lib.hid ((hb.block _ (lt_of_heap Gd.out)).trans Gd.out)
    clear hb
    have cGn := cell_row Gn.out
    have cGd := cell_row Gd.out
    go_wp2
    go_ret
    exact ⟨rfl, HB.out⟩
end Go.Proofs.Ytenkaobgoknlhaa
