/- THE WALK of the law on a root's digits. -/
import Derived.Test.YtenkaobgoknlhaaLaw12
import Derived.Test.YtenkaobgoknlhaaRt2e
import Derived.Test.YtenkaobgoknlhaaLoose3
namespace Go.Proofs.Ytenkaobgoknlhaa
open Go Go.RowKit

attribute [local go_sem ↓] Go.wp_at_zero Go.wp_at_succ
set_option maxRecDepth 100000 in
set_option maxHeartbeats 4000000 in
theorem root2Digits_any (n : Nat) (w : World) (hn : n < M) :
    Calls Try.prog 27 #[wv n] w fun e w' => e = .returned (.bool true) ∧ Below w.heap.size w w' := by
  have SA := Lib.hid (fun w' => awake12_any w')
  have S2 := Lib.hid (fun w' => rmayR_any n hn w')
  by_cases hm : n < P2 256
  · have hS := rt_lt hm
    have hSM : rtN 2 n < M := Nat.lt_trans hS (by rw [M_eq]; exact P2_lt (by omega))
    have S1 := Lib.hid (fun w' => digitsR_yes n hn hm w')
    have S3 : Hid (∀ w' : World, Calls Try.prog 99 #[wv n, .int .i64 2] w' fun e w'' => e = .returned (.tuple #[wv (rtN 2 n), wv (n - rtN 2 n ^ 2)]) ∧ Below w'.heap.size w' w'') := Lib.hid fun w' => rroot_any n 2 w' hm (Or.inl rfl)
    have S4 := Lib.hid (fun w' => big_any (rtN 2 n) hSM w')
    have S5 := Lib.hid (fun v T w' (hT : T ≤ 127) h => rshr_any v (rtN 2 n) T w' (small_M hSM) (by omega) h)
    have S6 := Lib.hid (fun v T w' h => odd_any v (rtN 2 n / P2 T) w' (Nat.lt_of_le_of_lt (Nat.div_le_self _ _) (small_M hSM)) h)
    have HD : Hid (∀ i, i < 128 → (rtN 2 n / P2 (127 - i)).testBit 0 = (((rdgN n i : Nat) : Int) == 1)) := Lib.hid fun i _ => by
      unfold rdgN
      rw [Nat.testBit_zero]
      have := Nat.mod_lt (rtN 2 n / P2 (127 - i)) (show 0 < 2 by decide)
      rcases (show rtN 2 n / P2 (127 - i) % 2 = 0 ∨ rtN 2 n / P2 (127 - i) % 2 = 1 by omega) with h | h <;> rw [h] <;> rfl
    have HD1 := Lib.hid (rdg_le1 n)
    rw [decide_eq_true hm] at S2
    obtain ⟨Q, hQ⟩ : ∃ x, x = rtN 2 n := ⟨_, rfl⟩
    rw [← hQ] at S3 S4 S5 S6 HD
    obtain ⟨R, hR⟩ : ∃ x, x = n - Q ^ 2 := ⟨_, rfl⟩
    rw [← hR] at S3
    clear hn hm hS hSM hQ hR
    go_enter Try.func27, Try.ntmps27
    have HB := Lib.hid (Below.refl w.heap.size w)
    have Gn := Lib.hid (alloc_new (w) (.cells (wcells n) 26))
    replace HB := Lib.hid (below_al HB.out (.cells (wcells n) 26))
    have cGn := cell_row Gn.out
    go_wp2_with fail
    clear cGn
    obtain ⟨w0, hw⟩ : ∃ wx, wx = (w).alloc (.cells (wcells n) 26) := ⟨_, rfl⟩
    rw [← hw] at Gn HB ⊢
    clear hw
    refine (S1.out _).mono ?_
    rintro e wD ⟨v, rfl, hI, hb⟩
    replace HB := Lib.hid (below_then HB.out hb)
    replace Gn := Lib.hid ((hb.block _ (lt_of_heap Gn.out)).trans Gn.out)
    obtain ⟨a, cap, rfl, hcap, hx⟩ := hI
    obtain ⟨b, o, rfl, hbl, hcell⟩ := hx (by rw [List.length_map, List.length_range]; decide)
    rw [List.length_map, List.length_range] at hcap ⊢
    have HC : Hid (∀ i, i < 128 → wD.cell? ⟨b, o + i, none⟩ = some (.int .i64 ((rdgN n i : Nat) : Int))) := Lib.hid fun i hi => hcell i _ (by rw [List.getElem?_map, List.getElem?_range hi]; rfl)
    have HBL := Lib.hid hbl
    have B1 := Lib.hid (Below.refl wD.heap.size wD)
    clear hb hx hcell hcap hbl
    have cGn := cell_row Gn.out
    go_wp2_with fail
    refine (S2.out _).mono ?_
    rintro e w1 ⟨rfl, hb⟩
    clear cGn
    replace HB := Lib.hid (below_then HB.out hb)
    replace Gn := Lib.hid ((hb.block _ (lt_of_heap Gn.out)).trans Gn.out)
    replace B1 := Lib.hid (below_then B1.out hb)
    clear hb
    have cGn := cell_row Gn.out
    go_wp2_with fail
    refine (S3.out _).mono ?_
    rintro e w2 ⟨rfl, hb⟩
    clear cGn
    replace HB := Lib.hid (below_then HB.out hb)
    replace Gn := Lib.hid ((hb.block _ (lt_of_heap Gn.out)).trans Gn.out)
    replace B1 := Lib.hid (below_then B1.out hb)
    clear hb
    replace Gn := Lib.hid (keepAl (o' := .cells (wcells Q) 26) Gn.out)
    replace B1 := Lib.hid (below_al B1.out (.cells (wcells Q) 26))
    have Gq := Lib.hid (alloc_new (w2) (.cells (wcells Q) 26))
    replace HB := Lib.hid (below_al HB.out (.cells (wcells Q) 26))
    replace Gn := Lib.hid (keepAl (o' := .cells (wcells R) 26) Gn.out)
    replace B1 := Lib.hid (below_al B1.out (.cells (wcells R) 26))
    replace Gq := Lib.hid (keepAl (o' := .cells (wcells R) 26) Gq.out)
    have Gr := Lib.hid (alloc_new' (w := (w2).alloc (.cells (wcells Q) 26)) (n := w2.heap.size + 1) (.cells (wcells R) 26) (by simp))
    replace HB := Lib.hid (below_al HB.out (.cells (wcells R) 26))
    have cGn := cell_row Gn.out
    have cGq := cell_row Gq.out
    have cGr := cell_row Gr.out
    go_wp2
    clear cGn cGq cGr
    go_loopw [7] (fun s7 wr => ∃ i : Nat, s7 = .int .i64 i ∧ i ≤ 128 ∧ Hid (wr.heap[w2.heap.size]? = some (.cells (wcells Q) 26 (0, 0))) ∧ Hid (Below w.heap.size w wr) ∧ Hid (Below wD.heap.size wD wr)) (fun s7 _ => 128 - (intOf s7).toNat)
    case atStart => exact ⟨0, rfl, by omega, Gq, HB, B1⟩
    case round =>
      clear HB B1 Gn Gq Gr
      obtain ⟨i, rfl, hi, Gq, HB, B1⟩ := hrel
      by_cases hlt : i < 128
      · have e1 : (i : Int) < 128 := by omega
        have e0 : (0 : Int) ≤ (i : Int) := by omega
        obtain ⟨T, hT⟩ : ∃ T, T = 127 - i := ⟨_, rfl⟩
        have hTs : IntKind.i64.wrap (127 - (i : Int)) = (T : Int) := by rw [IntWalk.i64_in _ (by omega)]; omega
        have hc := (B1.out.cell (p := ⟨b, o + i, none⟩) HBL.out).trans (HC.out i hlt)
        have T5 := Lib.hid (fun v w' h => S5.out v T w' (by omega) h)
        have T6 := Lib.hid (fun v w' h => S6.out v T w' h)
        have hdb := HD.out i hlt
        rw [← hT] at hdb
        rw [hdb] at T6
        have hd1 := HD1.out i
        have HLT := Lib.hid hlt
        obtain ⟨g, hg⟩ : ∃ g, g = rdgN n i := ⟨_, rfl⟩
        rw [← hg] at hc T6 hd1
        have hx : ∀ x : Ext wr.heap.size wr, x.val.cell? ⟨b, o + i, none⟩ = some (.int .i64 (g : Int)) := ext_cell hc (Nat.lt_of_lt_of_le HBL.out B1.out.size)
        obtain ⟨N, hN⟩ : ∃ N, N = Q / P2 T := ⟨_, rfl⟩
        rw [← hN] at T5 T6
        clear hT hdb hg hN hlt hi hc
        obtain ⟨F, hF⟩ : ∃ F, F = ((g : Int) == 1) := ⟨_, rfl⟩
        rw [← hF] at T6
        rcases (show (g = 0 ∧ F = false) ∨ (g = 1 ∧ F = true) by
          rcases (show g = 0 ∨ g = 1 by omega) with h | h
          · left; exact ⟨h, by rw [hF, h]; rfl⟩
          · right; exact ⟨h, by rw [hF, h]; rfl⟩) with ⟨rfl, rfl⟩ | ⟨rfl, rfl⟩
        · clear hd1 hF
          go_upto_region 10 with fail
          have xGq := ext_row (B := wr.heap.size) Gq.out (lt_of_heap Gq.out)
          apply wp_region_loose (looseR [_, _, _, _, _, _, _, _, _, _, _, _, _, _, _, _, _, _, _, _, _, _, _, _, _, _]) (pureL [])
          · kernel_rfl
          · kernel_rfl
          · kernel_rfl
          · exact allocs_ok [] rfl (by intro T hT; cases hT)
          · exact looseR_st _
          · change wpL _ _ _ _ _ _ _ 26 0 _ _
            refine wpL_calm wr rfl rfl rfl rfl (fun K hK K0 hK0 => ?_)
            go_simp
            first | refine hK _ _ rfl rfl ?_ | refine hK0 _ rfl ?_
            clear hK hK0 K K0
            refine wpL_calm wr rfl rfl rfl rfl (fun K hK K0 hK0 => ?_)
            go_simp
            first | refine hK _ _ rfl rfl ?_ | refine hK0 _ rfl ?_
            clear hK hK0 K K0
            refine wpL_calm wr rfl rfl rfl rfl (fun K hK K0 hK0 => ?_)
            go_simp
            first | refine hK _ _ rfl rfl ?_ | refine hK0 _ rfl ?_
            clear hK hK0 K K0
            refine wpL_calm wr rfl rfl rfl rfl (fun K hK K0 hK0 => ?_)
            go_simp
            first | refine hK _ _ rfl rfl ?_ | refine hK0 _ rfl ?_
            clear hK hK0 K K0
            refine wpL_calm wr rfl rfl rfl rfl (fun K hK K0 hK0 => ?_)
            go_simp
            first | refine hK _ _ rfl rfl ?_ | refine hK0 _ rfl ?_
            clear hK hK0 K K0
            refine wpL_calm wr rfl rfl rfl rfl (fun K hK K0 hK0 => ?_)
            go_simp
            first | refine hK _ _ rfl rfl ?_ | refine hK0 _ rfl ?_
            clear hK hK0 K K0
            refine wpL_calm wr rfl rfl rfl rfl (fun K hK K0 hK0 => ?_)
            go_simp
            first | refine hK _ _ rfl rfl ?_ | refine hK0 _ rfl ?_
            clear hK hK0 K K0
            refine wpL_calm wr rfl rfl rfl rfl (fun K hK K0 hK0 => ?_)
            go_simp
            first | refine hK _ _ rfl rfl ?_ | refine hK0 _ rfl ?_
            clear hK hK0 K K0
            refine wpL_calm wr rfl rfl rfl rfl (fun K hK K0 hK0 => ?_)
            go_simp
            first | refine hK _ _ rfl rfl ?_ | refine hK0 _ rfl ?_
            clear hK hK0 K K0
            refine wpL_calm wr rfl rfl rfl rfl (fun K hK K0 hK0 => ?_)
            go_simp
            first | refine hK _ _ rfl rfl ?_ | refine hK0 _ rfl ?_
            clear hK hK0 K K0
            refine wpL_calm wr rfl rfl rfl rfl (fun K hK K0 hK0 => ?_)
            go_simp
            first | refine hK _ _ rfl rfl ?_ | refine hK0 _ rfl ?_
            clear hK hK0 K K0
            refine wpL_calm wr rfl rfl rfl rfl (fun K hK K0 hK0 => ?_)
            go_simp
            first | refine hK _ _ rfl rfl ?_ | refine hK0 _ rfl ?_
            clear hK hK0 K K0
            refine wpL_calm wr rfl rfl rfl rfl (fun K hK K0 hK0 => ?_)
            go_simp
            first | refine hK _ _ rfl rfl ?_ | refine hK0 _ rfl ?_
            clear hK hK0 K K0
            refine wpL_calm wr rfl rfl rfl rfl (fun K hK K0 hK0 => ?_)
            go_simp
            first | refine hK _ _ rfl rfl ?_ | refine hK0 _ rfl ?_
            clear hK hK0 K K0
            refine wpL_calm wr rfl rfl rfl rfl (fun K hK K0 hK0 => ?_)
            go_simp
            first | refine hK _ _ rfl rfl ?_ | refine hK0 _ rfl ?_
            clear hK hK0 K K0
            refine wpL_calm wr rfl rfl rfl rfl (fun K hK K0 hK0 => ?_)
            go_simp
            first | refine hK _ _ rfl rfl ?_ | refine hK0 _ rfl ?_
            clear hK hK0 K K0
            refine wpL_calm wr rfl rfl rfl rfl (fun K hK K0 hK0 => ?_)
            go_simp
            first | refine hK _ _ rfl rfl ?_ | refine hK0 _ rfl ?_
            clear hK hK0 K K0
            refine wpL_calm wr rfl rfl rfl rfl (fun K hK K0 hK0 => ?_)
            go_simp
            first | refine hK _ _ rfl rfl ?_ | refine hK0 _ rfl ?_
            clear hK hK0 K K0
            refine wpL_calm wr rfl rfl rfl rfl (fun K hK K0 hK0 => ?_)
            go_simp
            first | refine hK _ _ rfl rfl ?_ | refine hK0 _ rfl ?_
            clear hK hK0 K K0
            refine wpL_call (Lft.big Q) (big_some w _) rfl rfl rfl rfl (by first | rfl | go_simp) rfl (fun w' hC hF => ?_) (fun v19 hv19 => ?_)
            · obtain ⟨x, rfl⟩ := hC
              go_simp
              go_at_call 32
              exact gives_loose (S4.out _)
            refine wpL_calm wr rfl rfl rfl rfl (fun K hK K0 hK0 => ?_)
            go_simp
            first | refine hK _ _ rfl rfl ?_ | refine hK0 _ rfl ?_
            clear hK hK0 K K0
            refine wpL_calm wr rfl rfl rfl rfl (fun K hK K0 hK0 => ?_)
            go_simp
            first | refine hK _ _ rfl rfl ?_ | refine hK0 _ rfl ?_
            clear hK hK0 K K0
            refine wpL_call (Lft.big N) (big_some w _) rfl rfl rfl rfl (by first | rfl | go_simp) rfl (fun w' hC hF => ?_) (fun v22 hv22 => ?_)
            · obtain ⟨x, rfl⟩ := hC
              go_simp
              go_at_call 34
              exact gives_loose (T5.out _ _ (hF 19 _ 61 rfl rfl rfl rfl (by decide)))
            refine wpL_call (Lft.val (.bool false)) (val_some wr _) rfl rfl rfl rfl (by first | rfl | go_simp) rfl (fun w' hC hF => ?_) (fun v23 hv23 => ?_)
            · obtain ⟨x, rfl⟩ := hC
              go_simp
              go_at_call 33
              exact val_loose (T6.out _ _ (hF 22 _ 64 rfl rfl rfl rfl (by decide)))
            obtain ⟨_, rfl⟩ := hv23
            refine wpL_calm wr rfl rfl rfl rfl (fun K hK K0 hK0 => ?_)
            go_simp
            first | refine hK _ _ rfl rfl ?_ | refine hK0 _ rfl ?_
            clear hK hK0 K K0
            refine wpL_calm wr rfl rfl rfl rfl (fun K hK K0 hK0 => ?_)
            go_simp
            first | refine hK _ _ rfl rfl ?_ | refine hK0 _ rfl ?_
            clear hK hK0 K K0
            refine wpL_nil (endL [] rfl (by intro q hq; cases hq) (fun w3 hb hst hap hfin => ?_))
            replace HB := Lib.hid (below_then HB.out hb)
            replace B1 := Lib.hid (below_then B1.out hb)
            replace Gq := Lib.hid ((hb.block _ (lt_of_heap Gq.out)).trans Gq.out)
            clear hb hst hap hfin xGq
            go_wp2
            go_roundw
            case rel => exact ⟨i + 1, by go_num, HLT.out, Gq, HB, B1⟩
            case measure => have := HLT.out; simp [intOf]; omega
        · clear hd1 hF
          go_upto_region 10 with fail
          have xGq := ext_row (B := wr.heap.size) Gq.out (lt_of_heap Gq.out)
          apply wp_region_loose (looseR [_, _, _, _, _, _, _, _, _, _, _, _, _, _, _, _, _, _, _, _, _, _, _, _, _, _]) (pureL [])
          · kernel_rfl
          · kernel_rfl
          · kernel_rfl
          · exact allocs_ok [] rfl (by intro T hT; cases hT)
          · exact looseR_st _
          · change wpL _ _ _ _ _ _ _ 26 0 _ _
            refine wpL_calm wr rfl rfl rfl rfl (fun K hK K0 hK0 => ?_)
            go_simp
            first | refine hK _ _ rfl rfl ?_ | refine hK0 _ rfl ?_
            clear hK hK0 K K0
            refine wpL_calm wr rfl rfl rfl rfl (fun K hK K0 hK0 => ?_)
            go_simp
            first | refine hK _ _ rfl rfl ?_ | refine hK0 _ rfl ?_
            clear hK hK0 K K0
            refine wpL_calm wr rfl rfl rfl rfl (fun K hK K0 hK0 => ?_)
            go_simp
            first | refine hK _ _ rfl rfl ?_ | refine hK0 _ rfl ?_
            clear hK hK0 K K0
            refine wpL_calm wr rfl rfl rfl rfl (fun K hK K0 hK0 => ?_)
            go_simp
            first | refine hK _ _ rfl rfl ?_ | refine hK0 _ rfl ?_
            clear hK hK0 K K0
            refine wpL_calm wr rfl rfl rfl rfl (fun K hK K0 hK0 => ?_)
            go_simp
            first | refine hK _ _ rfl rfl ?_ | refine hK0 _ rfl ?_
            clear hK hK0 K K0
            refine wpL_calm wr rfl rfl rfl rfl (fun K hK K0 hK0 => ?_)
            go_simp
            first | refine hK _ _ rfl rfl ?_ | refine hK0 _ rfl ?_
            clear hK hK0 K K0
            refine wpL_calm wr rfl rfl rfl rfl (fun K hK K0 hK0 => ?_)
            go_simp
            first | refine hK _ _ rfl rfl ?_ | refine hK0 _ rfl ?_
            clear hK hK0 K K0
            refine wpL_calm wr rfl rfl rfl rfl (fun K hK K0 hK0 => ?_)
            go_simp
            first | refine hK _ _ rfl rfl ?_ | refine hK0 _ rfl ?_
            clear hK hK0 K K0
            refine wpL_calm wr rfl rfl rfl rfl (fun K hK K0 hK0 => ?_)
            go_simp
            first | refine hK _ _ rfl rfl ?_ | refine hK0 _ rfl ?_
            clear hK hK0 K K0
            refine wpL_calm wr rfl rfl rfl rfl (fun K hK K0 hK0 => ?_)
            go_simp
            first | refine hK _ _ rfl rfl ?_ | refine hK0 _ rfl ?_
            clear hK hK0 K K0
            refine wpL_calm wr rfl rfl rfl rfl (fun K hK K0 hK0 => ?_)
            go_simp
            first | refine hK _ _ rfl rfl ?_ | refine hK0 _ rfl ?_
            clear hK hK0 K K0
            refine wpL_calm wr rfl rfl rfl rfl (fun K hK K0 hK0 => ?_)
            go_simp
            first | refine hK _ _ rfl rfl ?_ | refine hK0 _ rfl ?_
            clear hK hK0 K K0
            refine wpL_calm wr rfl rfl rfl rfl (fun K hK K0 hK0 => ?_)
            go_simp
            first | refine hK _ _ rfl rfl ?_ | refine hK0 _ rfl ?_
            clear hK hK0 K K0
            refine wpL_calm wr rfl rfl rfl rfl (fun K hK K0 hK0 => ?_)
            go_simp
            first | refine hK _ _ rfl rfl ?_ | refine hK0 _ rfl ?_
            clear hK hK0 K K0
            refine wpL_calm wr rfl rfl rfl rfl (fun K hK K0 hK0 => ?_)
            go_simp
            first | refine hK _ _ rfl rfl ?_ | refine hK0 _ rfl ?_
            clear hK hK0 K K0
            refine wpL_calm wr rfl rfl rfl rfl (fun K hK K0 hK0 => ?_)
            go_simp
            first | refine hK _ _ rfl rfl ?_ | refine hK0 _ rfl ?_
            clear hK hK0 K K0
            refine wpL_calm wr rfl rfl rfl rfl (fun K hK K0 hK0 => ?_)
            go_simp
            first | refine hK _ _ rfl rfl ?_ | refine hK0 _ rfl ?_
            clear hK hK0 K K0
            refine wpL_calm wr rfl rfl rfl rfl (fun K hK K0 hK0 => ?_)
            go_simp
            first | refine hK _ _ rfl rfl ?_ | refine hK0 _ rfl ?_
            clear hK hK0 K K0
            refine wpL_calm wr rfl rfl rfl rfl (fun K hK K0 hK0 => ?_)
            go_simp
            first | refine hK _ _ rfl rfl ?_ | refine hK0 _ rfl ?_
            clear hK hK0 K K0
            refine wpL_call (Lft.big Q) (big_some w _) rfl rfl rfl rfl (by first | rfl | go_simp) rfl (fun w' hC hF => ?_) (fun v19 hv19 => ?_)
            · obtain ⟨x, rfl⟩ := hC
              go_simp
              go_at_call 32
              exact gives_loose (S4.out _)
            refine wpL_calm wr rfl rfl rfl rfl (fun K hK K0 hK0 => ?_)
            go_simp
            first | refine hK _ _ rfl rfl ?_ | refine hK0 _ rfl ?_
            clear hK hK0 K K0
            refine wpL_calm wr rfl rfl rfl rfl (fun K hK K0 hK0 => ?_)
            go_simp
            first | refine hK _ _ rfl rfl ?_ | refine hK0 _ rfl ?_
            clear hK hK0 K K0
            refine wpL_call (Lft.big N) (big_some w _) rfl rfl rfl rfl (by first | rfl | go_simp) rfl (fun w' hC hF => ?_) (fun v22 hv22 => ?_)
            · obtain ⟨x, rfl⟩ := hC
              go_simp
              go_at_call 34
              exact gives_loose (T5.out _ _ (hF 19 _ 61 rfl rfl rfl rfl (by decide)))
            refine wpL_call (Lft.val (.bool true)) (val_some wr _) rfl rfl rfl rfl (by first | rfl | go_simp) rfl (fun w' hC hF => ?_) (fun v23 hv23 => ?_)
            · obtain ⟨x, rfl⟩ := hC
              go_simp
              go_at_call 33
              exact val_loose (T6.out _ _ (hF 22 _ 64 rfl rfl rfl rfl (by decide)))
            obtain ⟨_, rfl⟩ := hv23
            refine wpL_calm wr rfl rfl rfl rfl (fun K hK K0 hK0 => ?_)
            go_simp
            first | refine hK _ _ rfl rfl ?_ | refine hK0 _ rfl ?_
            clear hK hK0 K K0
            refine wpL_calm wr rfl rfl rfl rfl (fun K hK K0 hK0 => ?_)
            go_simp
            first | refine hK _ _ rfl rfl ?_ | refine hK0 _ rfl ?_
            clear hK hK0 K K0
            refine wpL_nil (endL [] rfl (by intro q hq; cases hq) (fun w4 hb hst hap hfin => ?_))
            replace HB := Lib.hid (below_then HB.out hb)
            replace B1 := Lib.hid (below_then B1.out hb)
            replace Gq := Lib.hid ((hb.block _ (lt_of_heap Gq.out)).trans Gq.out)
            clear hb hst hap hfin xGq
            go_wp2
            go_roundw
            case rel => exact ⟨i + 1, by go_num, HLT.out, Gq, HB, B1⟩
            case measure => have := HLT.out; simp [intOf]; omega
      · obtain rfl : i = 128 := by omega
        clear hlt hi
        go_wp2_with fail
        refine (SA.out _).mono ?_
        rintro e w5 ⟨rfl, hb⟩
        replace HB := Lib.hid (below_then HB.out hb)
        clear hb
        go_wp2
        go_ret
        exact ⟨rfl, HB.out⟩
  · have S1 := Lib.hid (fun w' => digitsR_no n hn hm w')
    rw [decide_eq_false hm] at S2
    clear hn hm
    go_enter Try.func27, Try.ntmps27
    have HB := Lib.hid (Below.refl w.heap.size w)
    have Gn := Lib.hid (alloc_new (w) (.cells (wcells n) 26))
    replace HB := Lib.hid (below_al HB.out (.cells (wcells n) 26))
    have cGn := cell_row Gn.out
    go_wp2_with fail
    refine (S1.out _).mono ?_
    rintro e w6 ⟨rfl, hb⟩
    clear cGn
    replace HB := Lib.hid (below_then HB.out hb)
    replace Gn := Lib.hid ((hb.block _ (lt_of_heap Gn.out)).trans Gn.out)
    clear hb
    have cGn := cell_row Gn.out
    go_wp2_with fail
    refine (S2.out _).mono ?_
    rintro e w7 ⟨rfl, hb⟩
    clear cGn
    replace HB := Lib.hid (below_then HB.out hb)
    replace Gn := Lib.hid ((hb.block _ (lt_of_heap Gn.out)).trans Gn.out)
    clear hb
    have cGn := cell_row Gn.out
    go_wp2_with fail
    refine (SA.out _).mono ?_
    rintro e w8 ⟨rfl, hb⟩
    clear cGn
    replace HB := Lib.hid (below_then HB.out hb)
    replace Gn := Lib.hid ((hb.block _ (lt_of_heap Gn.out)).trans Gn.out)
    clear hb
    have cGn := cell_row Gn.out
    go_wp2
    go_ret
    exact ⟨rfl, HB.out⟩
end Go.Proofs.Ytenkaobgoknlhaa
