/- THE WALK of the law on sums and differences. -/
import Derived.Test.YtbjofgoimkmbfaaLaw02b
import Derived.Test.YtbjofgoimkmbfaaWide10
import Derived.Deep.DeepCutAuto
import Derived.Deep.RegionHeld3
import Derived.Deep.DrawnRows
namespace Go.Proofs.Ytbjofgoimkmbfaa
open Go Go.RowKit

theorem cmp_below (a b : Nat) : decide (cmpN a b < 0) = decide (a < b) := by
  unfold cmpN
  split
  · simp; assumption
  · split <;> simp <;> omega
theorem sub_back {a b : Nat} (ha : a < M) (hb : b < M) : (subN a b + b) % M = a := by
  unfold subN
  rw [Nat.mod_add_mod, Nat.sub_add_cancel (by omega), Nat.add_mod_right, Nat.mod_eq_of_lt ha]

attribute [local go_sem ↓] Go.wp_at_zero Go.wp_at_succ
set_option maxHeartbeats 4000000 in
theorem wideAdds_any (a b : Nat) (w : World) (ha : a < M) (hb : b < M) :
    Calls Try.prog 9 #[wv a, wv b] w fun e w' => e = .returned (.bool true) ∧ Below w.heap.size w w' := by
  have hsa := small_M ha
  have hsb := small_M hb
  have hss : a + b < BIG := by
    have h1 : M + M = P2 513 := by rw [M_eq, show 513 = 512 + 1 from rfl, P2_add, show P2 1 = 2 by rw [P2_eq]]; omega
    have h2 : P2 513 < BIG := P2_small (by omega)
    omega
  have hds : subN a b + b < BIG := by
    have := subN_lt a b
    have h1 : M + M = P2 513 := by rw [M_eq, show 513 = 512 + 1 from rfl, P2_add, show P2 1 = 2 by rw [P2_eq]]; omega
    have h2 : P2 513 < BIG := P2_small (by omega)
    omega
  have hdM := subN_lt a b
  have hbk := sub_back ha hb
  obtain ⟨T, hT⟩ : ∃ T, T = (a + b) % M := ⟨_, rfl⟩
  obtain ⟨D, hD⟩ : ∃ D, D = subN a b := ⟨_, rfl⟩
  obtain ⟨ov, hov⟩ : ∃ o, o = decide (M ≤ a + b) := ⟨_, rfl⟩
  obtain ⟨C, hC⟩ : ∃ C, C = cmpN a b := ⟨_, rfl⟩
  have hlt : decide (a < b) = decide (C < 0) := by rw [hC, cmp_below]
  rw [← hD] at hds hdM hbk
  have HMa := Lib.hid ha
  have HMb := Lib.hid hb
  have S1 : Hid (∀ w' : World, Calls Try.prog 75 #[wv a, wv b] w' fun e w'' => e = .returned (.tuple #[wv T, .bool ov]) ∧ Below w'.heap.size w' w'') := Lib.hid fun w' => by
    have := add_w a b ha hb w'
    rwa [← hT, ← hov] at this
  have S2 : Hid (∀ w' : World, Calls Try.prog 76 #[wv a, wv b] w' fun e w'' => e = .returned (.tuple #[wv D, .bool (decide (C < 0))]) ∧ Below w'.heap.size w' w'') := Lib.hid fun w' => by
    have := sub_w a b ha hb w'
    rwa [← hD, hlt] at this
  have S3 := Lib.hid (fun (v v2 : Value) (w' : World) h h' => add_any v v2 a b w' hsa hsb h h')
  have S4 : Hid (∀ (v : Value) (w' : World), IsBig w' v (a + b) → Calls Try.prog 41 #[v] w' fun e w'' => e = .returned (.tuple #[wv T, .bool ov]) ∧ Below w'.heap.size w' w'') := Lib.hid fun v w' h => by
    have := wide_any v _ w' hss h
    rwa [← hT, ← hov] at this
  have S5 : Hid (∀ (v v2 : Value) (w' : World), IsBig w' v a → IsBig w' v2 b → Calls Try.prog 64 #[v, v2] w' fun e w'' => e = .returned (.int .i64 C) ∧ Below w'.heap.size w' w'') := Lib.hid fun v v2 w' h h' => by
    have := cmp_any v v2 a b w' hsa hsb h h'
    rwa [← hC] at this
  have S6 : Hid (∀ w' : World, Calls Try.prog 77 #[wv a, wv b] w' fun e w'' => e = .returned (.int .i64 C) ∧ Below w'.heap.size w' w'') := Lib.hid fun w' => by
    have := cmp_w a b ha hb w'
    rwa [← hC] at this
  have SBd := Lib.hid (fun w' => big_any D hdM w')
  have S7 := Lib.hid (fun (v v2 : Value) (w' : World) h h' => add_any v v2 D b w' (small_M hdM) hsb h h')
  have S8 : Hid (∀ (v : Value) (w' : World), IsBig w' v (D + b) → Calls Try.prog 41 #[v] w' fun e w'' => e = .returned (.tuple #[wv a, .bool (decide (M ≤ D + b))]) ∧ Below w'.heap.size w' w'') := Lib.hid fun v w' h => by
    have := wide_any v _ w' hds h
    rwa [hbk] at this
  have SA := Lib.hid (fun w' => awake02_any w')
  obtain ⟨f2, hf2⟩ : ∃ f, f = decide (M ≤ D + b) := ⟨_, rfl⟩
  rw [← hf2] at S8
  obtain ⟨AB, hAB⟩ : ∃ X, X = a + b := ⟨_, rfl⟩
  obtain ⟨DB, hDB⟩ : ∃ X, X = D + b := ⟨_, rfl⟩
  rw [← hAB] at S3 S4
  rw [← hDB] at S7 S8
  clear ha hb hsa hsb hss hds hdM hbk hT hD hov hC hlt hf2 hAB hDB
  go_enter Try.func9, Try.ntmps9
  go_upto_region 1 with fail
  have Ga : Hid (((w.alloc (.cells (wcells a) 31)).alloc (.cells (wcells b) 31)).heap[w.heap.size]? = some (.cells (wcells a) 31 (0, 0))) := Lib.hid (by rw [alloc_old _ _ _ (by simp), alloc_new])
  have Gb : Hid (((w.alloc (.cells (wcells a) 31)).alloc (.cells (wcells b) 31)).heap[w.heap.size + 1]? = some (.cells (wcells b) 31 (0, 0))) := Lib.hid (by rw [alloc_new' _ (by simp)])
  have HB0 := Lib.hid (below_al (below_al (Below.refl w.heap.size w) (.cells (wcells a) 31)) (.cells (wcells b) 31))
  obtain ⟨w0, hw0⟩ : ∃ w0, w0 = (w.alloc (.cells (wcells a) 31)).alloc (.cells (wcells b) 31) := ⟨_, rfl⟩
  rw [← hw0] at Ga Gb HB0 ⊢
  clear hw0
  go_cut [5, 6] (fun x y wx => IsBig wx x a ∧ IsBig wx y b ∧ wx.heap[w.heap.size]? = some (.cells (wcells a) 31 (0, 0)) ∧ wx.heap[w.heap.size + 1]? = some (.cells (wcells b) 31 (0, 0)) ∧ Below w.heap.size w wx)
  case first =>
    have k0 := cell_row Ga.out
    have k1 := cell_row Gb.out
    have HB := Lib.hid HB0.out.drew
    have HA0 := Lib.hid (show w0.drew.heap[w.heap.size]? = some (.cells (wcells a) 31 (0, 0)) from Ga.out)
    have HA1 := Lib.hid (show w0.drew.heap[w.heap.size + 1]? = some (.cells (wcells b) 31 (0, 0)) from Gb.out)
    go_region_held3 (fun w' => (∀ j, w'.cell? ⟨w.heap.size, j, none⟩ = (wcells a)[j]?) ∧ (∀ j, w'.cell? ⟨w.heap.size + 1, j, none⟩ = (wcells b)[j]?))
      (first
        | go_keep
        | (go_split_ands
           refine ⟨keepRow hb ?_, keepRow hb ?_⟩ <;> assumption))
      ((go_at_call 44
        refine (big_any _ ?hM _).mono ?_
        case hM => first | exact HMa.out | exact HMb.out
        rintro e wA ⟨rA, rfl, hr, hb⟩
        have HB := Lib.hid (below_then HB.out hb)
        (try have RA := Lib.hid (RA.out.below hb))
        (try have RB := Lib.hid (RB.out.below hb))
        have HA0 := Lib.hid ((hb.block _ (lt_of_heap HA0.out)).trans HA0.out)
        have HA1 := Lib.hid ((hb.block _ (lt_of_heap HA1.out)).trans HA1.out)
        first | have RA : Hid (IsBig wA rA a) := Lib.hid hr | have RB : Hid (IsBig wA rA b) := Lib.hid hr))
    all_goals (go_wp2; go_meet; exact ⟨RA.out, RB.out, HA0.out, HA1.out, HB.out⟩)
  case rest =>
    obtain ⟨hx, hy, hga, hgb, hbw⟩ := hcut
    have RX := Lib.hid hx; have RY := Lib.hid hy; have Ga := Lib.hid hga; have Gb := Lib.hid hgb; have HB1 := Lib.hid hbw
    clear hx hy hga hgb hbw
    have c0 := cell_row Ga.out
    have c1 := cell_row Gb.out
    go_wp2_with fail
    refine (S1.out _).mono ?_
    rintro e w1 ⟨rfl, hb⟩
    have HB2 := Lib.hid (below_then HB1.out hb)
    have Ga := Lib.hid ((hb.block _ (lt_of_heap Ga.out)).trans Ga.out)
    have Gb := Lib.hid ((hb.block _ (lt_of_heap Gb.out)).trans Gb.out)
    have RX := Lib.hid (RX.out.below hb)
    have RY := Lib.hid (RY.out.below hb)
    clear hb
    clear c0 c1
    have Ga := Lib.hid (keepAl (o' := .cells (wcells T) 31) Ga.out)
    have Gb := Lib.hid (keepAl (o' := .cells (wcells T) 31) Gb.out)
    have RX := Lib.hid (RX.out.below (below_al (Below.refl w1.heap.size w1) (.cells (wcells T) 31)))
    have RY := Lib.hid (RY.out.below (below_al (Below.refl w1.heap.size w1) (.cells (wcells T) 31)))
    have Gs := Lib.hid (alloc_new w1 (.cells (wcells T) 31))
    have HB3 := Lib.hid (below_al HB2.out (.cells (wcells T) 31))
    have c0 := cell_row Ga.out
    have c1 := cell_row Gb.out
    go_wp2_with fail
    refine (S2.out _).mono ?_
    rintro e w2 ⟨rfl, hb⟩
    have HB4 := Lib.hid (below_then HB3.out hb)
    have Ga := Lib.hid ((hb.block _ (lt_of_heap Ga.out)).trans Ga.out)
    have Gb := Lib.hid ((hb.block _ (lt_of_heap Gb.out)).trans Gb.out)
    have Gs := Lib.hid ((hb.block _ (lt_of_heap Gs.out)).trans Gs.out)
    have RX := Lib.hid (RX.out.below hb)
    have RY := Lib.hid (RY.out.below hb)
    clear hb
    clear c0 c1
    have Ga := Lib.hid (keepAl (o' := .cells (wcells D) 31) Ga.out)
    have Gb := Lib.hid (keepAl (o' := .cells (wcells D) 31) Gb.out)
    have Gs := Lib.hid (keepAl (o' := .cells (wcells D) 31) Gs.out)
    have RX := Lib.hid (RX.out.below (below_al (Below.refl w2.heap.size w2) (.cells (wcells D) 31)))
    have RY := Lib.hid (RY.out.below (below_al (Below.refl w2.heap.size w2) (.cells (wcells D) 31)))
    have Gd := Lib.hid (alloc_new w2 (.cells (wcells D) 31))
    have HB5 := Lib.hid (below_al HB4.out (.cells (wcells D) 31))
    go_wp2_with fail
    refine (S3.out _ _ _ RX.out RY.out).mono ?_
    rintro e w3 ⟨r3, rfl, hr, hb⟩
    have HB6 := Lib.hid (below_then HB5.out hb)
    have Rr3 := Lib.hid hr
    have Ga := Lib.hid ((hb.block _ (lt_of_heap Ga.out)).trans Ga.out)
    have Gb := Lib.hid ((hb.block _ (lt_of_heap Gb.out)).trans Gb.out)
    have Gs := Lib.hid ((hb.block _ (lt_of_heap Gs.out)).trans Gs.out)
    have Gd := Lib.hid ((hb.block _ (lt_of_heap Gd.out)).trans Gd.out)
    have RX := Lib.hid (RX.out.below hb)
    have RY := Lib.hid (RY.out.below hb)
    clear hr hb
    go_wp2_with fail
    refine (S4.out _ _ Rr3.out).mono ?_
    rintro e w4 ⟨rfl, hb⟩
    have HB7 := Lib.hid (below_then HB6.out hb)
    have Ga := Lib.hid ((hb.block _ (lt_of_heap Ga.out)).trans Ga.out)
    have Gb := Lib.hid ((hb.block _ (lt_of_heap Gb.out)).trans Gb.out)
    have Gs := Lib.hid ((hb.block _ (lt_of_heap Gs.out)).trans Gs.out)
    have Gd := Lib.hid ((hb.block _ (lt_of_heap Gd.out)).trans Gd.out)
    have RX := Lib.hid (RX.out.below hb)
    have RY := Lib.hid (RY.out.below hb)
    clear hb
    have Ga := Lib.hid (keepAl (o' := .cells (wcells T) 31) Ga.out)
    have Gb := Lib.hid (keepAl (o' := .cells (wcells T) 31) Gb.out)
    have Gs := Lib.hid (keepAl (o' := .cells (wcells T) 31) Gs.out)
    have Gd := Lib.hid (keepAl (o' := .cells (wcells T) 31) Gd.out)
    have RX := Lib.hid (RX.out.below (below_al (Below.refl w4.heap.size w4) (.cells (wcells T) 31)))
    have RY := Lib.hid (RY.out.below (below_al (Below.refl w4.heap.size w4) (.cells (wcells T) 31)))
    have Gw := Lib.hid (alloc_new w4 (.cells (wcells T) 31))
    have HB8 := Lib.hid (below_al HB7.out (.cells (wcells T) 31))
    go_wp2_with fail
    refine (S5.out _ _ _ RX.out RY.out).mono ?_
    rintro e w5 ⟨rfl, hb⟩
    have HB9 := Lib.hid (below_then HB8.out hb)
    have Ga := Lib.hid ((hb.block _ (lt_of_heap Ga.out)).trans Ga.out)
    have Gb := Lib.hid ((hb.block _ (lt_of_heap Gb.out)).trans Gb.out)
    have Gs := Lib.hid ((hb.block _ (lt_of_heap Gs.out)).trans Gs.out)
    have Gd := Lib.hid ((hb.block _ (lt_of_heap Gd.out)).trans Gd.out)
    have Gw := Lib.hid ((hb.block _ (lt_of_heap Gw.out)).trans Gw.out)
    have RY := Lib.hid (RY.out.below hb)
    clear hb
    have c0 := cell_row Ga.out
    have c1 := cell_row Gb.out
    have c2 := cell_row Gs.out
    have c3 := cell_row Gw.out
    go_wp2_with fail
    refine (S6.out _).mono ?_
    rintro e w6 ⟨rfl, hb⟩
    have HB10 := Lib.hid (below_then HB9.out hb)
    have Ga := Lib.hid ((hb.block _ (lt_of_heap Ga.out)).trans Ga.out)
    have Gd := Lib.hid ((hb.block _ (lt_of_heap Gd.out)).trans Gd.out)
    have RY := Lib.hid (RY.out.below hb)
    clear hb
    clear c0 c1 c2 c3
    have c0 := cell_row Gd.out
    go_wp2_with fail
    refine (SBd.out _).mono ?_
    rintro e w7 ⟨r7, rfl, hr, hb⟩
    have HB11 := Lib.hid (below_then HB10.out hb)
    have Rr7 := Lib.hid hr
    have Ga := Lib.hid ((hb.block _ (lt_of_heap Ga.out)).trans Ga.out)
    have RY := Lib.hid (RY.out.below hb)
    clear hr hb
    clear c0
    go_wp2_with fail
    refine (S7.out _ _ _ Rr7.out RY.out).mono ?_
    rintro e w8 ⟨r8, rfl, hr, hb⟩
    have HB12 := Lib.hid (below_then HB11.out hb)
    have Rr8 := Lib.hid hr
    have Ga := Lib.hid ((hb.block _ (lt_of_heap Ga.out)).trans Ga.out)
    clear hr hb
    go_wp2_with fail
    refine (S8.out _ _ Rr8.out).mono ?_
    rintro e w9 ⟨rfl, hb⟩
    have HB13 := Lib.hid (below_then HB12.out hb)
    have Ga := Lib.hid ((hb.block _ (lt_of_heap Ga.out)).trans Ga.out)
    clear hb
    have Ga := Lib.hid (keepAl (o' := .cells (wcells a) 31) Ga.out)
    have Gk := Lib.hid (alloc_new w9 (.cells (wcells a) 31))
    have HB14 := Lib.hid (below_al HB13.out (.cells (wcells a) 31))
    have c0 := cell_row Ga.out
    have c1 := cell_row Gk.out
    go_wp2_with fail
    refine (SA.out _).mono ?_
    rintro e w10 ⟨rfl, hb⟩
    have HB15 := Lib.hid (below_then HB14.out hb)
    clear hb
    go_wp2_with fail
    go_ret
    exact ⟨rfl, HB15.out⟩
end Go.Proofs.Ytbjofgoimkmbfaa
