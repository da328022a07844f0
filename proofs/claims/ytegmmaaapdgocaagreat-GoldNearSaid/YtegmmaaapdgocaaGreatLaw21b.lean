/- THE WALKS of the laws on gold's pairs, and how near they come. -/
import Derived.Test.YtegmmaaapdgocaaGreatLaw21
import Derived.Test.YtegmmaaapdgocaaGreatRef21
import Derived.Test.YtegmmaaapdgocaaGreatK32
import Derived.Test.YtegmmaaapdgocaaGreatK16
import Derived.Deep.RegionHeld3
namespace Go.Proofs.YtegmmaaapdgocaaGreat
open Go Go.RowKit

theorem cmp_self (a : Nat) : cmpN a a = 0 := by unfold cmpN; rw [if_neg (Nat.lt_irrefl a), if_neg (Nat.lt_irrefl a)]
theorem cmp_neg' {a b : Nat} (h : a ≤ b) : cmpN a b ≤ 0 := by
  unfold cmpN
  split
  · decide
  · split
    · omega
    · decide
theorem VG.ofBelow {g : Nat} {w w' : World} (h : IsRom w g) (hb : Below w.heap.size w w') : VG g w w' := (VG.refl h).below hb
attribute [local go_sem ↓] Go.wp_at_zero Go.wp_at_succ
theorem rounds21_any (w : World) : Calls Tryz.prog 52 #[] w fun e w' => e = .returned (.int .i64 5) ∧ w' = w := by
  go_enter Tryz.func52, Tryz.ntmps52
  go_wp2
  go_ret
  exact ⟨rfl, rfl⟩
theorem rounds21_b (w : World) : Calls Tryz.prog 52 #[] w fun e w' => e = .returned (.int .i64 5) ∧ Below w.heap.size w w' :=
  (rounds21_any w).mono fun _ _ ⟨h1, h2⟩ => ⟨h1, h2 ▸ Below.refl _ _⟩
set_option maxRecDepth 100000 in
set_option maxHeartbeats 4000000 in
theorem goldPairs_any (n d : Nat) (k : Int) (w : World) (hn : n < M) (hd : d < M) (_h1 : -9223372036854775808 ≤ k) (_h2 : k ≤ 9223372036854775807) :
    Calls Tryz.prog 11 #[wv n, wv d, .int .i64 k] w fun e w' => e = .returned (.bool true) ∧ Below w.heap.size w w' := by
  clear _h1 _h2
  have S0 := Lib.hid (fun w' => newA_nil w')
  have SR := Lib.hid (fun w' => rounds21_any w')
  have S2 := Lib.hid (fun w' => rmay_any n d hn hd w')
  have SA := Lib.hid (fun w' => awake21_any w')
  by_cases hE : gpE n d k = 0
  · have hk : ¬ (k < 0 ∨ 10 < k) := fun h => by unfold gpE at hE; rw [if_pos h] at hE; cases hE
    have hm : mayN n d = 0 := by unfold gpE at hE; rwa [if_neg hk] at hE
    obtain ⟨j, rfl⟩ := Int.eq_ofNat_of_zero_le (show 0 ≤ k by omega)
    have hj : j ≤ 10 := by omega
    obtain ⟨g1, g2⟩ := gp_bounds hm hj
    have h162 : P2 162 < M := by rw [M_eq]; exact P2_lt (by omega)
    have h161 : P2 161 < P2 162 := P2_lt (by omega)
    have S1 := Lib.hid (fun e g w' hE hI hne => pairA_yes e g n d j hn hd hm hj w' hE hI hne)
    rw [hm] at S2
    have SN := Lib.hid (fun w' => big_any n hn w')
    have SD := Lib.hid (fun w' => big_any d hd w')
    have SP := Lib.hid (fun v v2 w' h h2 => rpair21_any v v2 n d j w' hn hd hm hj h h2)
    have SX := Lib.hid (fun w' => big_any (gpM n d j) (by omega) w')
    have SY := Lib.hid (fun w' => big_any (gpD d j) (by omega) w')
    have SCX := Lib.hid (fun v v2 w' h h2 => cmp_any v v2 (gpM n d j) (gpM n d j) w' (small_of g1 (by decide)) (small_of g1 (by decide)) h h2)
    have SCY := Lib.hid (fun v v2 w' h h2 => cmp_any v v2 (gpD d j) (gpD d j) w' (small_of (Nat.lt_of_le_of_lt g2 h161) (by decide)) (small_of (Nat.lt_of_le_of_lt g2 h161) (by decide)) h h2)
    rw [cmp_self] at SCX SCY
    have b0 : decide ((j : Int) < 0) = false := decide_eq_false (by omega)
    have b1 : decide ((10 : Int) < (j : Int)) = false := decide_eq_false (by omega)
    obtain ⟨X, hX⟩ : ∃ A, A = gpM n d j := ⟨_, rfl⟩
    obtain ⟨Y, hY⟩ : ∃ A, A = gpD d j := ⟨_, rfl⟩
    rw [← hX, ← hY] at S1 SP
    rw [← hX] at SX SCX
    rw [← hY] at SY SCY
    clear hn hd hE hk hm hj g1 g2 h162 h161 hX hY
    go_enter Tryz.func11, Tryz.ntmps11
    have HB := Lib.hid (Below.refl w.heap.size w)
    have Gn := Lib.hid (alloc_new (w) (.cells (wcells n) 24))
    replace HB := Lib.hid (below_al HB.out (.cells (wcells n) 24))
    replace Gn := Lib.hid (keepAl (o' := .cells (wcells d) 24) Gn.out)
    have Gd := Lib.hid (alloc_new' (w := (w).alloc (.cells (wcells n) 24)) (n := w.heap.size + 1) (.cells (wcells d) 24) (by simp))
    replace HB := Lib.hid (below_al HB.out (.cells (wcells d) 24))
    have cGn := cell_row Gn.out
    have cGd := cell_row Gd.out
    go_upto_region 1 with fail
    clear cGn cGd
    obtain ⟨wA, hw⟩ : ∃ wx, wx = ((w).alloc (.cells (wcells n) 24)).alloc (.cells (wcells d) 24) := ⟨_, rfl⟩
    rw [← hw] at Gn Gd HB ⊢
    clear hw
    have HZ := Lib.hid (lt_of_heap Gd.out)
    have cGn := cell_row Gn.out
    have cGd := cell_row Gd.out
    go_wp2_with fail
    refine (S0.out _).mono ?_
    rintro x w1 ⟨e, g, rfl, hen, hb⟩
    clear cGn cGd
    replace HB := Lib.hid (below_then HB.out hb)
    replace Gn := Lib.hid ((hb.block _ (lt_of_heap Gn.out)).trans Gn.out)
    replace Gd := Lib.hid ((hb.block _ (lt_of_heap Gd.out)).trans Gd.out)
    have Ge := Lib.hid hen.eng
    have KR := Lib.hid hen.rom
    have HNE := Lib.hid hen.ne
    have HLE := Lib.hid hen.le
    have HLG := Lib.hid hen.lg
    clear hen hb
    have cGn := cell_row Gn.out
    have cGd := cell_row Gd.out
    have cGe := cell_row Ge.out
    go_wp2_with fail
    refine (SR.out _).mono ?_
    rintro e w2 ⟨rfl, rfl⟩
    clear cGn cGd cGe
    have cGn := cell_row Gn.out
    have cGd := cell_row Gd.out
    have cGe := cell_row Ge.out
    go_wp2_with fail
    refine (S1.out _ _ _ Ge.out KR.out HNE.out).mono ?_
    rintro e w3 ⟨rfl, hv⟩
    clear cGn cGd cGe
    replace Gn := Lib.hid (hv.heap Gn.out (by have := HZ.out; have := HLG.out; have := HNE.out; omega))
    replace Gd := Lib.hid (hv.heap Gd.out (by have := HZ.out; have := HLG.out; have := HNE.out; omega))
    replace Ge := Lib.hid (hv.heap Ge.out (by have := HZ.out; have := HLG.out; have := HNE.out; omega))
    replace HB := Lib.hid (hv.out HB.out (by have := HZ.out; have := HLG.out; have := HNE.out; omega))
    replace KR := Lib.hid hv.rom
    clear hv
    replace Gn := Lib.hid (keepAl (o' := .cells (wcells X) 24) Gn.out)
    replace Gd := Lib.hid (keepAl (o' := .cells (wcells X) 24) Gd.out)
    have Ga := Lib.hid (alloc_new (w3) (.cells (wcells X) 24))
    replace HB := Lib.hid (below_al HB.out (.cells (wcells X) 24))
    replace Gn := Lib.hid (keepAl (o' := .cells (wcells Y) 24) Gn.out)
    replace Gd := Lib.hid (keepAl (o' := .cells (wcells Y) 24) Gd.out)
    replace Ga := Lib.hid (keepAl (o' := .cells (wcells Y) 24) Ga.out)
    have Gb := Lib.hid (alloc_new' (w := (w3).alloc (.cells (wcells X) 24)) (n := w3.heap.size + 1) (.cells (wcells Y) 24) (by simp))
    replace HB := Lib.hid (below_al HB.out (.cells (wcells Y) 24))
    have cGn := cell_row Gn.out
    have cGd := cell_row Gd.out
    have cGa := cell_row Ga.out
    have cGb := cell_row Gb.out
    go_wp2_with fail
    refine (S2.out _).mono ?_
    rintro e w4 ⟨rfl, hb⟩
    clear cGn cGd cGa cGb
    replace HB := Lib.hid (below_then HB.out hb)
    replace Gn := Lib.hid ((hb.block _ (lt_of_heap Gn.out)).trans Gn.out)
    replace Gd := Lib.hid ((hb.block _ (lt_of_heap Gd.out)).trans Gd.out)
    replace Ga := Lib.hid ((hb.block _ (lt_of_heap Ga.out)).trans Ga.out)
    replace Gb := Lib.hid ((hb.block _ (lt_of_heap Gb.out)).trans Gb.out)
    clear hb
    have cGn := cell_row Gn.out
    have cGd := cell_row Gd.out
    have cGa := cell_row Ga.out
    have cGb := cell_row Gb.out
    go_upto_region 10 with fail
    clear cGn cGd cGa cGb
    clear Ge KR
    obtain ⟨w0, hw⟩ : ∃ wx, wx = w4 := ⟨_, rfl⟩
    rw [← hw] at Gn Gd Ga Gb HB ⊢
    clear hw
    obtain ⟨pa, hpa⟩ : ∃ p, p = w3.heap.size := ⟨_, rfl⟩
    obtain ⟨pb, hpb⟩ : ∃ p, p = w3.heap.size + 1 := ⟨_, rfl⟩
    rw [← hpb] at Gb ⊢
    rw [← hpa] at Ga ⊢
    clear hpa hpb
    go_cut [12, 13] (fun x y wx => IsBig wx x X ∧ IsBig wx y Y ∧ wx.heap[pa]? = some (.cells (wcells X) 24 (0, 0)) ∧ wx.heap[pb]? = some (.cells (wcells Y) 24 (0, 0)) ∧ Below w.heap.size w wx)
    case first =>
      have k0 := cell_row Gn.out
      have k1 := cell_row Gd.out
      have HB := Lib.hid HB.out.drew
      have HA0 := Lib.hid (show w0.drew.heap[w.heap.size]? = some (.cells (wcells n) 24 (0, 0)) from Gn.out)
      have HA1 := Lib.hid (show w0.drew.heap[w.heap.size + 1]? = some (.cells (wcells d) 24 (0, 0)) from Gd.out)
      have HA2 := Lib.hid (show w0.drew.heap[pa]? = some (.cells (wcells X) 24 (0, 0)) from Ga.out)
      have HA3 := Lib.hid (show w0.drew.heap[pb]? = some (.cells (wcells Y) 24 (0, 0)) from Gb.out)
      go_region_held3 (fun w' => (∀ j, w'.cell? ⟨w.heap.size, j, none⟩ = (wcells n)[j]?) ∧ (∀ j, w'.cell? ⟨w.heap.size + 1, j, none⟩ = (wcells d)[j]?))
        (first
          | go_keep
          | (go_split_ands
             refine ⟨keepRow hb ?_, keepRow hb ?_⟩ <;> assumption))
        (first
          | (go_at_call 37
             with_reducible refine (SN.out _).mono ?_
             rintro e wX ⟨rX, rfl, hr, hb⟩
             have RA : Hid (IsBig wX rX n) := Lib.hid hr
             have HB := Lib.hid (below_then HB.out hb)
             have HA0 := Lib.hid ((hb.block _ (lt_of_heap HA0.out)).trans HA0.out)
             have HA1 := Lib.hid ((hb.block _ (lt_of_heap HA1.out)).trans HA1.out)
             have HA2 := Lib.hid ((hb.block _ (lt_of_heap HA2.out)).trans HA2.out)
             have HA3 := Lib.hid ((hb.block _ (lt_of_heap HA3.out)).trans HA3.out))
          | (go_at_call 37
             with_reducible refine (SD.out _).mono ?_
             rintro e wX ⟨rX, rfl, hr, hb⟩
             have RB : Hid (IsBig wX rX d) := Lib.hid hr
             have RA := Lib.hid (RA.out.below hb)
             have HB := Lib.hid (below_then HB.out hb)
             have HA0 := Lib.hid ((hb.block _ (lt_of_heap HA0.out)).trans HA0.out)
             have HA1 := Lib.hid ((hb.block _ (lt_of_heap HA1.out)).trans HA1.out)
             have HA2 := Lib.hid ((hb.block _ (lt_of_heap HA2.out)).trans HA2.out)
             have HA3 := Lib.hid ((hb.block _ (lt_of_heap HA3.out)).trans HA3.out))
          | (go_at_call 54
             refine (SP.out _ _ _ RA.out RB.out).mono ?_
             rintro e wX ⟨va, vb, rfl, hva, hvb, hb⟩
             have RX := Lib.hid hva
             have RY := Lib.hid hvb
             have HB := Lib.hid (below_then HB.out hb)
             have HA0 := Lib.hid ((hb.block _ (lt_of_heap HA0.out)).trans HA0.out)
             have HA1 := Lib.hid ((hb.block _ (lt_of_heap HA1.out)).trans HA1.out)
             have HA2 := Lib.hid ((hb.block _ (lt_of_heap HA2.out)).trans HA2.out)
             have HA3 := Lib.hid ((hb.block _ (lt_of_heap HA3.out)).trans HA3.out)))
      all_goals (go_wp2; go_meet; exact ⟨RX.out, RY.out, HA2.out, HA3.out, HB.out⟩)
    case rest =>
      obtain ⟨hx, hy, ha, hb, hbw⟩ := hcut
      have RX := Lib.hid hx; have RY := Lib.hid hy; have HB := Lib.hid hbw
      have Ga := Lib.hid ha; have Gb := Lib.hid hb
      clear hx hy ha hb hbw Gn Gd
      have cGa := cell_row Ga.out
      have cGb := cell_row Gb.out
      go_wp2_with fail
      refine (SX.out _).mono ?_
      rintro e w5 ⟨rp, rfl, hr, hb⟩
      clear cGa cGb
      replace HB := Lib.hid (below_then HB.out hb)
      replace RX := Lib.hid (RX.out.below hb)
      replace RY := Lib.hid (RY.out.below hb)
      replace Ga := Lib.hid ((hb.block _ (lt_of_heap Ga.out)).trans Ga.out)
      replace Gb := Lib.hid ((hb.block _ (lt_of_heap Gb.out)).trans Gb.out)
      have Rp := Lib.hid hr
      clear hr hb
      have cGa := cell_row Ga.out
      have cGb := cell_row Gb.out
      go_wp2_with fail
      refine (SCX.out _ _ _ Rp.out RX.out).mono ?_
      rintro e w6 ⟨rfl, hb⟩
      clear cGa cGb
      replace HB := Lib.hid (below_then HB.out hb)
      replace RX := Lib.hid (RX.out.below hb)
      replace RY := Lib.hid (RY.out.below hb)
      replace Ga := Lib.hid ((hb.block _ (lt_of_heap Ga.out)).trans Ga.out)
      replace Gb := Lib.hid ((hb.block _ (lt_of_heap Gb.out)).trans Gb.out)
      replace Rp := Lib.hid (Rp.out.below hb)
      clear hb
      have cGa := cell_row Ga.out
      have cGb := cell_row Gb.out
      go_wp2_with fail
      refine (SY.out _).mono ?_
      rintro e w7 ⟨rq, rfl, hr, hb⟩
      clear cGa cGb
      replace HB := Lib.hid (below_then HB.out hb)
      replace RY := Lib.hid (RY.out.below hb)
      replace Ga := Lib.hid ((hb.block _ (lt_of_heap Ga.out)).trans Ga.out)
      replace Gb := Lib.hid ((hb.block _ (lt_of_heap Gb.out)).trans Gb.out)
      have Rq := Lib.hid hr
      clear hr hb
      have cGa := cell_row Ga.out
      have cGb := cell_row Gb.out
      go_wp2_with fail
      refine (SCY.out _ _ _ Rq.out RY.out).mono ?_
      rintro e w8 ⟨rfl, hb⟩
      clear cGa cGb
      replace HB := Lib.hid (below_then HB.out hb)
      replace RY := Lib.hid (RY.out.below hb)
      replace Ga := Lib.hid ((hb.block _ (lt_of_heap Ga.out)).trans Ga.out)
      replace Gb := Lib.hid ((hb.block _ (lt_of_heap Gb.out)).trans Gb.out)
      replace Rq := Lib.hid (Rq.out.below hb)
      clear hb
      have cGa := cell_row Ga.out
      have cGb := cell_row Gb.out
      go_wp2_with fail
      refine (SA.out _).mono ?_
      rintro e w9 ⟨rfl, hb⟩
      clear cGa cGb
      replace HB := Lib.hid (below_then HB.out hb)
      replace Ga := Lib.hid ((hb.block _ (lt_of_heap Ga.out)).trans Ga.out)
      replace Gb := Lib.hid ((hb.block _ (lt_of_heap Gb.out)).trans Gb.out)
      clear hb
      have cGa := cell_row Ga.out
      have cGb := cell_row Gb.out
      go_wp2
      go_ret
      exact ⟨rfl, HB.out⟩
  · have S1 := Lib.hid (fun (e : Nat) w' => pairA_no e n d k hn hd hE w')
    unfold gpE at hE S1
    by_cases c0 : k < 0
    · have b0 : decide (k < 0) = true := decide_eq_true c0
      rw [if_pos (Or.inl c0)] at S1
      clear hn hd hE c0 S2
      go_enter Tryz.func11, Tryz.ntmps11
      have HB := Lib.hid (Below.refl w.heap.size w)
      have Gn := Lib.hid (alloc_new (w) (.cells (wcells n) 24))
      replace HB := Lib.hid (below_al HB.out (.cells (wcells n) 24))
      replace Gn := Lib.hid (keepAl (o' := .cells (wcells d) 24) Gn.out)
      have Gd := Lib.hid (alloc_new' (w := (w).alloc (.cells (wcells n) 24)) (n := w.heap.size + 1) (.cells (wcells d) 24) (by simp))
      replace HB := Lib.hid (below_al HB.out (.cells (wcells d) 24))
      have cGn := cell_row Gn.out
      have cGd := cell_row Gd.out
      go_upto_region 1 with fail
      clear cGn cGd
      obtain ⟨wA, hw⟩ : ∃ wx, wx = ((w).alloc (.cells (wcells n) 24)).alloc (.cells (wcells d) 24) := ⟨_, rfl⟩
      rw [← hw] at Gn Gd HB ⊢
      clear hw
      have HZ := Lib.hid (lt_of_heap Gd.out)
      have cGn := cell_row Gn.out
      have cGd := cell_row Gd.out
      go_wp2_with fail
      refine (S0.out _).mono ?_
      rintro x w10 ⟨e, g, rfl, hen, hb⟩
      clear cGn cGd
      replace HB := Lib.hid (below_then HB.out hb)
      replace Gn := Lib.hid ((hb.block _ (lt_of_heap Gn.out)).trans Gn.out)
      replace Gd := Lib.hid ((hb.block _ (lt_of_heap Gd.out)).trans Gd.out)
      have Ge := Lib.hid hen.eng
      have KR := Lib.hid hen.rom
      have HNE := Lib.hid hen.ne
      have HLE := Lib.hid hen.le
      have HLG := Lib.hid hen.lg
      clear hen hb
      have cGn := cell_row Gn.out
      have cGd := cell_row Gd.out
      have cGe := cell_row Ge.out
      go_wp2_with fail
      refine (SR.out _).mono ?_
      rintro e w11 ⟨rfl, rfl⟩
      clear cGn cGd cGe
      have cGn := cell_row Gn.out
      have cGd := cell_row Gd.out
      go_wp2_with fail
      refine (S1.out _ _).mono ?_
      rintro e w12 ⟨rfl, hb⟩
      clear cGn cGd
      replace HB := Lib.hid (below_then HB.out hb)
      replace Gn := Lib.hid ((hb.block _ (lt_of_heap Gn.out)).trans Gn.out)
      replace Gd := Lib.hid ((hb.block _ (lt_of_heap Gd.out)).trans Gd.out)
      clear hb
      replace Gn := Lib.hid (keepAl (o' := .cells (wcells 0) 24) Gn.out)
      replace Gd := Lib.hid (keepAl (o' := .cells (wcells 0) 24) Gd.out)
      have Ga := Lib.hid (alloc_new (w12) (.cells (wcells 0) 24))
      replace HB := Lib.hid (below_al HB.out (.cells (wcells 0) 24))
      replace Gn := Lib.hid (keepAl (o' := .cells (wcells 0) 24) Gn.out)
      replace Gd := Lib.hid (keepAl (o' := .cells (wcells 0) 24) Gd.out)
      replace Ga := Lib.hid (keepAl (o' := .cells (wcells 0) 24) Ga.out)
      have Gb := Lib.hid (alloc_new' (w := (w12).alloc (.cells (wcells 0) 24)) (n := w12.heap.size + 1) (.cells (wcells 0) 24) (by simp))
      replace HB := Lib.hid (below_al HB.out (.cells (wcells 0) 24))
      skip
      have cGn := cell_row Gn.out
      have cGd := cell_row Gd.out
      have cGa := cell_row Ga.out
      have cGb := cell_row Gb.out
      go_wp2_with fail
      refine (SA.out _).mono ?_
      rintro e w13 ⟨rfl, hb⟩
      clear cGn cGd cGa cGb
      replace HB := Lib.hid (below_then HB.out hb)
      replace Gn := Lib.hid ((hb.block _ (lt_of_heap Gn.out)).trans Gn.out)
      replace Gd := Lib.hid ((hb.block _ (lt_of_heap Gd.out)).trans Gd.out)
      replace Ga := Lib.hid ((hb.block _ (lt_of_heap Ga.out)).trans Ga.out)
      replace Gb := Lib.hid ((hb.block _ (lt_of_heap Gb.out)).trans Gb.out)
      clear hb
      have cGn := cell_row Gn.out
      have cGd := cell_row Gd.out
      have cGa := cell_row Ga.out
      have cGb := cell_row Gb.out
      go_wp2
      go_ret
      exact ⟨rfl, HB.out⟩
    · have b0 : decide (k < 0) = false := decide_eq_false c0
      by_cases c1 : 10 < k
      · have b1 : decide (10 < k) = true := decide_eq_true c1
        rw [if_pos (Or.inr c1)] at S1
        clear hn hd hE c0 c1 S2
        go_enter Tryz.func11, Tryz.ntmps11
        have HB := Lib.hid (Below.refl w.heap.size w)
        have Gn := Lib.hid (alloc_new (w) (.cells (wcells n) 24))
        replace HB := Lib.hid (below_al HB.out (.cells (wcells n) 24))
        replace Gn := Lib.hid (keepAl (o' := .cells (wcells d) 24) Gn.out)
        have Gd := Lib.hid (alloc_new' (w := (w).alloc (.cells (wcells n) 24)) (n := w.heap.size + 1) (.cells (wcells d) 24) (by simp))
        replace HB := Lib.hid (below_al HB.out (.cells (wcells d) 24))
        have cGn := cell_row Gn.out
        have cGd := cell_row Gd.out
        go_upto_region 1 with fail
        clear cGn cGd
        obtain ⟨wA, hw⟩ : ∃ wx, wx = ((w).alloc (.cells (wcells n) 24)).alloc (.cells (wcells d) 24) := ⟨_, rfl⟩
        rw [← hw] at Gn Gd HB ⊢
        clear hw
        have HZ := Lib.hid (lt_of_heap Gd.out)
        have cGn := cell_row Gn.out
        have cGd := cell_row Gd.out
        go_wp2_with fail
        refine (S0.out _).mono ?_
        rintro x w14 ⟨e, g, rfl, hen, hb⟩
        clear cGn cGd
        replace HB := Lib.hid (below_then HB.out hb)
        replace Gn := Lib.hid ((hb.block _ (lt_of_heap Gn.out)).trans Gn.out)
        replace Gd := Lib.hid ((hb.block _ (lt_of_heap Gd.out)).trans Gd.out)
        have Ge := Lib.hid hen.eng
        have KR := Lib.hid hen.rom
        have HNE := Lib.hid hen.ne
        have HLE := Lib.hid hen.le
        have HLG := Lib.hid hen.lg
        clear hen hb
        have cGn := cell_row Gn.out
        have cGd := cell_row Gd.out
        have cGe := cell_row Ge.out
        go_wp2_with fail
        refine (SR.out _).mono ?_
        rintro e w15 ⟨rfl, rfl⟩
        clear cGn cGd cGe
        have cGn := cell_row Gn.out
        have cGd := cell_row Gd.out
        go_wp2_with fail
        refine (S1.out _ _).mono ?_
        rintro e w16 ⟨rfl, hb⟩
        clear cGn cGd
        replace HB := Lib.hid (below_then HB.out hb)
        replace Gn := Lib.hid ((hb.block _ (lt_of_heap Gn.out)).trans Gn.out)
        replace Gd := Lib.hid ((hb.block _ (lt_of_heap Gd.out)).trans Gd.out)
        clear hb
        replace Gn := Lib.hid (keepAl (o' := .cells (wcells 0) 24) Gn.out)
        replace Gd := Lib.hid (keepAl (o' := .cells (wcells 0) 24) Gd.out)
        have Ga := Lib.hid (alloc_new (w16) (.cells (wcells 0) 24))
        replace HB := Lib.hid (below_al HB.out (.cells (wcells 0) 24))
        replace Gn := Lib.hid (keepAl (o' := .cells (wcells 0) 24) Gn.out)
        replace Gd := Lib.hid (keepAl (o' := .cells (wcells 0) 24) Gd.out)
        replace Ga := Lib.hid (keepAl (o' := .cells (wcells 0) 24) Ga.out)
        have Gb := Lib.hid (alloc_new' (w := (w16).alloc (.cells (wcells 0) 24)) (n := w16.heap.size + 1) (.cells (wcells 0) 24) (by simp))
        replace HB := Lib.hid (below_al HB.out (.cells (wcells 0) 24))
        skip
        have cGn := cell_row Gn.out
        have cGd := cell_row Gd.out
        have cGa := cell_row Ga.out
        have cGb := cell_row Gb.out
        go_wp2_with fail
        refine (SA.out _).mono ?_
        rintro e w17 ⟨rfl, hb⟩
        clear cGn cGd cGa cGb
        replace HB := Lib.hid (below_then HB.out hb)
        replace Gn := Lib.hid ((hb.block _ (lt_of_heap Gn.out)).trans Gn.out)
        replace Gd := Lib.hid ((hb.block _ (lt_of_heap Gd.out)).trans Gd.out)
        replace Ga := Lib.hid ((hb.block _ (lt_of_heap Ga.out)).trans Ga.out)
        replace Gb := Lib.hid ((hb.block _ (lt_of_heap Gb.out)).trans Gb.out)
        clear hb
        have cGn := cell_row Gn.out
        have cGd := cell_row Gd.out
        have cGa := cell_row Ga.out
        have cGb := cell_row Gb.out
        go_wp2
        go_ret
        exact ⟨rfl, HB.out⟩
      · have b1 : decide (10 < k) = false := decide_eq_false c1
        rw [if_neg (by omega)] at S1 hE
        obtain ⟨E, hEe⟩ : ∃ E, E = mayN n d := ⟨_, rfl⟩
        rw [← hEe] at S1 S2 hE
        have b2 : (E != 0) = true := by simp [hE]
        clear hn hd hE hEe c0 c1
        go_enter Tryz.func11, Tryz.ntmps11
        have HB := Lib.hid (Below.refl w.heap.size w)
        have Gn := Lib.hid (alloc_new (w) (.cells (wcells n) 24))
        replace HB := Lib.hid (below_al HB.out (.cells (wcells n) 24))
        replace Gn := Lib.hid (keepAl (o' := .cells (wcells d) 24) Gn.out)
        have Gd := Lib.hid (alloc_new' (w := (w).alloc (.cells (wcells n) 24)) (n := w.heap.size + 1) (.cells (wcells d) 24) (by simp))
        replace HB := Lib.hid (below_al HB.out (.cells (wcells d) 24))
        have cGn := cell_row Gn.out
        have cGd := cell_row Gd.out
        go_upto_region 1 with fail
        clear cGn cGd
        obtain ⟨wA, hw⟩ : ∃ wx, wx = ((w).alloc (.cells (wcells n) 24)).alloc (.cells (wcells d) 24) := ⟨_, rfl⟩
        rw [← hw] at Gn Gd HB ⊢
        clear hw
        have HZ := Lib.hid (lt_of_heap Gd.out)
        have cGn := cell_row Gn.out
        have cGd := cell_row Gd.out
        go_wp2_with fail
        refine (S0.out _).mono ?_
        rintro x w18 ⟨e, g, rfl, hen, hb⟩
        clear cGn cGd
        replace HB := Lib.hid (below_then HB.out hb)
        replace Gn := Lib.hid ((hb.block _ (lt_of_heap Gn.out)).trans Gn.out)
        replace Gd := Lib.hid ((hb.block _ (lt_of_heap Gd.out)).trans Gd.out)
        have Ge := Lib.hid hen.eng
        have KR := Lib.hid hen.rom
        have HNE := Lib.hid hen.ne
        have HLE := Lib.hid hen.le
        have HLG := Lib.hid hen.lg
        clear hen hb
        have cGn := cell_row Gn.out
        have cGd := cell_row Gd.out
        have cGe := cell_row Ge.out
        go_wp2_with fail
        refine (SR.out _).mono ?_
        rintro e w19 ⟨rfl, rfl⟩
        clear cGn cGd cGe
        have cGn := cell_row Gn.out
        have cGd := cell_row Gd.out
        go_wp2_with fail
        refine (S1.out _ _).mono ?_
        rintro e w20 ⟨rfl, hb⟩
        clear cGn cGd
        replace HB := Lib.hid (below_then HB.out hb)
        replace Gn := Lib.hid ((hb.block _ (lt_of_heap Gn.out)).trans Gn.out)
        replace Gd := Lib.hid ((hb.block _ (lt_of_heap Gd.out)).trans Gd.out)
        clear hb
        replace Gn := Lib.hid (keepAl (o' := .cells (wcells 0) 24) Gn.out)
        replace Gd := Lib.hid (keepAl (o' := .cells (wcells 0) 24) Gd.out)
        have Ga := Lib.hid (alloc_new (w20) (.cells (wcells 0) 24))
        replace HB := Lib.hid (below_al HB.out (.cells (wcells 0) 24))
        replace Gn := Lib.hid (keepAl (o' := .cells (wcells 0) 24) Gn.out)
        replace Gd := Lib.hid (keepAl (o' := .cells (wcells 0) 24) Gd.out)
        replace Ga := Lib.hid (keepAl (o' := .cells (wcells 0) 24) Ga.out)
        have Gb := Lib.hid (alloc_new' (w := (w20).alloc (.cells (wcells 0) 24)) (n := w20.heap.size + 1) (.cells (wcells 0) 24) (by simp))
        replace HB := Lib.hid (below_al HB.out (.cells (wcells 0) 24))
        have cGn := cell_row Gn.out
        have cGd := cell_row Gd.out
        have cGa := cell_row Ga.out
        have cGb := cell_row Gb.out
        go_wp2_with fail
        refine (S2.out _).mono ?_
        rintro e w21 ⟨rfl, hb⟩
        clear cGn cGd cGa cGb
        replace HB := Lib.hid (below_then HB.out hb)
        replace Gn := Lib.hid ((hb.block _ (lt_of_heap Gn.out)).trans Gn.out)
        replace Gd := Lib.hid ((hb.block _ (lt_of_heap Gd.out)).trans Gd.out)
        replace Ga := Lib.hid ((hb.block _ (lt_of_heap Ga.out)).trans Ga.out)
        replace Gb := Lib.hid ((hb.block _ (lt_of_heap Gb.out)).trans Gb.out)
        clear hb
        have cGn := cell_row Gn.out
        have cGd := cell_row Gd.out
        have cGa := cell_row Ga.out
        have cGb := cell_row Gb.out
        go_wp2_with fail
        refine (SA.out _).mono ?_
        rintro e w22 ⟨rfl, hb⟩
        clear cGn cGd cGa cGb
        replace HB := Lib.hid (below_then HB.out hb)
        replace Gn := Lib.hid ((hb.block _ (lt_of_heap Gn.out)).trans Gn.out)
        replace Gd := Lib.hid ((hb.block _ (lt_of_heap Gd.out)).trans Gd.out)
        replace Ga := Lib.hid ((hb.block _ (lt_of_heap Ga.out)).trans Ga.out)
        replace Gb := Lib.hid ((hb.block _ (lt_of_heap Gb.out)).trans Gb.out)
        clear hb
        have cGn := cell_row Gn.out
        have cGd := cell_row Gd.out
        have cGa := cell_row Ga.out
        have cGb := cell_row Gb.out
        go_wp2
        go_ret
        exact ⟨rfl, HB.out⟩
theorem near_cmp {d : Nat} (h : blen d = 128) : cmpN ((gdD d 5 - P2 160) + (P2 160 - gdD d 5)) (P2 20) ≤ 0 := by
  obtain ⟨h1, h2⟩ := gd_near h
  refine cmp_neg' ?_
  rw [P2_eq 20]
  omega
set_option maxRecDepth 100000 in
set_option maxHeartbeats 4000000 in
theorem goldNear_any (n d : Nat) (w : World) (hn : n < M) (hd : d < M) :
    Calls Tryz.prog 12 #[wv n, wv d] w fun e w' => e = .returned (.bool true) ∧ Below w.heap.size w w' := by
  have S0 := Lib.hid (fun w' => newA_nil w')
  have SR := Lib.hid (fun w' => rounds21_b w')
  have S2 := Lib.hid (fun w' => rmay_any n d hn hd w')
  have SA := Lib.hid (fun w' => awake21_any w')
  by_cases hm : mayN n d = 0
  · obtain ⟨m1, m2, m3⟩ := may_ok hm
    obtain ⟨n1, n2⟩ := gp_near hm
    obtain ⟨g1, g2⟩ := gp_bounds hm (show 5 ≤ 10 by decide)
    have hq := quo_128 hm
    have h128 : P2 128 < M := by rw [M_eq]; exact P2_lt (by omega)
    have h162 : P2 162 < M := by rw [M_eq]; exact P2_lt (by omega)
    have h161 : P2 161 < P2 162 := P2_lt (by omega)
    have hgs := near_small hm n1
    have hfar : (gpD d 5 - P2 160) + (P2 160 - gpD d 5) < P2 163 := by
      have h1 : P2 160 < P2 162 := P2_lt (by omega)
      have h2 : P2 162 < P2 163 := P2_lt (by omega)
      omega
    have S1 : Hid (∀ (e g : Nat) (w' : World), w'.heap[e]? = some (.cells #[.pointer (some ⟨g, 0, none⟩)] 130 (0, 0)) → IsRom w' g → e ≠ g → Calls Tryz.prog 53 #[.pointer (some ⟨e, 0, none⟩), wv n, wv d, .int .i64 5] w' fun x w'' => x = .returned (.tuple #[wv (gpM n d 5), wv (gpD d 5), .int .i64 0]) ∧ VG g w' w'') := Lib.hid fun e g w' hE hI hne => pairA_yes e g n d 5 hn hd hm (by decide) w' hE hI hne
    rw [hm] at S2
    have S3 := Lib.hid (fun w' => rdivide_any n d w' hn hd m1 (Nat.lt_of_lt_of_le hq (P2_le (by omega))))
    have S4 := Lib.hid (fun w' => big_any (gpD d 5) (by omega) w')
    have S5 := Lib.hid (fun w' => power_any 160 (by decide) w')
    have S6 := Lib.hid (fun v v2 w' h h2 => raway_any v v2 (gpD d 5) (P2 160) w' (small_of (Nat.lt_of_le_of_lt g2 h161) (by decide)) (small_of (P2_lt (show 160 < 161 by omega)) (by decide)) h h2)
    have S7 := Lib.hid (fun w' => power_any 20 (by decide) w')
    have S8 := Lib.hid (fun v v2 w' h h2 => cmp_any v v2 ((gpD d 5 - P2 160) + (P2 160 - gpD d 5)) (P2 20) w' (small_of hfar (by decide)) (small_of (P2_lt (show 20 < 21 by omega)) (by decide)) h h2)
    have hc : cmpN ((gpD d 5 - P2 160) + (P2 160 - gpD d 5)) (P2 20) ≤ 0 := near_cmp (up_len hm)
    have S9 := Lib.hid (fun w' => big_any (gpM n d 5) (by omega) w')
    have S10 := Lib.hid (fun v w' h => rshr_any v (gpM n d 5) 32 w' (small_of g1 (by decide)) (by decide) h)
    have S11 := Lib.hid (fun w' => big_any (n / d) (by omega) w')
    have S12 := Lib.hid (fun v v2 w' h h2 => raway_any v v2 (gpM n d 5 / P2 32) (n / d) w' (small_of hgs (by decide)) (small_of hq (by decide)) h h2)
    have S13 := Lib.hid (fun v w' h => rwithin_any v ((gpM n d 5 / P2 32 - n / d) + (n / d - gpM n d 5 / P2 32)) 2 w' (small_of (show _ < P2 32 by have := n1; have := n2; generalize gpM n d 5 / P2 32 = a at *; generalize n / d = b at *; rw [P2_eq]; omega) (by decide)) (by decide) h)
    rw [within_near n1 n2] at S13
    obtain ⟨V, hV⟩ : ∃ A : Nat, A = (gpM n d 5 / P2 32 - n / d) + (n / d - gpM n d 5 / P2 32) := ⟨_, rfl⟩
    rw [← hV] at S12 S13
    obtain ⟨Z, hZe⟩ : ∃ A, A = gpM n d 5 / P2 32 := ⟨_, rfl⟩
    rw [← hZe] at S10 S12
    obtain ⟨F, hF⟩ : ∃ A : Nat, A = (gpD d 5 - P2 160) + (P2 160 - gpD d 5) := ⟨_, rfl⟩
    rw [← hF] at S6 S8 hc
    obtain ⟨c, hce⟩ : ∃ c, c = cmpN F (P2 20) := ⟨_, rfl⟩
    rw [← hce] at S8 hc
    have b1 : decide (c ≤ 0) = true := decide_eq_true hc
    obtain ⟨T, hT⟩ : ∃ A, A = P2 20 := ⟨_, rfl⟩
    rw [← hT] at S7 S8
    obtain ⟨U, hU⟩ : ∃ A, A = P2 160 := ⟨_, rfl⟩
    rw [← hU] at S5 S6
    obtain ⟨X, hX⟩ : ∃ A, A = gpM n d 5 := ⟨_, rfl⟩
    rw [← hX] at S1 S9 S10
    obtain ⟨Y, hY⟩ : ∃ A, A = gpD d 5 := ⟨_, rfl⟩
    rw [← hY] at S1 S4 S6
    obtain ⟨Q, hQ⟩ : ∃ A, A = n / d := ⟨_, rfl⟩
    obtain ⟨R, hR⟩ : ∃ A, A = n % d := ⟨_, rfl⟩
    rw [← hQ, ← hR] at S3
    rw [← hQ] at S11 S12
    clear hn hd hm m1 m2 m3 n1 n2 g1 g2 hq h128 h162 h161 hgs hfar hc hV hZe hF hce hT hU hX hY hQ hR
    go_enter Tryz.func12, Tryz.ntmps12
    have HB := Lib.hid (Below.refl w.heap.size w)
    have Gn := Lib.hid (alloc_new (w) (.cells (wcells n) 24))
    replace HB := Lib.hid (below_al HB.out (.cells (wcells n) 24))
    replace Gn := Lib.hid (keepAl (o' := .cells (wcells d) 24) Gn.out)
    have Gd := Lib.hid (alloc_new' (w := (w).alloc (.cells (wcells n) 24)) (n := w.heap.size + 1) (.cells (wcells d) 24) (by simp))
    replace HB := Lib.hid (below_al HB.out (.cells (wcells d) 24))
    have cGn := cell_row Gn.out
    have cGd := cell_row Gd.out
    go_upto_region 1 with fail
    clear cGn cGd
    obtain ⟨wA, hw⟩ : ∃ wx, wx = ((w).alloc (.cells (wcells n) 24)).alloc (.cells (wcells d) 24) := ⟨_, rfl⟩
    rw [← hw] at Gn Gd HB ⊢
    clear hw
    have HZ := Lib.hid (lt_of_heap Gd.out)
    have cGn := cell_row Gn.out
    have cGd := cell_row Gd.out
    go_wp2_with fail
    refine (S0.out _).mono ?_
    rintro x w23 ⟨e, g, rfl, hen, hb⟩
    clear cGn cGd
    replace HB := Lib.hid (below_then HB.out hb)
    replace Gn := Lib.hid ((hb.block _ (lt_of_heap Gn.out)).trans Gn.out)
    replace Gd := Lib.hid ((hb.block _ (lt_of_heap Gd.out)).trans Gd.out)
    have Ge := Lib.hid hen.eng
    have KR := Lib.hid hen.rom
    have HNE := Lib.hid hen.ne
    have HLE := Lib.hid hen.le
    have HLG := Lib.hid hen.lg
    clear hen hb
    have cGn := cell_row Gn.out
    have cGd := cell_row Gd.out
    have cGe := cell_row Ge.out
    go_upto_region 4 with fail
    clear cGn cGd cGe
    obtain ⟨wB, hw⟩ : ∃ wx, wx = w23 := ⟨_, rfl⟩
    rw [← hw] at Gn Gd Ge KR HB ⊢
    clear hw
    have VB := Lib.hid (VG.refl KR.out)
    have HBO := Lib.hid HB.out
    clear HB KR
    have xGn := extg_row (g := g) (B := wB.heap.size) Gn.out (lt_of_heap Gn.out) (by have := VB.out.lt; (try have := HNE.out); (try have := HZ.out); (try have := HLG.out); omega)
    have xGd := extg_row (g := g) (B := wB.heap.size) Gd.out (lt_of_heap Gd.out) (by have := VB.out.lt; (try have := HNE.out); (try have := HZ.out); (try have := HLG.out); omega)
    have xGe := extg_row (g := g) (B := wB.heap.size) Ge.out (lt_of_heap Ge.out) (by have := VB.out.lt; (try have := HNE.out); (try have := HZ.out); (try have := HLG.out); omega)
    have hnx : Nonempty (ExtG g wB.heap.size wB) := ⟨⟨wB, BelowG.refl VB.out.rom _⟩⟩
    apply wp_region_looseG VB.out.rom (looseRV [_, _, _, _, _, _, _, _, _, undef, undef, undef, undef, _]) (pureL [0, 5, 6, 7, 8, 13])
    · kernel_rfl
    · kernel_rfl
    · kernel_rfl
    · exact allocs_ok [24, 24] rfl (by intro T hT; simp only [List.mem_cons, List.not_mem_nil, or_false, or_self] at hT; subst hT; exact makes_wide)
    · exact looseRV_st _ _
    · change wpLG _ _ _ _ _ _ _ _ 14 0 _ _
      refine wpL_pureG wB rfl rfl rfl rfl (fun K hK K0 hK0 => ?_)
      go_simp
      first | refine hK _ _ rfl rfl ?_ | refine hK0 _ rfl ?_
      clear hK hK0 K K0
      refine wpL_calmG wB rfl rfl rfl rfl (fun K hK K0 hK0 => ?_)
      go_simp
      first | refine hK _ _ rfl rfl ?_ | refine hK0 _ rfl ?_
      clear hK hK0 K K0
      refine wpL_calmG wB rfl rfl rfl rfl (fun K hK K0 hK0 => ?_)
      go_simp
      first | refine hK _ _ rfl rfl ?_ | refine hK0 _ rfl ?_
      clear hK hK0 K K0
      refine wpL_calmG wB rfl rfl rfl rfl (fun K hK K0 hK0 => ?_)
      go_simp
      apply Exists.intro
      apply And.intro
      · intro x
        go_at_call 52
        with_reducible exact Calls.stepG _ (SR.out _)
      refine hK _ _ rfl rfl ?_
      clear hK hK0 K K0
      refine wpL_calmG wB rfl rfl rfl rfl (fun K hK K0 hK0 => ?_)
      go_simp
      apply Exists.intro
      apply And.intro
      · intro x
        go_at_call 53
        with_reducible exact Calls.stepV (S1.out _ _ _ (extg_block Ge.out (lt_of_heap Ge.out) HNE.out _) (extg_rom _) HNE.out)
      refine hK _ _ rfl rfl ?_
      clear hK hK0 K K0
      refine wpL_pureG wB rfl rfl rfl rfl (fun K hK K0 hK0 => ?_)
      go_simp
      first | refine hK _ _ rfl rfl ?_ | refine hK0 _ rfl ?_
      clear hK hK0 K K0
      refine wpL_pureG wB rfl rfl rfl rfl (fun K hK K0 hK0 => ?_)
      go_simp
      first | refine hK _ _ rfl rfl ?_ | refine hK0 _ rfl ?_
      clear hK hK0 K K0
      refine wpL_pureG wB rfl rfl rfl rfl (fun K hK K0 hK0 => ?_)
      go_simp
      first | refine hK _ _ rfl rfl ?_ | refine hK0 _ rfl ?_
      clear hK hK0 K K0
      refine wpL_pureG wB rfl rfl rfl rfl (fun K hK K0 hK0 => ?_)
      go_simp
      first | refine hK _ _ rfl rfl ?_ | refine hK0 _ rfl ?_
      clear hK hK0 K K0
      refine wpL_allocG rfl rfl rfl rfl (fun g9 hg9 => ?_)
      refine wpL_allocG rfl rfl rfl rfl (fun g10 hg10 => ?_)
      refine wpL_storeG rfl rfl ?_
      refine wpL_storeG rfl rfl ?_
      refine wpL_pureG wB rfl rfl rfl rfl (fun K hK K0 hK0 => ?_)
      go_simp
      first | refine hK _ _ rfl rfl ?_ | refine hK0 _ rfl ?_
      clear hK hK0 K K0
      refine wpL_nilG (endLG [(24, .tmp 6, .tmp 21), (24, .tmp 7, .tmp 22)] rfl (by intro q hq; simp only [List.mem_cons, List.not_mem_nil, or_false] at hq; rcases hq with rfl | rfl <;> exact fits_wv (by kernel_rfl) _) (fun w24 hv hst hap hfin => ?_))
      have Ga : Hid (w24.heap[g9]? = some (.cells (wcells (X)) 24 (0, 0))) := Lib.hid (hst 11 _ _ _ _ g9 rfl rfl rfl)
      have Gb : Hid (w24.heap[g10]? = some (.cells (wcells (Y)) 24 (0, 0))) := Lib.hid (hst 12 _ _ _ _ g10 rfl rfl rfl)
      have hne9_10 : g9 ≠ g10 := fun h => hap 9 _ _ _ 10 _ _ _ rfl rfl rfl rfl rfl rfl (by decide) (by subst h; rfl)
      replace Gn := Lib.hid ((hv.block _ (lt_of_heap Gn.out) (by have := VB.out.lt; (try have := HNE.out); (try have := HZ.out); (try have := HLG.out); omega)).trans Gn.out)
      replace Gd := Lib.hid ((hv.block _ (lt_of_heap Gd.out) (by have := VB.out.lt; (try have := HNE.out); (try have := HZ.out); (try have := HLG.out); omega)).trans Gd.out)
      replace Ge := Lib.hid ((hv.block _ (lt_of_heap Ge.out) (by have := VB.out.lt; (try have := HNE.out); (try have := HZ.out); (try have := HLG.out); omega)).trans Ge.out)
      have HG9 := Lib.hid hg9
      have HG10 := Lib.hid hg10
      replace VB := Lib.hid (VB.out.trans' hv)
      clear hv hst hap hfin xGn xGd xGe hnx
      have HB := Lib.hid (VB.out.out HBO.out (by have := HLG.out; have := HZ.out; omega))
      clear VB HBO Ge HG9 HG10 hg9 hg10 hne9_10
      have cGn := cell_row Gn.out
      have cGd := cell_row Gd.out
      have cGa := cell_row Ga.out
      have cGb := cell_row Gb.out
      go_wp2_with fail
      refine (S2.out _).mono ?_
      rintro e w25 ⟨rfl, hb⟩
      clear cGn cGd cGa cGb
      replace HB := Lib.hid (below_then HB.out hb)
      replace Gn := Lib.hid ((hb.block _ (lt_of_heap Gn.out)).trans Gn.out)
      replace Gd := Lib.hid ((hb.block _ (lt_of_heap Gd.out)).trans Gd.out)
      replace Ga := Lib.hid ((hb.block _ (lt_of_heap Ga.out)).trans Ga.out)
      replace Gb := Lib.hid ((hb.block _ (lt_of_heap Gb.out)).trans Gb.out)
      clear hb
      have cGn := cell_row Gn.out
      have cGd := cell_row Gd.out
      have cGa := cell_row Ga.out
      have cGb := cell_row Gb.out
      go_wp2_with fail
      refine (S3.out _).mono ?_
      rintro e w26 ⟨rfl, hb⟩
      clear cGn cGd cGa cGb
      replace HB := Lib.hid (below_then HB.out hb)
      replace Gn := Lib.hid ((hb.block _ (lt_of_heap Gn.out)).trans Gn.out)
      replace Gd := Lib.hid ((hb.block _ (lt_of_heap Gd.out)).trans Gd.out)
      replace Ga := Lib.hid ((hb.block _ (lt_of_heap Ga.out)).trans Ga.out)
      replace Gb := Lib.hid ((hb.block _ (lt_of_heap Gb.out)).trans Gb.out)
      clear hb
      replace Gn := Lib.hid (keepAl (o' := .cells (wcells Q) 24) Gn.out)
      replace Gd := Lib.hid (keepAl (o' := .cells (wcells Q) 24) Gd.out)
      replace Ga := Lib.hid (keepAl (o' := .cells (wcells Q) 24) Ga.out)
      replace Gb := Lib.hid (keepAl (o' := .cells (wcells Q) 24) Gb.out)
      have Gq := Lib.hid (alloc_new (w26) (.cells (wcells Q) 24))
      replace HB := Lib.hid (below_al HB.out (.cells (wcells Q) 24))
      replace Gn := Lib.hid (keepAl (o' := .cells (wcells R) 24) Gn.out)
      replace Gd := Lib.hid (keepAl (o' := .cells (wcells R) 24) Gd.out)
      replace Ga := Lib.hid (keepAl (o' := .cells (wcells R) 24) Ga.out)
      replace Gb := Lib.hid (keepAl (o' := .cells (wcells R) 24) Gb.out)
      replace Gq := Lib.hid (keepAl (o' := .cells (wcells R) 24) Gq.out)
      have Gr := Lib.hid (alloc_new' (w := (w26).alloc (.cells (wcells Q) 24)) (n := w26.heap.size + 1) (.cells (wcells R) 24) (by simp))
      replace HB := Lib.hid (below_al HB.out (.cells (wcells R) 24))
      have cGa := cell_row Ga.out
      have cGb := cell_row Gb.out
      have cGq := cell_row Gq.out
      go_wp2_with fail
      refine (S4.out _).mono ?_
      rintro e w27 ⟨ry, rfl, hr, hb⟩
      clear cGa cGb cGq
      replace HB := Lib.hid (below_then HB.out hb)
      replace Ga := Lib.hid ((hb.block _ (lt_of_heap Ga.out)).trans Ga.out)
      replace Gb := Lib.hid ((hb.block _ (lt_of_heap Gb.out)).trans Gb.out)
      replace Gq := Lib.hid ((hb.block _ (lt_of_heap Gq.out)).trans Gq.out)
      have Ry := Lib.hid hr
      clear hr hb
      have cGa := cell_row Ga.out
      have cGq := cell_row Gq.out
      go_wp2_with fail
      refine (S5.out _).mono ?_
      rintro e w28 ⟨ru, rfl, hr, hb⟩
      clear cGa cGq
      replace HB := Lib.hid (below_then HB.out hb)
      replace Ga := Lib.hid ((hb.block _ (lt_of_heap Ga.out)).trans Ga.out)
      replace Gq := Lib.hid ((hb.block _ (lt_of_heap Gq.out)).trans Gq.out)
      replace Ry := Lib.hid (Ry.out.below hb)
      have Ru := Lib.hid hr
      clear hr hb
      have cGa := cell_row Ga.out
      have cGq := cell_row Gq.out
      go_wp2_with fail
      refine (S6.out _ _ _ Ry.out Ru.out).mono ?_
      rintro e w29 ⟨rf, rfl, hr, hb⟩
      clear cGa cGq
      replace HB := Lib.hid (below_then HB.out hb)
      replace Ga := Lib.hid ((hb.block _ (lt_of_heap Ga.out)).trans Ga.out)
      replace Gq := Lib.hid ((hb.block _ (lt_of_heap Gq.out)).trans Gq.out)
      replace Ry := Lib.hid (Ry.out.below hb)
      replace Ru := Lib.hid (Ru.out.below hb)
      have Rf := Lib.hid hr
      clear hr hb
      have cGa := cell_row Ga.out
      have cGq := cell_row Gq.out
      go_upto_region 9 with fail
      clear cGa cGq
      obtain ⟨wT, hw⟩ : ∃ wx, wx = w29 := ⟨_, rfl⟩
      rw [← hw] at Ga Gq Rf HB ⊢
      clear hw
      have B2 := Lib.hid (Below.refl wT.heap.size wT)
      have xGa := ext_row (B := wT.heap.size) Ga.out (lt_of_heap Ga.out)
      have xGq := ext_row (B := wT.heap.size) Gq.out (lt_of_heap Gq.out)
      apply wp_region_loose (looseR [_, _, _, _, _, _, _, _, _, _, _, _, _, _, _, _, _, _, _, _, _]) (pureL [])
      · kernel_rfl
      · kernel_rfl
      · kernel_rfl
      · exact allocs_ok [] rfl (by intro T hT; cases hT)
      · exact looseR_st _
      · change wpL _ _ _ _ _ _ _ 21 0 _ _
        refine wpL_calm wT rfl rfl rfl rfl (fun K hK K0 hK0 => ?_)
        go_simp
        first | refine hK _ _ rfl rfl ?_ | refine hK0 _ rfl ?_
        clear hK hK0 K K0
        refine wpL_calm wT rfl rfl rfl rfl (fun K hK K0 hK0 => ?_)
        go_simp
        first | refine hK _ _ rfl rfl ?_ | refine hK0 _ rfl ?_
        clear hK hK0 K K0
        refine wpL_calm wT rfl rfl rfl rfl (fun K hK K0 hK0 => ?_)
        go_simp
        first | refine hK _ _ rfl rfl ?_ | refine hK0 _ rfl ?_
        clear hK hK0 K K0
        refine wpL_calm wT rfl rfl rfl rfl (fun K hK K0 hK0 => ?_)
        go_simp
        first | refine hK _ _ rfl rfl ?_ | refine hK0 _ rfl ?_
        clear hK hK0 K K0
        refine wpL_call (Lft.big T) (big_some w _) rfl rfl rfl rfl (by first | rfl | go_simp) rfl (fun w' hC hF => ?_) (fun v4 hv4 => ?_)
        · obtain ⟨x, rfl⟩ := hC
          go_simp
          go_at_call 43
          exact gives_loose (S7.out _)
        refine wpL_call (Lft.val (.int .i64 c)) (val_some wT _) rfl rfl rfl rfl (by first | rfl | go_simp) rfl (fun w' hC hF => ?_) (fun v5 hv5 => ?_)
        · obtain ⟨x, rfl⟩ := hC
          go_simp
          go_at_call 41
          exact val_loose (S8.out _ _ _ (ext_bigB Rf.out (Below.refl _ _) x) (hF 4 _ 47 rfl rfl rfl rfl (by decide)))
        obtain ⟨_, rfl⟩ := hv5
        refine wpL_calm wT rfl rfl rfl rfl (fun K hK K0 hK0 => ?_)
        go_simp
        first | refine hK _ _ rfl rfl ?_ | refine hK0 _ rfl ?_
        clear hK hK0 K K0
        refine wpL_calm wT rfl rfl rfl rfl (fun K hK K0 hK0 => ?_)
        go_simp
        first | refine hK _ _ rfl rfl ?_ | refine hK0 _ rfl ?_
        clear hK hK0 K K0
        refine wpL_calm wT rfl rfl rfl rfl (fun K hK K0 hK0 => ?_)
        go_simp
        first | refine hK _ _ rfl rfl ?_ | refine hK0 _ rfl ?_
        clear hK hK0 K K0
        refine wpL_calm wT rfl rfl rfl rfl (fun K hK K0 hK0 => ?_)
        go_simp
        first | refine hK _ _ rfl rfl ?_ | refine hK0 _ rfl ?_
        clear hK hK0 K K0
        refine wpL_call (Lft.big X) (big_some w _) rfl rfl rfl rfl (by first | rfl | go_simp) rfl (fun w' hC hF => ?_) (fun v10 hv10 => ?_)
        · obtain ⟨x, rfl⟩ := hC
          go_simp
          go_at_call 37
          exact gives_loose (S9.out _)
        refine wpL_call (Lft.big Z) (big_some w _) rfl rfl rfl rfl (by first | rfl | go_simp) rfl (fun w' hC hF => ?_) (fun v11 hv11 => ?_)
        · obtain ⟨x, rfl⟩ := hC
          go_simp
          go_at_call 31
          exact gives_loose (S10.out _ _ (hF 10 _ 53 rfl rfl rfl rfl (by decide)))
        refine wpL_calm wT rfl rfl rfl rfl (fun K hK K0 hK0 => ?_)
        go_simp
        first | refine hK _ _ rfl rfl ?_ | refine hK0 _ rfl ?_
        clear hK hK0 K K0
        refine wpL_call (Lft.big Q) (big_some w _) rfl rfl rfl rfl (by first | rfl | go_simp) rfl (fun w' hC hF => ?_) (fun v13 hv13 => ?_)
        · obtain ⟨x, rfl⟩ := hC
          go_simp
          go_at_call 37
          exact gives_loose (S11.out _)
        refine wpL_call (Lft.big V) (big_some w _) rfl rfl rfl rfl (by first | rfl | go_simp) rfl (fun w' hC hF => ?_) (fun v14 hv14 => ?_)
        · obtain ⟨x, rfl⟩ := hC
          go_simp
          go_at_call 36
          exact gives_loose (S12.out _ _ _ (hF 11 _ 54 rfl rfl rfl rfl (by decide)) (hF 13 _ 56 rfl rfl rfl rfl (by decide)))
        refine wpL_call (Lft.val (.bool true)) (val_some wT _) rfl rfl rfl rfl (by first | rfl | go_simp) rfl (fun w' hC hF => ?_) (fun v15 hv15 => ?_)
        · obtain ⟨x, rfl⟩ := hC
          go_simp
          go_at_call 35
          exact val_loose (S13.out _ _ (hF 14 _ 57 rfl rfl rfl rfl (by decide)))
        obtain ⟨_, rfl⟩ := hv15
        refine wpL_calm wT rfl rfl rfl rfl (fun K hK K0 hK0 => ?_)
        go_simp
        first | refine hK _ _ rfl rfl ?_ | refine hK0 _ rfl ?_
        clear hK hK0 K K0
        refine wpL_calm wT rfl rfl rfl rfl (fun K hK K0 hK0 => ?_)
        go_simp
        first | refine hK _ _ rfl rfl ?_ | refine hK0 _ rfl ?_
        clear hK hK0 K K0
        refine wpL_call (Lft.val (.bool true)) (val_some wT _) rfl rfl rfl rfl (by first | rfl | go_simp) rfl (fun w' hC hF => ?_) (fun v18 hv18 => ?_)
        · obtain ⟨x, rfl⟩ := hC
          go_simp
          go_at_call 51
          exact val_loose (SA.out _)
        obtain ⟨_, rfl⟩ := hv18
        refine wpL_calm wT rfl rfl rfl rfl (fun K hK K0 hK0 => ?_)
        go_simp
        first | refine hK _ _ rfl rfl ?_ | refine hK0 _ rfl ?_
        clear hK hK0 K K0
        refine wpL_calm wT rfl rfl rfl rfl (fun K hK K0 hK0 => ?_)
        go_simp
        first | refine hK _ _ rfl rfl ?_ | refine hK0 _ rfl ?_
        clear hK hK0 K K0
        refine wpL_nil (endL [] rfl (by intro q hq; cases hq) (fun w30 hb hst hap hfin => ?_))
        replace HB := Lib.hid (below_then HB.out hb)
        replace Ga := Lib.hid ((hb.block _ (lt_of_heap Ga.out)).trans Ga.out)
        replace Gq := Lib.hid ((hb.block _ (lt_of_heap Gq.out)).trans Gq.out)
        replace Rf := Lib.hid (Rf.out.below hb)
        clear hb hst hap hfin xGa xGq
        go_wp2
        go_ret
        exact ⟨rfl, HB.out⟩
  · have hg : gpE n d 5 = mayN n d := by unfold gpE; rw [if_neg (by decide)]
    have S1 : Hid (∀ (e g : Nat) (w' : World), w'.heap[e]? = some (.cells #[.pointer (some ⟨g, 0, none⟩)] 130 (0, 0)) → IsRom w' g → e ≠ g → Calls Tryz.prog 53 #[.pointer (some ⟨e, 0, none⟩), wv n, wv d, .int .i64 5] w' fun x w'' => x = .returned (.tuple #[wv 0, wv 0, .int .i64 (mayN n d)]) ∧ VG g w' w'') := Lib.hid fun e g w' _ hI _ => by
      have := pairA_no e n d 5 hn hd (by rw [hg]; exact hm) w'
      rw [hg] at this
      exact this.mono fun _ _ ⟨h1, h2⟩ => ⟨h1, VG.ofBelow hI h2⟩
    obtain ⟨E, hE⟩ : ∃ x, x = mayN n d := ⟨_, rfl⟩
    rw [← hE] at S1 S2 hm
    have hb : (E != 0) = true := by simp [hm]
    clear hn hd hE hg
    go_enter Tryz.func12, Tryz.ntmps12
    have HB := Lib.hid (Below.refl w.heap.size w)
    have Gn := Lib.hid (alloc_new (w) (.cells (wcells n) 24))
    replace HB := Lib.hid (below_al HB.out (.cells (wcells n) 24))
    replace Gn := Lib.hid (keepAl (o' := .cells (wcells d) 24) Gn.out)
    have Gd := Lib.hid (alloc_new' (w := (w).alloc (.cells (wcells n) 24)) (n := w.heap.size + 1) (.cells (wcells d) 24) (by simp))
    replace HB := Lib.hid (below_al HB.out (.cells (wcells d) 24))
    have cGn := cell_row Gn.out
    have cGd := cell_row Gd.out
    go_upto_region 1 with fail
    clear cGn cGd
    obtain ⟨wA, hw⟩ : ∃ wx, wx = ((w).alloc (.cells (wcells n) 24)).alloc (.cells (wcells d) 24) := ⟨_, rfl⟩
    rw [← hw] at Gn Gd HB ⊢
    clear hw
    have HZ := Lib.hid (lt_of_heap Gd.out)
    have cGn := cell_row Gn.out
    have cGd := cell_row Gd.out
    go_wp2_with fail
    refine (S0.out _).mono ?_
    rintro x w31 ⟨e, g, rfl, hen, hb⟩
    clear cGn cGd
    replace HB := Lib.hid (below_then HB.out hb)
    replace Gn := Lib.hid ((hb.block _ (lt_of_heap Gn.out)).trans Gn.out)
    replace Gd := Lib.hid ((hb.block _ (lt_of_heap Gd.out)).trans Gd.out)
    have Ge := Lib.hid hen.eng
    have KR := Lib.hid hen.rom
    have HNE := Lib.hid hen.ne
    have HLE := Lib.hid hen.le
    have HLG := Lib.hid hen.lg
    clear hen hb
    have cGn := cell_row Gn.out
    have cGd := cell_row Gd.out
    have cGe := cell_row Ge.out
    go_upto_region 4 with fail
    clear cGn cGd cGe
    obtain ⟨wB, hw⟩ : ∃ wx, wx = w31 := ⟨_, rfl⟩
    rw [← hw] at Gn Gd Ge KR HB ⊢
    clear hw
    have VB := Lib.hid (VG.refl KR.out)
    have HBO := Lib.hid HB.out
    clear HB KR
    have xGn := extg_row (g := g) (B := wB.heap.size) Gn.out (lt_of_heap Gn.out) (by have := VB.out.lt; (try have := HNE.out); (try have := HZ.out); (try have := HLG.out); omega)
    have xGd := extg_row (g := g) (B := wB.heap.size) Gd.out (lt_of_heap Gd.out) (by have := VB.out.lt; (try have := HNE.out); (try have := HZ.out); (try have := HLG.out); omega)
    have xGe := extg_row (g := g) (B := wB.heap.size) Ge.out (lt_of_heap Ge.out) (by have := VB.out.lt; (try have := HNE.out); (try have := HZ.out); (try have := HLG.out); omega)
    have hnx : Nonempty (ExtG g wB.heap.size wB) := ⟨⟨wB, BelowG.refl VB.out.rom _⟩⟩
    apply wp_region_looseG VB.out.rom (looseRV [_, _, _, _, _, _, _, _, _, undef, undef, undef, undef, _]) (pureL [0, 5, 6, 7, 8, 13])
    · kernel_rfl
    · kernel_rfl
    · kernel_rfl
    · exact allocs_ok [24, 24] rfl (by intro T hT; simp only [List.mem_cons, List.not_mem_nil, or_false, or_self] at hT; subst hT; exact makes_wide)
    · exact looseRV_st _ _
    · change wpLG _ _ _ _ _ _ _ _ 14 0 _ _
      refine wpL_pureG wB rfl rfl rfl rfl (fun K hK K0 hK0 => ?_)
      go_simp
      first | refine hK _ _ rfl rfl ?_ | refine hK0 _ rfl ?_
      clear hK hK0 K K0
      refine wpL_calmG wB rfl rfl rfl rfl (fun K hK K0 hK0 => ?_)
      go_simp
      first | refine hK _ _ rfl rfl ?_ | refine hK0 _ rfl ?_
      clear hK hK0 K K0
      refine wpL_calmG wB rfl rfl rfl rfl (fun K hK K0 hK0 => ?_)
      go_simp
      first | refine hK _ _ rfl rfl ?_ | refine hK0 _ rfl ?_
      clear hK hK0 K K0
      refine wpL_calmG wB rfl rfl rfl rfl (fun K hK K0 hK0 => ?_)
      go_simp
      apply Exists.intro
      apply And.intro
      · intro x
        go_at_call 52
        with_reducible exact Calls.stepG _ (SR.out _)
      refine hK _ _ rfl rfl ?_
      clear hK hK0 K K0
      refine wpL_calmG wB rfl rfl rfl rfl (fun K hK K0 hK0 => ?_)
      go_simp
      apply Exists.intro
      apply And.intro
      · intro x
        go_at_call 53
        with_reducible exact Calls.stepV (S1.out _ _ _ (extg_block Ge.out (lt_of_heap Ge.out) HNE.out _) (extg_rom _) HNE.out)
      refine hK _ _ rfl rfl ?_
      clear hK hK0 K K0
      refine wpL_pureG wB rfl rfl rfl rfl (fun K hK K0 hK0 => ?_)
      go_simp
      first | refine hK _ _ rfl rfl ?_ | refine hK0 _ rfl ?_
      clear hK hK0 K K0
      refine wpL_pureG wB rfl rfl rfl rfl (fun K hK K0 hK0 => ?_)
      go_simp
      first | refine hK _ _ rfl rfl ?_ | refine hK0 _ rfl ?_
      clear hK hK0 K K0
      refine wpL_pureG wB rfl rfl rfl rfl (fun K hK K0 hK0 => ?_)
      go_simp
      first | refine hK _ _ rfl rfl ?_ | refine hK0 _ rfl ?_
      clear hK hK0 K K0
      refine wpL_pureG wB rfl rfl rfl rfl (fun K hK K0 hK0 => ?_)
      go_simp
      first | refine hK _ _ rfl rfl ?_ | refine hK0 _ rfl ?_
      clear hK hK0 K K0
      refine wpL_allocG rfl rfl rfl rfl (fun g9 hg9 => ?_)
      refine wpL_allocG rfl rfl rfl rfl (fun g10 hg10 => ?_)
      refine wpL_storeG rfl rfl ?_
      refine wpL_storeG rfl rfl ?_
      refine wpL_pureG wB rfl rfl rfl rfl (fun K hK K0 hK0 => ?_)
      go_simp
      first | refine hK _ _ rfl rfl ?_ | refine hK0 _ rfl ?_
      clear hK hK0 K K0
      refine wpL_nilG (endLG [(24, .tmp 6, .tmp 21), (24, .tmp 7, .tmp 22)] rfl (by intro q hq; simp only [List.mem_cons, List.not_mem_nil, or_false] at hq; rcases hq with rfl | rfl <;> exact fits_wv (by kernel_rfl) _) (fun w32 hv hst hap hfin => ?_))
      have Ga : Hid (w32.heap[g9]? = some (.cells (wcells (0)) 24 (0, 0))) := Lib.hid (hst 11 _ _ _ _ g9 rfl rfl rfl)
      have Gb : Hid (w32.heap[g10]? = some (.cells (wcells (0)) 24 (0, 0))) := Lib.hid (hst 12 _ _ _ _ g10 rfl rfl rfl)
      have hne9_10 : g9 ≠ g10 := fun h => hap 9 _ _ _ 10 _ _ _ rfl rfl rfl rfl rfl rfl (by decide) (by subst h; rfl)
      replace Gn := Lib.hid ((hv.block _ (lt_of_heap Gn.out) (by have := VB.out.lt; (try have := HNE.out); (try have := HZ.out); (try have := HLG.out); omega)).trans Gn.out)
      replace Gd := Lib.hid ((hv.block _ (lt_of_heap Gd.out) (by have := VB.out.lt; (try have := HNE.out); (try have := HZ.out); (try have := HLG.out); omega)).trans Gd.out)
      replace Ge := Lib.hid ((hv.block _ (lt_of_heap Ge.out) (by have := VB.out.lt; (try have := HNE.out); (try have := HZ.out); (try have := HLG.out); omega)).trans Ge.out)
      have HG9 := Lib.hid hg9
      have HG10 := Lib.hid hg10
      replace VB := Lib.hid (VB.out.trans' hv)
      clear hv hst hap hfin xGn xGd xGe hnx
      have HB := Lib.hid (VB.out.out HBO.out (by have := HLG.out; have := HZ.out; omega))
      clear VB HBO Ge HG9 HG10 hg9 hg10 hne9_10
      have cGn := cell_row Gn.out
      have cGd := cell_row Gd.out
      have cGa := cell_row Ga.out
      have cGb := cell_row Gb.out
      go_wp2_with fail
      refine (S2.out _).mono ?_
      rintro e w33 ⟨rfl, hb⟩
      clear cGn cGd cGa cGb
      replace HB := Lib.hid (below_then HB.out hb)
      replace Gn := Lib.hid ((hb.block _ (lt_of_heap Gn.out)).trans Gn.out)
      replace Gd := Lib.hid ((hb.block _ (lt_of_heap Gd.out)).trans Gd.out)
      replace Ga := Lib.hid ((hb.block _ (lt_of_heap Ga.out)).trans Ga.out)
      replace Gb := Lib.hid ((hb.block _ (lt_of_heap Gb.out)).trans Gb.out)
      clear hb
      have cGn := cell_row Gn.out
      have cGd := cell_row Gd.out
      have cGa := cell_row Ga.out
      have cGb := cell_row Gb.out
      go_wp2_with fail
      refine (SA.out _).mono ?_
      rintro e w34 ⟨rfl, hb⟩
      clear cGn cGd cGa cGb
      replace HB := Lib.hid (below_then HB.out hb)
      replace Gn := Lib.hid ((hb.block _ (lt_of_heap Gn.out)).trans Gn.out)
      replace Gd := Lib.hid ((hb.block _ (lt_of_heap Gd.out)).trans Gd.out)
      replace Ga := Lib.hid ((hb.block _ (lt_of_heap Ga.out)).trans Ga.out)
      replace Gb := Lib.hid ((hb.block _ (lt_of_heap Gb.out)).trans Gb.out)
      clear hb
      have cGn := cell_row Gn.out
      have cGd := cell_row Gd.out
      have cGa := cell_row Ga.out
      have cGb := cell_row Gb.out
      go_wp2
      go_ret
      exact ⟨rfl, HB.out⟩
end Go.Proofs.YtegmmaaapdgocaaGreat
