/- THE WALKS of the reference of radix2: whether two can be divided, and their quotient. -/
import Derived.Test.YtegmmaaapdgocaaGreatK14
namespace Go.Proofs.YtegmmaaapdgocaaGreat
open Go Go.RowKit

attribute [local go_sem ↓] Go.wp_at_zero Go.wp_at_succ
set_option maxRecDepth 100000 in
set_option maxHeartbeats 2000000 in
theorem rmay_any (n d : Nat) (hn : n < M) (hd : d < M) (w : World) :
    Calls Tryz.prog 45 #[wv n, wv d] w fun e w' => e = .returned (.int .i64 (mayN n d)) ∧ Below w.heap.size w w' := by
  have HMa := Lib.hid hn; have HMb := Lib.hid hd
  have hsn := small_M hn
  have hsd := small_M hd
  have hshl : d * P2 128 < BIG := by
    have := Nat.mul_lt_mul_of_pos_right hd (P2_pos 128)
    rw [M_eq, ← P2_add] at this
    exact small_of this (by omega)
  have S1 := Lib.hid (fun v w' h => rlen_any v d w' hsd h)
  have S2 : Hid (∀ (v : Value) (w' : World), IsBig w' v d → Calls Tryz.prog 42 #[v, .int .i64 128] w' (GivesBig (d * P2 128) w')) := Lib.hid fun v w' h => rshl_any v d 128 w' hsd (by omega) h
  have S3 := Lib.hid (fun v v2 w' h h' => cmp_any v v2 n (d * P2 128) w' hsn hshl h h')
  have hz := blen_zero_iff (d := d)
  have HV1 : Hid (d = 0 → mayN n d = 5) := Lib.hid fun h => by rw [h, may_zero]
  have HV2 : Hid (d ≠ 0 → 120 < blen d → mayN n d = 4) := Lib.hid fun h h1 => by unfold mayN; rw [if_neg h, if_pos (Or.inl h1)]
  have HV3 : Hid (d ≠ 0 → ¬ 120 < blen d → 0 ≤ cmpN n (d * P2 128) → mayN n d = 4) := Lib.hid fun h h1 h2 => by
    unfold mayN; rw [if_neg h, if_pos (Or.inr ?_)]
    have := cmp_ge n (d * P2 128)
    simpa [h2] using this.symm
  have HV4 : Hid (d ≠ 0 → ¬ 120 < blen d → ¬ 0 ≤ cmpN n (d * P2 128) → mayN n d = 0) := Lib.hid fun h h1 h2 => by
    unfold mayN; rw [if_neg h, if_neg]
    have := cmp_ge n (d * P2 128)
    intro h3
    rcases h3 with h3 | h3
    · exact h1 h3
    · exact h2 (by simpa [h3] using this)
  obtain ⟨l, hl⟩ : ∃ l, l = blen d := ⟨_, rfl⟩
  rw [← hl] at S1 hz HV2 HV3 HV4
  obtain ⟨D, hD⟩ : ∃ l, l = d * P2 128 := ⟨_, rfl⟩
  rw [← hD] at S2 S3 HV3 HV4
  obtain ⟨C, hC⟩ : ∃ l, l = cmpN n D := ⟨_, rfl⟩
  rw [← hC] at S3 HV3 HV4
  have HZ := Lib.hid hz
  clear hn hd hsn hsd hshl hl hD hC hz
  go_enter Tryz.func45, Tryz.ntmps45
  have HB := Lib.hid (Below.refl w.heap.size w)
  have Ga := Lib.hid (alloc_new (w) (.cells (wcells n) 24))
  replace HB := Lib.hid (below_al HB.out (.cells (wcells n) 24))
  replace Ga := Lib.hid (keepAl (o' := .cells (wcells d) 24) Ga.out)
  have Gb := Lib.hid (alloc_new' (w := (w).alloc (.cells (wcells n) 24)) (n := w.heap.size + 1) (.cells (wcells d) 24) (by simp))
  replace HB := Lib.hid (below_al HB.out (.cells (wcells d) 24))
  go_upto_region 1 with fail
  obtain ⟨w0, hw⟩ : ∃ wx, wx = ((w).alloc (.cells (wcells n) 24)).alloc (.cells (wcells d) 24) := ⟨_, rfl⟩
  rw [← hw] at Ga Gb HB ⊢
  clear hw
  go_cut [5, 6] (fun x y wx => IsBig wx x n ∧ IsBig wx y d ∧ Below w.heap.size w wx)
  case first =>
    have k0 := cell_row Ga.out
    have k1 := cell_row Gb.out
    have HB := Lib.hid HB.out.drew
    have HA0 := Lib.hid (show w0.drew.heap[w.heap.size]? = some (.cells (wcells n) 24 (0, 0)) from Ga.out)
    have HA1 := Lib.hid (show w0.drew.heap[w.heap.size + 1]? = some (.cells (wcells d) 24 (0, 0)) from Gb.out)
    go_region_held3 (fun w' => (∀ j, w'.cell? ⟨w.heap.size, j, none⟩ = (wcells n)[j]?) ∧ (∀ j, w'.cell? ⟨w.heap.size + 1, j, none⟩ = (wcells d)[j]?))
      (first
        | go_keep
        | (go_split_ands
           refine ⟨keepRow hb ?_, keepRow hb ?_⟩ <;> assumption))
      ((go_at_call 37
        refine (big_any _ ?hM _).mono ?_
        case hM => first | exact HMa.out | exact HMb.out
        rintro e wA ⟨rA, rfl, hr, hb⟩
        have HB := Lib.hid (below_then HB.out hb)
        (try have RA := Lib.hid (RA.out.below hb))
        (try have RB := Lib.hid (RB.out.below hb))
        have HA0 := Lib.hid ((hb.block _ (lt_of_heap HA0.out)).trans HA0.out)
        have HA1 := Lib.hid ((hb.block _ (lt_of_heap HA1.out)).trans HA1.out)
        first | have RA : Hid (IsBig wA rA n) := Lib.hid hr | have RB : Hid (IsBig wA rA d) := Lib.hid hr))
    all_goals (go_wp2; go_meet; exact ⟨RA.out, RB.out, HB.out⟩)
  case rest =>
    obtain ⟨hx, hy, hbw⟩ := hcut
    have RX := Lib.hid hx; have RY := Lib.hid hy; have HB := Lib.hid hbw
    clear hx hy hbw Ga Gb
    by_cases h0 : d = 0
    · have hz := HZ.out
      rw [decide_eq_true h0] at hz
      have HV := Lib.hid (HV1.out h0)
      clear h0
      go_wp2_with fail
      refine (S1.out _ _ RY.out).mono ?_
      rintro e w1 ⟨rfl, hb⟩
      replace HB := Lib.hid (below_then HB.out hb)
      replace RX := Lib.hid (RX.out.below hb)
      replace RY := Lib.hid (RY.out.below hb)
      clear hb
      go_wp2
      go_ret
      exact ⟨ret_i64 HV.out.symm, HB.out⟩
    · have hz := HZ.out
      rw [decide_eq_false h0] at hz
      by_cases h1 : 120 < l
      · have HV := Lib.hid (HV2.out h0 h1)
        have h1' : (120 : Int) < (l : Int) := by omega
        clear h0 h1
        go_wp2_with fail
        refine (S1.out _ _ RY.out).mono ?_
        rintro e w2 ⟨rfl, hb⟩
        replace HB := Lib.hid (below_then HB.out hb)
        replace RX := Lib.hid (RX.out.below hb)
        replace RY := Lib.hid (RY.out.below hb)
        clear hb
        go_wp2_with fail
        refine (S1.out _ _ RY.out).mono ?_
        rintro e w3 ⟨rfl, hb⟩
        replace HB := Lib.hid (below_then HB.out hb)
        replace RX := Lib.hid (RX.out.below hb)
        replace RY := Lib.hid (RY.out.below hb)
        clear hb
        go_wp2
        go_ret
        exact ⟨ret_i64 HV.out.symm, HB.out⟩
      · have h1' : ¬ (120 : Int) < (l : Int) := by omega
        by_cases hc : 0 ≤ C
        · have HV := Lib.hid (HV3.out h0 h1 hc)
          clear h0 h1
          go_wp2_with fail
          refine (S1.out _ _ RY.out).mono ?_
          rintro e w4 ⟨rfl, hb⟩
          replace HB := Lib.hid (below_then HB.out hb)
          replace RX := Lib.hid (RX.out.below hb)
          replace RY := Lib.hid (RY.out.below hb)
          clear hb
          go_wp2_with fail
          refine (S1.out _ _ RY.out).mono ?_
          rintro e w5 ⟨rfl, hb⟩
          replace HB := Lib.hid (below_then HB.out hb)
          replace RX := Lib.hid (RX.out.below hb)
          replace RY := Lib.hid (RY.out.below hb)
          clear hb
          go_wp2_with fail
          refine (S2.out _ _ RY.out).mono ?_
          rintro e w6 ⟨rs, rfl, hr, hb⟩
          replace HB := Lib.hid (below_then HB.out hb)
          replace RX := Lib.hid (RX.out.below hb)
          replace RY := Lib.hid (RY.out.below hb)
          have Rs := Lib.hid hr
          clear hr hb
          go_wp2_with fail
          refine (S3.out _ _ _ RX.out Rs.out).mono ?_
          rintro e w7 ⟨rfl, hb⟩
          replace HB := Lib.hid (below_then HB.out hb)
          replace RX := Lib.hid (RX.out.below hb)
          replace RY := Lib.hid (RY.out.below hb)
          replace Rs := Lib.hid (Rs.out.below hb)
          clear hb
          go_wp2
          go_ret
          exact ⟨ret_i64 HV.out.symm, HB.out⟩
        · have HV := Lib.hid (HV4.out h0 h1 hc)
          clear h0 h1
          go_wp2_with fail
          refine (S1.out _ _ RY.out).mono ?_
          rintro e w8 ⟨rfl, hb⟩
          replace HB := Lib.hid (below_then HB.out hb)
          replace RX := Lib.hid (RX.out.below hb)
          replace RY := Lib.hid (RY.out.below hb)
          clear hb
          go_wp2_with fail
          refine (S1.out _ _ RY.out).mono ?_
          rintro e w9 ⟨rfl, hb⟩
          replace HB := Lib.hid (below_then HB.out hb)
          replace RX := Lib.hid (RX.out.below hb)
          replace RY := Lib.hid (RY.out.below hb)
          clear hb
          go_wp2_with fail
          refine (S2.out _ _ RY.out).mono ?_
          rintro e w10 ⟨rs, rfl, hr, hb⟩
          replace HB := Lib.hid (below_then HB.out hb)
          replace RX := Lib.hid (RX.out.below hb)
          replace RY := Lib.hid (RY.out.below hb)
          have Rs := Lib.hid hr
          clear hr hb
          go_wp2_with fail
          refine (S3.out _ _ _ RX.out Rs.out).mono ?_
          rintro e w11 ⟨rfl, hb⟩
          replace HB := Lib.hid (below_then HB.out hb)
          replace RX := Lib.hid (RX.out.below hb)
          replace RY := Lib.hid (RY.out.below hb)
          replace Rs := Lib.hid (Rs.out.below hb)
          clear hb
          go_wp2
          go_ret
          exact ⟨ret_i64 HV.out.symm, HB.out⟩

set_option maxHeartbeats 2000000 in
/-- The quotient, found by trying digits. -/
theorem rquot_any (vn vd : Value) (n d : Nat) (w : World) (hn : n < M) (hd : d < M) (hd0 : 0 < d) (hq : n / d < P2 131) (h1 : IsBig w vn n) (h2 : IsBig w vd d) :
    Calls Tryz.prog 80 #[vn, vd] w (GivesBig (n / d) w) := by
  have HN := Lib.hid hn; have HD := Lib.hid hd; have HD0 := Lib.hid hd0; have HQ := Lib.hid hq
  have RN := Lib.hid h1; have RD := Lib.hid h2
  clear hn hd hd0 hq h1 h2
  go_enter Tryz.func80, Tryz.ntmps80
  go_wp2
  go_loopw [5, 6] (fun s5 s6 wr => ∃ k : Nat, k ≤ 131 ∧ s6 = .int .i64 ((k : Int) - 1) ∧ Hid (IsBig wr s5 (n / d / P2 k * P2 k)) ∧ Hid (Below w.heap.size w wr)) (fun _ s6 _ => (intOf s6 + 1).toNat)
  case atStart => exact ⟨131, by omega, rfl, Lib.hid (by rw [Nat.div_eq_of_lt HQ.out, Nat.zero_mul]; exact isBig_nil _ _ _), Lib.hid (below_al (Below.refl _ _) _)⟩
  case round =>
    obtain ⟨k, hk, rfl, HR, HB⟩ := hrel
    rcases k with _ | k
    · have e0 : n / d / P2 0 * P2 0 = n / d := by rw [P2_0, Nat.div_one, Nat.mul_one]
      rw [e0] at HR
      clear e0
      go_wp2
      go_ret
      exact ⟨_, rfl, HR.out, HB.out⟩
    · have e0 : ((k + 1 : Nat) : Int) - 1 = (k : Int) := by omega
      rw [e0]
      have hg := greedy (n / d) k
      have hqM : n / d < M := Nat.lt_of_le_of_lt (Nat.div_le_self _ _) HN.out
      have hql : n / d / P2 (k + 1) * P2 (k + 1) ≤ n / d := Nat.div_mul_le_self _ _
      have hpk : P2 k ≤ P2 130 := P2_le (by omega)
      have hp130 : P2 130 < M := by rw [M_eq]; exact P2_lt (by omega)
      have hMM : M + M = P2 513 := by rw [M_eq, show 513 = 512 + 1 from rfl, P2_add, show P2 1 = 2 by rw [P2_eq]]; omega
      have h513 : P2 513 < BIG := P2_small (by omega)
      have hmul : ∀ {x y : Nat}, x < P2 513 → y < M → x * y < BIG := fun hx hy => by
        have := Nat.mul_lt_mul'' hx hy
        rw [M_eq, ← P2_add] at this
        exact small_of this (by omega)
      have hle : (n / d / P2 (k + 1) * P2 (k + 1) + P2 k ≤ n / d) ↔ ((n / d / P2 (k + 1) * P2 (k + 1) + P2 k) * d ≤ n) := Nat.le_div_iff_mul_le HD0.out
      have S1 := Lib.hid (fun w' => power_any k (by omega) w')
      have S2 := Lib.hid (fun v v2 w' h h' => add_any v v2 (n / d / P2 (k + 1) * P2 (k + 1)) (P2 k) w' (by omega) (by omega) h h')
      have S3 := Lib.hid (fun v v2 w' h h' => mul_any v v2 (n / d / P2 (k + 1) * P2 (k + 1) + P2 k) d w' (by omega) (small_M HD.out) h h')
      have S4 := Lib.hid (fun v v2 w' h h' => cmp_any v v2 ((n / d / P2 (k + 1) * P2 (k + 1) + P2 k) * d) n w' (hmul (by omega) HD.out) (small_M HN.out) h h')
      have hcmp : (cmpN ((n / d / P2 (k + 1) * P2 (k + 1) + P2 k) * d) n ≤ 0) ↔ ((n / d / P2 (k + 1) * P2 (k + 1) + P2 k) * d ≤ n) := by
        unfold cmpN; split <;> (try split) <;> omega
      obtain ⟨q, hq⟩ : ∃ q, q = n / d / P2 (k + 1) * P2 (k + 1) := ⟨_, rfl⟩
      rw [← hq] at HR hg hle S2 S3 S4 hcmp
      obtain ⟨pk, hp⟩ : ∃ q, q = P2 k := ⟨_, rfl⟩
      rw [← hp] at hle S1 S2 S3 S4 hcmp
      obtain ⟨mo, hm⟩ : ∃ m, m = q + pk := ⟨_, rfl⟩
      rw [← hm] at hle S2 S3 S4 hcmp
      obtain ⟨pr, hr⟩ : ∃ m, m = mo * d := ⟨_, rfl⟩
      rw [← hr] at hle S3 S4 hcmp
      obtain ⟨C, hC⟩ : ∃ m, m = cmpN pr n := ⟨_, rfl⟩
      rw [← hC] at S4 hcmp
      have HG := Lib.hid (show n / d / P2 k * P2 k = if mo ≤ n / d then mo else q by rw [hg, hm, hp])
      have HLE := Lib.hid hle; have HCM := Lib.hid hcmp; have HK := Lib.hid hk
      have hki : (k : Int) ≤ 130 := by omega
      have RN2 := Lib.hid (RN.out.below HB.out)
      have RD2 := Lib.hid (RD.out.below HB.out)
      clear hg hqM hql hpk hp130 hMM h513 hmul hle hcmp hq hp hm hr hC hk
      by_cases hc : C ≤ 0
      · have HG2 := Lib.hid (show n / d / P2 k * P2 k = mo by rw [HG.out, if_pos (HLE.out.2 (HCM.out.1 hc))])
        have RQ := Lib.hid HR.out
        go_wp2_with fail
        refine (S1.out _).mono ?_
        rintro e w12 ⟨rp, rfl, hr, hb⟩
        replace HB := Lib.hid (below_then HB.out hb)
        replace RN2 := Lib.hid (RN2.out.below hb)
        replace RD2 := Lib.hid (RD2.out.below hb)
        replace RQ := Lib.hid (RQ.out.below hb)
        have Rp := Lib.hid hr
        clear hr hb
        go_wp2_with fail
        refine (S2.out _ _ _ RQ.out Rp.out).mono ?_
        rintro e w13 ⟨rm, rfl, hr, hb⟩
        replace HB := Lib.hid (below_then HB.out hb)
        replace RN2 := Lib.hid (RN2.out.below hb)
        replace RD2 := Lib.hid (RD2.out.below hb)
        replace RQ := Lib.hid (RQ.out.below hb)
        replace Rp := Lib.hid (Rp.out.below hb)
        have Rm := Lib.hid hr
        clear hr hb
        go_wp2_with fail
        refine (S3.out _ _ _ Rm.out RD2.out).mono ?_
        rintro e w14 ⟨rx, rfl, hr, hb⟩
        replace HB := Lib.hid (below_then HB.out hb)
        replace RN2 := Lib.hid (RN2.out.below hb)
        replace RD2 := Lib.hid (RD2.out.below hb)
        replace RQ := Lib.hid (RQ.out.below hb)
        replace Rp := Lib.hid (Rp.out.below hb)
        replace Rm := Lib.hid (Rm.out.below hb)
        have Rx := Lib.hid hr
        clear hr hb
        go_wp2_with fail
        refine (S4.out _ _ _ Rx.out RN2.out).mono ?_
        rintro e w15 ⟨rfl, hb⟩
        replace HB := Lib.hid (below_then HB.out hb)
        replace RN2 := Lib.hid (RN2.out.below hb)
        replace RD2 := Lib.hid (RD2.out.below hb)
        replace RQ := Lib.hid (RQ.out.below hb)
        replace Rp := Lib.hid (Rp.out.below hb)
        replace Rm := Lib.hid (Rm.out.below hb)
        replace Rx := Lib.hid (Rx.out.below hb)
        clear hb
        go_wp2
        go_roundw
        case rel => exact ⟨k, by have := HK.out; omega, by go_num, by rw [HG2.out]; exact Rm, HB⟩
        case measure => simp [intOf]
      · have HG2 := Lib.hid (show n / d / P2 k * P2 k = q by rw [HG.out, if_neg (fun h => hc (HCM.out.2 (HLE.out.1 h)))])
        have RQ := Lib.hid HR.out
        go_wp2_with fail
        refine (S1.out _).mono ?_
        rintro e w16 ⟨rp, rfl, hr, hb⟩
        replace HB := Lib.hid (below_then HB.out hb)
        replace RN2 := Lib.hid (RN2.out.below hb)
        replace RD2 := Lib.hid (RD2.out.below hb)
        replace RQ := Lib.hid (RQ.out.below hb)
        have Rp := Lib.hid hr
        clear hr hb
        go_wp2_with fail
        refine (S2.out _ _ _ RQ.out Rp.out).mono ?_
        rintro e w17 ⟨rm, rfl, hr, hb⟩
        replace HB := Lib.hid (below_then HB.out hb)
        replace RN2 := Lib.hid (RN2.out.below hb)
        replace RD2 := Lib.hid (RD2.out.below hb)
        replace RQ := Lib.hid (RQ.out.below hb)
        replace Rp := Lib.hid (Rp.out.below hb)
        have Rm := Lib.hid hr
        clear hr hb
        go_wp2_with fail
        refine (S3.out _ _ _ Rm.out RD2.out).mono ?_
        rintro e w18 ⟨rx, rfl, hr, hb⟩
        replace HB := Lib.hid (below_then HB.out hb)
        replace RN2 := Lib.hid (RN2.out.below hb)
        replace RD2 := Lib.hid (RD2.out.below hb)
        replace RQ := Lib.hid (RQ.out.below hb)
        replace Rp := Lib.hid (Rp.out.below hb)
        replace Rm := Lib.hid (Rm.out.below hb)
        have Rx := Lib.hid hr
        clear hr hb
        go_wp2_with fail
        refine (S4.out _ _ _ Rx.out RN2.out).mono ?_
        rintro e w19 ⟨rfl, hb⟩
        replace HB := Lib.hid (below_then HB.out hb)
        replace RN2 := Lib.hid (RN2.out.below hb)
        replace RD2 := Lib.hid (RD2.out.below hb)
        replace RQ := Lib.hid (RQ.out.below hb)
        replace Rp := Lib.hid (Rp.out.below hb)
        replace Rm := Lib.hid (Rm.out.below hb)
        replace Rx := Lib.hid (Rx.out.below hb)
        clear hb
        go_wp2
        go_roundw
        case rel => exact ⟨k, by have := HK.out; omega, by go_num, by rw [HG2.out]; exact RQ, HB⟩
        case measure => simp [intOf]

set_option maxRecDepth 100000 in
set_option maxHeartbeats 2000000 in
theorem rdivide_any (n d : Nat) (w : World) (hn : n < M) (hd : d < M) (hd0 : 0 < d) (hq : n / d < P2 131) :
    Calls Tryz.prog 48 #[wv n, wv d] w fun e w' => e = .returned (.tuple #[wv (n / d), wv (n % d)]) ∧ Below w.heap.size w w' := by
  have HMa := Lib.hid hn; have HMb := Lib.hid hd
  have hqM : n / d < M := Nat.lt_of_le_of_lt (Nat.div_le_self _ _) hn
  have hml : n / d * d ≤ n := Nat.div_mul_le_self _ _
  have hrm : n - n / d * d = n % d := by have := Nat.div_add_mod n d; rw [Nat.mul_comm] at this; omega
  have hrM : n % d < M := Nat.lt_of_le_of_lt (Nat.mod_le _ _) hn
  have hsn := small_M hn
  have S1 := Lib.hid (fun v v2 w' h h' => rquot_any v v2 n d w' hn hd hd0 hq h h')
  have S2 := Lib.hid (fun v w' h => wide_any v (n / d) w' (small_M hqM) h)
  rw [Nat.mod_eq_of_lt hqM] at S2
  have S3 := Lib.hid (fun v v2 w' h h' => mul_any v v2 (n / d) d w' (small_M hqM) (small_M hd) h h')
  have S4 : Hid (∀ (v v2 : Value) (w' : World), IsBig w' v n → IsBig w' v2 (n / d * d) → Calls Tryz.prog 74 #[v, v2] w' (GivesBig (n % d) w')) := Lib.hid fun v v2 w' h h' => by
    have := sub_any v v2 (n / d * d) (n % d) w' (by rw [← hrm]; omega) (by rw [show n / d * d + n % d = n by omega]; exact h) h'
    exact this
  have S5 := Lib.hid (fun v w' h => wide_any v (n % d) w' (small_M hrM) h)
  rw [Nat.mod_eq_of_lt hrM] at S5
  obtain ⟨q, e1⟩ : ∃ q, q = n / d := ⟨_, rfl⟩
  obtain ⟨r, e2⟩ : ∃ q, q = n % d := ⟨_, rfl⟩
  rw [← e1, ← e2]
  rw [← e1] at S1 S2 S3 S4
  rw [← e2] at S4 S5
  obtain ⟨f1, e3⟩ : ∃ f, f = decide (M ≤ q) := ⟨_, rfl⟩
  obtain ⟨f2, e4⟩ : ∃ f, f = decide (M ≤ r) := ⟨_, rfl⟩
  rw [← e3] at S2
  rw [← e4] at S5
  clear hn hd hd0 hq hqM hml hrm hrM hsn e1 e2 e3 e4
  go_enter Tryz.func48, Tryz.ntmps48
  have HB := Lib.hid (Below.refl w.heap.size w)
  have Ga := Lib.hid (alloc_new (w) (.cells (wcells n) 24))
  replace HB := Lib.hid (below_al HB.out (.cells (wcells n) 24))
  replace Ga := Lib.hid (keepAl (o' := .cells (wcells d) 24) Ga.out)
  have Gb := Lib.hid (alloc_new' (w := (w).alloc (.cells (wcells n) 24)) (n := w.heap.size + 1) (.cells (wcells d) 24) (by simp))
  replace HB := Lib.hid (below_al HB.out (.cells (wcells d) 24))
  replace Ga := Lib.hid (keepAl (o' := .cells (wcells 0) 24) Ga.out)
  replace Gb := Lib.hid (keepAl (o' := .cells (wcells 0) 24) Gb.out)
  have Gx := Lib.hid (alloc_new' (w := ((w).alloc (.cells (wcells n) 24)).alloc (.cells (wcells d) 24)) (n := w.heap.size + 1 + 1) (.cells (wcells 0) 24) (by simp))
  replace HB := Lib.hid (below_al HB.out (.cells (wcells 0) 24))
  replace Ga := Lib.hid (keepAl (o' := .cells (wcells 0) 24) Ga.out)
  replace Gb := Lib.hid (keepAl (o' := .cells (wcells 0) 24) Gb.out)
  replace Gx := Lib.hid (keepAl (o' := .cells (wcells 0) 24) Gx.out)
  have Gy := Lib.hid (alloc_new' (w := (((w).alloc (.cells (wcells n) 24)).alloc (.cells (wcells d) 24)).alloc (.cells (wcells 0) 24)) (n := w.heap.size + 1 + 1 + 1) (.cells (wcells 0) 24) (by simp))
  replace HB := Lib.hid (below_al HB.out (.cells (wcells 0) 24))
  go_upto_region 1 with fail
  obtain ⟨w0, hw⟩ : ∃ wx, wx = ((((w).alloc (.cells (wcells n) 24)).alloc (.cells (wcells d) 24)).alloc (.cells (wcells 0) 24)).alloc (.cells (wcells 0) 24) := ⟨_, rfl⟩
  rw [← hw] at Ga Gb Gx Gy HB ⊢
  clear hw
  go_cut [6, 7] (fun s t wx => IsBig wx s n ∧ IsBig wx t d ∧ wx.heap[w.heap.size + 1 + 1]? = some (.cells (wcells 0) 24 (0, 0)) ∧ wx.heap[w.heap.size + 1 + 1 + 1]? = some (.cells (wcells 0) 24 (0, 0)) ∧ Below w.heap.size w wx)
  case first =>
    have k0 := cell_row Ga.out
    have k1 := cell_row Gb.out
    have HB := Lib.hid HB.out.drew
    have HA0 := Lib.hid (show w0.drew.heap[w.heap.size]? = some (.cells (wcells n) 24 (0, 0)) from Ga.out)
    have HA1 := Lib.hid (show w0.drew.heap[w.heap.size + 1]? = some (.cells (wcells d) 24 (0, 0)) from Gb.out)
    have HA2 := Lib.hid (show w0.drew.heap[w.heap.size + 1 + 1]? = some (.cells (wcells 0) 24 (0, 0)) from Gx.out)
    have HA3 := Lib.hid (show w0.drew.heap[w.heap.size + 1 + 1 + 1]? = some (.cells (wcells 0) 24 (0, 0)) from Gy.out)
    go_region_held3 (fun w' => (∀ j, w'.cell? ⟨w.heap.size, j, none⟩ = (wcells n)[j]?) ∧ (∀ j, w'.cell? ⟨w.heap.size + 1, j, none⟩ = (wcells d)[j]?))
      (first
        | go_keep
        | (go_split_ands
           refine ⟨keepRow hb ?_, keepRow hb ?_⟩ <;> assumption))
      ((go_at_call 37
        refine (big_any _ ?hM _).mono ?_
        case hM => first | exact HMa.out | exact HMb.out
        rintro e wA ⟨rA, rfl, hr, hb⟩
        have HB := Lib.hid (below_then HB.out hb)
        (try have RA := Lib.hid (RA.out.below hb))
        (try have RB := Lib.hid (RB.out.below hb))
        have HA0 := Lib.hid ((hb.block _ (lt_of_heap HA0.out)).trans HA0.out)
        have HA1 := Lib.hid ((hb.block _ (lt_of_heap HA1.out)).trans HA1.out)
        have HA2 := Lib.hid ((hb.block _ (lt_of_heap HA2.out)).trans HA2.out)
        have HA3 := Lib.hid ((hb.block _ (lt_of_heap HA3.out)).trans HA3.out)
        first | have RA : Hid (IsBig wA rA n) := Lib.hid hr | have RB : Hid (IsBig wA rA d) := Lib.hid hr))
    all_goals (go_wp2; go_meet; exact ⟨RA.out, RB.out, HA2.out, HA3.out, HB.out⟩)
  case rest =>
    obtain ⟨hx, hy, hg1, hg2, hbw⟩ := hcut
    have RX := Lib.hid hx; have RY := Lib.hid hy; have HB := Lib.hid hbw; have Gx := Lib.hid hg1; have Gy := Lib.hid hg2
    clear hx hy hbw hg1 hg2 Ga Gb
    have HZ := Lib.hid (lt_of_heap Gy.out)
    have cGx := cell_row Gx.out
    have cGy := cell_row Gy.out
    go_wp2_with fail
    refine (S1.out _ _ _ RX.out RY.out).mono ?_
    rintro e w20 ⟨rq, rfl, hr, hb⟩
    clear cGx cGy
    replace HB := Lib.hid (below_then HB.out hb)
    replace RX := Lib.hid (RX.out.below hb)
    replace RY := Lib.hid (RY.out.below hb)
    replace Gx := Lib.hid ((hb.block _ (lt_of_heap Gx.out)).trans Gx.out)
    replace Gy := Lib.hid ((hb.block _ (lt_of_heap Gy.out)).trans Gy.out)
    have Rq := Lib.hid hr
    clear hr hb
    have cGx := cell_row Gx.out
    have cGy := cell_row Gy.out
    go_wp2_with fail
    refine (S2.out _ _ Rq.out).mono ?_
    rintro e w21 ⟨rfl, hb⟩
    clear cGx cGy
    replace HB := Lib.hid (below_then HB.out hb)
    replace RX := Lib.hid (RX.out.below hb)
    replace RY := Lib.hid (RY.out.below hb)
    replace Gx := Lib.hid ((hb.block _ (lt_of_heap Gx.out)).trans Gx.out)
    replace Gy := Lib.hid ((hb.block _ (lt_of_heap Gy.out)).trans Gy.out)
    replace Rq := Lib.hid (Rq.out.below hb)
    clear hb
    have HZ2 := Lib.hid (lt_of_heap Gy.out)
    replace RX := Lib.hid (RX.out.below (below_al (Below.refl (w21).heap.size (w21)) (.cells (wcells q) 24)))
    replace RY := Lib.hid (RY.out.below (below_al (Below.refl (w21).heap.size (w21)) (.cells (wcells q) 24)))
    replace Gx := Lib.hid (keepAl (o' := .cells (wcells q) 24) Gx.out)
    replace Gy := Lib.hid (keepAl (o' := .cells (wcells q) 24) Gy.out)
    replace Rq := Lib.hid (Rq.out.below (below_al (Below.refl (w21).heap.size (w21)) (.cells (wcells q) 24)))
    have Gu := Lib.hid (alloc_new (w21) (.cells (wcells q) 24))
    replace HB := Lib.hid (below_al HB.out (.cells (wcells q) 24))
    have cGx := cell_row Gx.out
    have cGy := cell_row Gy.out
    have cGu := cell_row Gu.out
    go_wp2_with fail
    refine (S3.out _ _ _ Rq.out RY.out).mono ?_
    rintro e w22 ⟨rm, rfl, hr, hb⟩
    clear cGx cGy cGu
    replace HB := Lib.hid (below_then HB.out hb)
    replace RX := Lib.hid (RX.out.below hb)
    replace RY := Lib.hid (RY.out.below hb)
    replace Gx := Lib.hid ((hb.block _ (lt_of_heap Gx.out)).trans Gx.out)
    replace Gy := Lib.hid ((hb.block _ (lt_of_heap Gy.out)).trans Gy.out)
    replace Rq := Lib.hid (Rq.out.below hb)
    replace Gu := Lib.hid ((hb.block _ (lt_of_heap Gu.out)).trans Gu.out)
    have Rm := Lib.hid hr
    clear hr hb
    have cGx := cell_row Gx.out
    have cGy := cell_row Gy.out
    have cGu := cell_row Gu.out
    go_wp2_with fail
    refine (S4.out _ _ _ RX.out Rm.out).mono ?_
    rintro e w23 ⟨rr, rfl, hr, hb⟩
    clear cGx cGy cGu
    replace HB := Lib.hid (below_then HB.out hb)
    replace RX := Lib.hid (RX.out.below hb)
    replace RY := Lib.hid (RY.out.below hb)
    replace Gx := Lib.hid ((hb.block _ (lt_of_heap Gx.out)).trans Gx.out)
    replace Gy := Lib.hid ((hb.block _ (lt_of_heap Gy.out)).trans Gy.out)
    replace Rq := Lib.hid (Rq.out.below hb)
    replace Gu := Lib.hid ((hb.block _ (lt_of_heap Gu.out)).trans Gu.out)
    replace Rm := Lib.hid (Rm.out.below hb)
    have Rr := Lib.hid hr
    clear hr hb
    have cGx := cell_row Gx.out
    have cGy := cell_row Gy.out
    have cGu := cell_row Gu.out
    go_wp2_with fail
    refine (S5.out _ _ Rr.out).mono ?_
    rintro e w24 ⟨rfl, hb⟩
    clear cGx cGy cGu
    replace HB := Lib.hid (below_then HB.out hb)
    replace Gx := Lib.hid ((hb.block _ (lt_of_heap Gx.out)).trans Gx.out)
    replace Gy := Lib.hid ((hb.block _ (lt_of_heap Gy.out)).trans Gy.out)
    replace Gu := Lib.hid ((hb.block _ (lt_of_heap Gu.out)).trans Gu.out)
    replace Rr := Lib.hid (Rr.out.below hb)
    clear hb
    have HZ3 := Lib.hid (lt_of_heap Gu.out)
    have HZ4 := Lib.hid (lt_of_heap Gy.out)
    replace Gx := Lib.hid (keepAl (o' := .cells (wcells r) 24) Gx.out)
    replace Gy := Lib.hid (keepAl (o' := .cells (wcells r) 24) Gy.out)
    replace Gu := Lib.hid (keepAl (o' := .cells (wcells r) 24) Gu.out)
    have Gv := Lib.hid (alloc_new (w24) (.cells (wcells r) 24))
    replace HB := Lib.hid (below_al HB.out (.cells (wcells r) 24))
    have cGx := cell_row Gx.out
    have cGy := cell_row Gy.out
    have cGu := cell_row Gu.out
    have cGv := cell_row Gv.out
    go_upto_region 5 with fail
    clear cGx cGy cGu cGv
    obtain ⟨wE, hw⟩ : ∃ wx, wx = (w24).alloc (.cells (wcells r) 24) := ⟨_, rfl⟩
    rw [← hw] at Gx Gy Gu Gv HB ⊢
    clear hw
    refine wp_region_store [⟨w.heap.size + 1 + 1, 24, .tmp 34⟩, ⟨w.heap.size + 1 + 1 + 1, 24, .tmp 35⟩] (by kernel_rfl) (by kernel_rfl) (by kernel_rfl) rfl (List.Pairwise.cons (by intro r hr; simp only [List.mem_cons, List.not_mem_nil, or_false] at hr; subst hr <;> dsimp only <;> (have := HZ2.out; have := HZ4.out; omega)) (List.pairwise_singleton _ _)) ?_ ?_
    · intro r hr
      simp only [List.mem_cons, List.not_mem_nil, or_false] at hr
      rcases hr with rfl | rfl
      · exact ⟨_, Gx.out, by kernel_rfl⟩
      · exact ⟨_, Gy.out, by kernel_rfl⟩
    have xGu := extR_row (B := wE.heap.size) (R := [⟨w.heap.size + 1 + 1, 24, .tmp 34⟩, ⟨w.heap.size + 1 + 1 + 1, 24, .tmp 35⟩]) Gu.out (lt_of_heap Gu.out) (by intro r hr; simp only [List.mem_cons, List.not_mem_nil, or_false] at hr; rcases hr with rfl | rfl <;> dsimp only <;> (have := HZ2.out; have := HZ4.out; omega))
    have xGv := extR_row (B := wE.heap.size) (R := [⟨w.heap.size + 1 + 1, 24, .tmp 34⟩, ⟨w.heap.size + 1 + 1 + 1, 24, .tmp 35⟩]) Gv.out (lt_of_heap Gv.out) (by intro r hr; simp only [List.mem_cons, List.not_mem_nil, or_false] at hr; rcases hr with rfl | rfl <;> dsimp only <;> (have := HZ2.out; have := HZ4.out; omega))
    repeat (refine wpCalm_step (fun K hK => ?_); go_simp; first | (refine hK _ ?_; clear hK K) | (apply Exists.intro; refine ⟨fun _ => ?_, hK _ ?_⟩; (first | fail); clear hK K))
    refine wpCalm_nil ⟨?_, fun x hx => ?_⟩
    · intro r hr
      simp only [List.mem_cons, List.not_mem_nil, or_false] at hr
      rcases hr with rfl | rfl <;> exact fits_wv (by kernel_rfl) _
    replace Gx : Hid (x.val.heap[w.heap.size + 1 + 1]? = some (.cells (wcells (q)) 24 (0, 0))) := Lib.hid (hx ⟨w.heap.size + 1 + 1, 24, .tmp 34⟩ (by simp))
    replace Gy : Hid (x.val.heap[w.heap.size + 1 + 1 + 1]? = some (.cells (wcells (r)) 24 (0, 0))) := Lib.hid (hx ⟨w.heap.size + 1 + 1 + 1, 24, .tmp 35⟩ (by simp))
    replace Gu := Lib.hid (extR_block x Gu.out (lt_of_heap Gu.out) (by intro r hr; simp only [List.mem_cons, List.not_mem_nil, or_false] at hr; rcases hr with rfl | rfl <;> dsimp only <;> (have := HZ2.out; have := HZ4.out; omega)))
    replace Gv := Lib.hid (extR_block x Gv.out (lt_of_heap Gv.out) (by intro r hr; simp only [List.mem_cons, List.not_mem_nil, or_false] at hr; rcases hr with rfl | rfl <;> dsimp only <;> (have := HZ2.out; have := HZ4.out; omega)))
    replace HB := Lib.hid (extR_below x HB.out HB.out.size (by intro r hr; simp only [List.mem_cons, List.not_mem_nil, or_false] at hr; rcases hr with rfl | rfl <;> dsimp only <;> (have := HZ2.out; have := HZ4.out; omega)))
    clear hx xGu xGv
    obtain ⟨w25, hw⟩ : ∃ wx, wx = x.val := ⟨_, rfl⟩
    rw [← hw] at Gx Gy Gu Gv HB ⊢
    clear hw x
    have c1 := cell_row Gx.out
    have c2 := cell_row Gy.out
    go_wp2
    exact bodyPost_ret (v := .tuple #[wv q, wv r]) (by simp [results, Tryz.results48, go_sem, c1, c2]) rfl ⟨rfl, HB.out⟩
end Go.Proofs.YtegmmaaapdgocaaGreat
