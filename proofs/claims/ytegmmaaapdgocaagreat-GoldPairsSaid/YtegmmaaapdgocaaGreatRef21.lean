/- THE WALK of the reference of gold: numerator and denominator, round by round. -/
import Derived.Test.YtegmmaaapdgocaaGreatGold2
import Derived.Test.YtegmmaaapdgocaaGreatK26
import Derived.Test.YtegmmaaapdgocaaGreatK32
namespace Go.Proofs.YtegmmaaapdgocaaGreat
open Go Go.RowKit

attribute [local go_sem ↓] Go.wp_at_zero Go.wp_at_succ
set_option maxRecDepth 100000 in
set_option maxHeartbeats 2000000 in
theorem rpair21_any (v v2 : Value) (n d k : Nat) (w : World) (hn : n < M) (hd : d < M) (hm : mayN n d = 0) (hk : k ≤ 10) (h : IsBig w v n) (h2 : IsBig w v2 d) :
    Calls Tryz.prog 54 #[v, v2, .int .i64 (k : Int)] w fun e w' => ∃ va vb, e = .returned (.tuple #[va, vb]) ∧ IsBig w' va (gpM n d k) ∧ IsBig w' vb (gpD d k) ∧ Below w.heap.size w w' := by
  obtain ⟨m1, m2, m3⟩ := may_ok hm
  obtain ⟨r1, r2, r3, _⟩ := shift_range hm
  have hb := up_len hm
  have hN := may_N hm
  have hl : blen d ≤ 120 := blen_le_of m2
  have S1 := Lib.hid (fun w' h => rlen_any v2 d w' (small_M hd) h)
  have S2 := Lib.hid (fun w' h => rshl_any v n (128 - blen d) w' (small_M hn) (by omega) h)
  have S3 := Lib.hid (fun w' h => rshl_any v2 d (128 - blen d) w' (small_M hd) (by omega) h)
  have hk1 : IntKind.i64.wrap (128 - ((blen d : Nat) : Int)) = ((128 - blen d : Nat) : Int) := by rw [IntWalk.i64_in _ (by omega)]; omega
  have hp : 0 < d * P2 (128 - blen d) := Nat.lt_of_lt_of_le (P2_pos _) r1
  unfold gpM gpD
  obtain ⟨b, hbe⟩ : ∃ b, b = 128 - blen d := ⟨_, rfl⟩
  rw [← hbe] at S2 S3 r1 r2 r3 hb hk1 hN hp ⊢
  obtain ⟨l, hle⟩ : ∃ b, b = blen d := ⟨_, rfl⟩
  rw [← hle] at S1 hk1
  obtain ⟨D, hD⟩ : ∃ D, D = d * P2 b := ⟨_, rfl⟩
  rw [← hD] at S3 r1 r2 r3 hb hp ⊢
  obtain ⟨N, hNe⟩ : ∃ D, D = n * P2 b := ⟨_, rfl⟩
  rw [← hNe] at S2 r3 hN ⊢
  have hDB : D < BIG := small_of r2 (by decide)
  have hNB : N < BIG := small_of hN (by decide)
  obtain ⟨q1, q2, q3⟩ := recipV_guess hb
  have S4 := Lib.hid (fun v w' h => rshr_any v D 121 w' hDB (by decide) h)
  have S5 := Lib.hid (fun w' => rrecip_any (((D / P2 121 : Nat) : Int) - 64) w')
  rw [q3] at S5
  obtain ⟨c1, c2, c3, c4⟩ := gd_first_bounds hN r2
  have hg := guessV_le D
  have hgB : guessV D < BIG := small_of (show guessV D < P2 32 by rw [P2_eq]; omega) (by decide)
  have S6 := Lib.hid (fun w' => small_any (guessV D) w' (by omega))
  have S7 := Lib.hid (fun v v2 w' h h2 => mul_any v v2 N (guessV D) w' hNB hgB h h2)
  have hNg : N * guessV D < P2 290 := by
    have := Nat.mul_lt_mul'' hN (show guessV D < P2 34 by rw [P2_eq]; omega)
    rwa [← P2_add] at this
  have S8 := Lib.hid (fun v w' h => rshr_any v (N * guessV D) 105 w' (small_of hNg (by decide)) (by decide) h)
  rw [show N * guessV D / P2 105 = gdM N D 0 from rfl] at S8
  have S9 := Lib.hid (fun v v2 w' h h2 => mul_any v v2 D (guessV D) w' hDB hgB h h2)
  have S10 := Lib.hid (fun v w' h => rshl_any v (D * guessV D) 23 w' (small_of c1 (by decide)) (by decide) h)
  rw [show D * guessV D * P2 23 = gdD D 0 from rfl] at S10
  have S11 := Lib.hid (fun w' => power_any 161 (by decide) w')
  have hM : ∀ i, i ≤ 10 → gdM N D i < P2 162 := fun i hi => gdM_small hb (Nat.le_of_lt r3) hi hp
  have hDd : ∀ i, gdD D i ≤ P2 161 := fun i => (gd_all hb i).le
  have hDd2 : ∀ i, gdD D i < P2 162 := fun i => Nat.lt_of_le_of_lt (hDd i) (P2_lt (by omega))
  have hls : ∀ i, P2 161 - gdD D i < P2 162 := fun i => Nat.lt_of_le_of_lt (Nat.sub_le _ _) (P2_lt (by omega))
  have S12 := Lib.hid (fun i v v2 w' (h : IsBig w' v (P2 161)) h2 => sub_any v v2 (gdD D i) (P2 161 - gdD D i) w' (by rw [Nat.add_sub_cancel' (hDd i)]; exact small_of (P2_lt (show 161 < 162 by omega)) (by decide)) (by rw [Nat.add_sub_cancel' (hDd i)]; exact h) h2)
  have S13 := Lib.hid (fun i (hi : i ≤ 10) v v2 w' h h2 => mul_any v v2 (gdM N D i) (P2 161 - gdD D i) w' (small_of (hM i hi) (by decide)) (small_of (hls i) (by decide)) h h2)
  have hp1 : ∀ i, i ≤ 10 → gdM N D i * (P2 161 - gdD D i) < P2 324 := fun i hi => by
    have := Nat.mul_lt_mul'' (hM i hi) (hls i)
    rwa [← P2_add] at this
  have S14 := Lib.hid (fun i (hi : i ≤ 10) v w' h => rshr_any v (gdM N D i * (P2 161 - gdD D i)) 160 w' (small_of (hp1 i hi) (by decide)) (by decide) h)
  have S15 := Lib.hid (fun i v v2 w' h h2 => mul_any v v2 (gdD D i) (P2 161 - gdD D i) w' (small_of (hDd2 i) (by decide)) (small_of (hls i) (by decide)) h h2)
  have hp2 : ∀ i, gdD D i * (P2 161 - gdD D i) < P2 324 := fun i => by
    have := Nat.mul_lt_mul'' (hDd2 i) (hls i)
    rwa [← P2_add] at this
  have S16 := Lib.hid (fun i v w' h => rshr_any v (gdD D i * (P2 161 - gdD D i)) 160 w' (small_of (hp2 i) (by decide)) (by decide) h)
  have HY1 := Lib.hid (fun i => (gdM_succ N D i).symm)
  have HY2 := Lib.hid (fun i => (gdD_succ D i).symm)
  obtain ⟨q, hq⟩ : ∃ q, q = D / P2 121 := ⟨_, rfl⟩
  rw [← hq] at S4 S5 q1 q2
  have HQ := Lib.hid (show 0 < q ∧ q < P2 32 by rw [P2_eq]; omega)
  have e1 : IntKind.i64.wrap (q : Int) = (q : Int) := IntWalk.i64_in _ (by omega)
  have e2 : IntKind.i64.wrap ((q : Int) - 64) = (q : Int) - 64 := IntWalk.i64_in _ (by omega)
  obtain ⟨E1, hE1⟩ : ∃ q, q = N * guessV D := ⟨_, rfl⟩
  obtain ⟨E2, hE2⟩ : ∃ q, q = D * guessV D := ⟨_, rfl⟩
  rw [← hE1] at S7 S8
  rw [← hE2] at S9 S10
  obtain ⟨G, hG⟩ : ∃ q, q = guessV D := ⟨_, rfl⟩
  rw [← hG] at S5 S6 S7 S9
  obtain ⟨ok, hok⟩ : ∃ x, x = recipB ((q : Int) - 64) := ⟨_, rfl⟩
  rw [← hok] at S5
  have HK := Lib.hid hk
  have Rn := Lib.hid h
  have Rd := Lib.hid h2
  clear h h2 hn hd hm hk m1 m2 m3 r1 r2 r3 hb hN hl hp hbe hle hD hNe hDB hNB q1 q2 q3 c1 c2 c3 c4 hg hgB hNg hM hDd hDd2 hls hp1 hp2 hq hE1 hE2 hG hok
  go_enter Tryz.func54, Tryz.ntmps54
  have HB := Lib.hid (Below.refl w.heap.size w)
  go_wp2_with fail
  refine (S1.out _ Rd.out).mono ?_
  rintro e w1 ⟨rfl, hb⟩
  replace HB := Lib.hid (below_then HB.out hb)
  replace Rn := Lib.hid (Rn.out.below hb)
  replace Rd := Lib.hid (Rd.out.below hb)
  clear hb
  go_wp2_with fail
  refine (S2.out _ Rn.out).mono ?_
  rintro e w2 ⟨ra, rfl, hr, hb⟩
  replace HB := Lib.hid (below_then HB.out hb)
  replace Rn := Lib.hid (Rn.out.below hb)
  replace Rd := Lib.hid (Rd.out.below hb)
  have Ra := Lib.hid hr
  clear hr hb
  go_wp2_with fail
  refine (S3.out _ Rd.out).mono ?_
  rintro e w3 ⟨rb, rfl, hr, hb⟩
  replace HB := Lib.hid (below_then HB.out hb)
  replace Rd := Lib.hid (Rd.out.below hb)
  replace Ra := Lib.hid (Ra.out.below hb)
  have Rb := Lib.hid hr
  clear hr hb
  go_wp2_with fail
  refine (S4.out _ _ Rb.out).mono ?_
  rintro e w4 ⟨rq, rfl, hr, hb⟩
  replace HB := Lib.hid (below_then HB.out hb)
  replace Ra := Lib.hid (Ra.out.below hb)
  replace Rb := Lib.hid (Rb.out.below hb)
  have Rq := Lib.hid hr
  clear hr hb
  obtain ⟨qb, qo, qc, rfl, hl1, ch⟩ := Rq.out.lone HQ.out.1 HQ.out.2
  clear hl1
  go_wp2_with fail
  refine (S5.out _).mono ?_
  rintro e w5 ⟨rfl, hb⟩
  replace HB := Lib.hid (below_then HB.out hb)
  replace Ra := Lib.hid (Ra.out.below hb)
  replace Rb := Lib.hid (Rb.out.below hb)
  replace Rq := Lib.hid (Rq.out.below hb)
  clear hb
  clear ch
  go_wp2_with fail
  refine (S6.out _).mono ?_
  rintro e w6 ⟨rf, rfl, hr, hb⟩
  replace HB := Lib.hid (below_then HB.out hb)
  replace Ra := Lib.hid (Ra.out.below hb)
  replace Rb := Lib.hid (Rb.out.below hb)
  have Rf := Lib.hid hr
  clear hr hb
  go_wp2_with fail
  refine (S7.out _ _ _ Ra.out Rf.out).mono ?_
  rintro e w7 ⟨rm, rfl, hr, hb⟩
  replace HB := Lib.hid (below_then HB.out hb)
  replace Ra := Lib.hid (Ra.out.below hb)
  replace Rb := Lib.hid (Rb.out.below hb)
  replace Rf := Lib.hid (Rf.out.below hb)
  have Rm := Lib.hid hr
  clear hr hb
  go_wp2_with fail
  refine (S8.out _ _ Rm.out).mono ?_
  rintro e w8 ⟨rx, rfl, hr, hb⟩
  replace HB := Lib.hid (below_then HB.out hb)
  replace Rb := Lib.hid (Rb.out.below hb)
  replace Rm := Lib.hid (Rm.out.below hb)
  have Rx := Lib.hid hr
  clear hr hb
  go_wp2_with fail
  refine (S6.out _).mono ?_
  rintro e w9 ⟨rh, rfl, hr, hb⟩
  replace HB := Lib.hid (below_then HB.out hb)
  replace Rb := Lib.hid (Rb.out.below hb)
  replace Rx := Lib.hid (Rx.out.below hb)
  have Rh := Lib.hid hr
  clear hr hb
  go_wp2_with fail
  refine (S9.out _ _ _ Rb.out Rh.out).mono ?_
  rintro e w10 ⟨rj, rfl, hr, hb⟩
  replace HB := Lib.hid (below_then HB.out hb)
  replace Rb := Lib.hid (Rb.out.below hb)
  replace Rx := Lib.hid (Rx.out.below hb)
  replace Rh := Lib.hid (Rh.out.below hb)
  have Rj := Lib.hid hr
  clear hr hb
  go_wp2_with fail
  refine (S10.out _ _ Rj.out).mono ?_
  rintro e w11 ⟨ry, rfl, hr, hb⟩
  replace HB := Lib.hid (below_then HB.out hb)
  replace Rx := Lib.hid (Rx.out.below hb)
  replace Rj := Lib.hid (Rj.out.below hb)
  have Ry := Lib.hid hr
  clear hr hb
  go_wp2
  clear Rn Rd Ra Rb Rf Rm Rh Rj S1 S2 S3 S4 S5 S6 S7 S8 S9 S10
  go_loopw [11, 12, 13] (fun s11 s12 s13 wr => ∃ i : Nat, s13 = .int .i64 (i : Int) ∧ i ≤ k ∧ Hid (IsBig wr s11 (gdM N D i)) ∧ Hid (IsBig wr s12 (gdD D i)) ∧ Hid (Below w.heap.size w wr)) (fun _ _ s13 _ => k - (intOf s13).toNat)
  case atStart => exact ⟨0, rfl, Nat.zero_le _, Rx, Ry, HB⟩
  case round =>
    clear HB Rx Ry
    obtain ⟨i, rfl, hi, Rx, Ry, HB⟩ := hrel
    have hkk := HK.out
    by_cases hlt : i < k
    · have e3 : (i : Int) < (k : Int) := by omega
      have e4 : IntKind.i64.wrap ((i : Int) + 1) = ((i + 1 : Nat) : Int) := by rw [IntWalk.i64_in _ (by omega)]; omega
      have HLT := Lib.hid hlt
      have T12 := Lib.hid (S12.out i); have T13 := Lib.hid (S13.out i (by omega)); have T14 := Lib.hid (S14.out i (by omega)); have T15 := Lib.hid (S15.out i); have T16 := Lib.hid (S16.out i)
      rw [HY1.out i] at T14
      rw [HY2.out i] at T16
      clear hlt hi hkk
      go_wp2_with fail
      refine (S11.out _).mono ?_
      rintro e w12 ⟨rp, rfl, hr, hb⟩
      replace HB := Lib.hid (below_then HB.out hb)
      replace Rx := Lib.hid (Rx.out.below hb)
      replace Ry := Lib.hid (Ry.out.below hb)
      have Rp := Lib.hid hr
      clear hr hb
      go_wp2_with fail
      refine (T12.out _ _ _ Rp.out Ry.out).mono ?_
      rintro e w13 ⟨rt, rfl, hr, hb⟩
      replace HB := Lib.hid (below_then HB.out hb)
      replace Rx := Lib.hid (Rx.out.below hb)
      replace Ry := Lib.hid (Ry.out.below hb)
      replace Rp := Lib.hid (Rp.out.below hb)
      have Rt := Lib.hid hr
      clear hr hb
      go_wp2_with fail
      refine (T13.out _ _ _ Rx.out Rt.out).mono ?_
      rintro e w14 ⟨ru, rfl, hr, hb⟩
      replace HB := Lib.hid (below_then HB.out hb)
      replace Rx := Lib.hid (Rx.out.below hb)
      replace Ry := Lib.hid (Ry.out.below hb)
      replace Rt := Lib.hid (Rt.out.below hb)
      have Ru := Lib.hid hr
      clear hr hb
      go_wp2_with fail
      refine (T14.out _ _ Ru.out).mono ?_
      rintro e w15 ⟨rz, rfl, hr, hb⟩
      replace HB := Lib.hid (below_then HB.out hb)
      replace Rx := Lib.hid (Rx.out.below hb)
      replace Ry := Lib.hid (Ry.out.below hb)
      replace Rt := Lib.hid (Rt.out.below hb)
      replace Ru := Lib.hid (Ru.out.below hb)
      have Rz := Lib.hid hr
      clear hr hb
      go_wp2_with fail
      refine (T15.out _ _ _ Ry.out Rt.out).mono ?_
      rintro e w16 ⟨rc, rfl, hr, hb⟩
      replace HB := Lib.hid (below_then HB.out hb)
      replace Ry := Lib.hid (Ry.out.below hb)
      replace Rt := Lib.hid (Rt.out.below hb)
      replace Rz := Lib.hid (Rz.out.below hb)
      have Rc := Lib.hid hr
      clear hr hb
      go_wp2_with fail
      refine (T16.out _ _ Rc.out).mono ?_
      rintro e w17 ⟨ro, rfl, hr, hb⟩
      replace HB := Lib.hid (below_then HB.out hb)
      replace Rz := Lib.hid (Rz.out.below hb)
      replace Rc := Lib.hid (Rc.out.below hb)
      have Ro := Lib.hid hr
      clear hr hb
      go_wp2
      go_roundw
      case rel => exact ⟨i + 1, by go_num, HLT.out, Rz, Ro, HB⟩
      case measure => have := HLT.out; simp [intOf]; omega
    · obtain rfl : i = k := by omega
      clear hlt hi hkk
      go_wp2
      go_ret2
      exact ⟨_, _, rfl, Rx.out, Ry.out, HB.out⟩
end Go.Proofs.YtegmmaaapdgocaaGreat
