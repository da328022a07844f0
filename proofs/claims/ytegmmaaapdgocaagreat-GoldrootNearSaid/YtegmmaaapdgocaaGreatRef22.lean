/- THE WALK of the reference of goldroot: a root and half its reciprocal, round by round. -/
import Derived.Test.YtegmmaaapdgocaaGreatGoldr2
import Derived.Test.YtegmmaaapdgocaaGreatK26
import Derived.Test.YtegmmaaapdgocaaGreatK33
namespace Go.Proofs.YtegmmaaapdgocaaGreat
open Go Go.RowKit

attribute [local go_sem ↓] Go.wp_at_zero Go.wp_at_succ
set_option maxRecDepth 100000 in
set_option maxHeartbeats 2000000 in
theorem rpair22_any (v : Value) (U k : Nat) (w : World) (hb : blen U = 255 ∨ blen U = 256) (r1 : P2 254 ≤ U) (r2 : U < P2 256) (hk : k ≤ 10) (h : IsBig w v U) :
    Calls Tryz.prog 40 #[v, .int .i64 (k : Int)] w fun e w' => ∃ va vb, e = .returned (.tuple #[va, vb]) ∧ IsBig w' va (grG U k) ∧ IsBig w' vb (grH U k) ∧ Below w.heap.size w w' := by
  have hUB : U < BIG := small_of r2 (by decide)
  obtain ⟨q1, q2, q3⟩ := rootV_guess hb
  have S3 := Lib.hid (fun v w' h => rshr_any v U 249 w' hUB (by decide) h)
  have S4 := Lib.hid (fun w' => rroot17_any ((U / P2 249 : Nat) : Int) w')
  rw [q3] at S4
  have hg := guessRV_le U
  have hgB : guessRV U < BIG := small_of (show guessRV U < P2 32 by rw [P2_eq]; omega) (by decide)
  have S5 := Lib.hid (fun w' => small_any (guessRV U) w' (by omega))
  have S6 := Lib.hid (fun v v2 w' h h2 => mul_any v v2 U (guessRV U) w' hUB hgB h h2)
  have hUg : U * guessRV U < P2 290 := by
    have := Nat.mul_lt_mul'' r2 (show guessRV U < P2 34 by rw [P2_eq]; omega)
    rwa [← P2_add] at this
  have S7 := Lib.hid (fun v w' h => rshr_any v (U * guessRV U) 105 w' (small_of hUg (by decide)) (by decide) h)
  rw [show U * guessRV U / P2 105 = grG U 0 from rfl] at S7
  have S8 := Lib.hid (fun v w' h => rshl_any v (guessRV U) 150 w' hgB (by decide) h)
  rw [show guessRV U * P2 150 = grH U 0 from rfl] at S8
  have S9 := Lib.hid (fun w' => power_any 160 (by decide) w')
  have S9b := Lib.hid (fun w' => power_any 159 (by decide) w')
  have S9c := Lib.hid (fun v v2 w' h h2 => add_any v v2 (P2 160) (P2 159) w' (small_of (P2_lt (show 160 < 161 by omega)) (by decide)) (small_of (P2_lt (show 159 < 160 by omega)) (by decide)) h h2)
  have hs := half_sum
  have st := fun i (hi : i ≤ 10) => gr_step hb r1 r2 hi
  have S10 := Lib.hid (fun i (hi : i ≤ 10) v v2 w' h h2 => mul_any v v2 (grG U i) (grH U i) w' (small_of (st i hi).1 (by decide)) (small_of (st i hi).2.1 (by decide)) h h2)
  have hGH : ∀ i, i ≤ 10 → grG U i * grH U i < P2 326 := fun i hi => by
    have := Nat.mul_lt_mul'' (st i hi).1 (st i hi).2.1
    rwa [← P2_add] at this
  have S11 := Lib.hid (fun i (hi : i ≤ 10) v w' h => rshr_any v (grG U i * grH U i) 160 w' (small_of (hGH i hi) (by decide)) (by decide) h)
  have S12 := Lib.hid (fun i (hi : i ≤ 10) v v2 w' (h : IsBig w' v (P2 160 + P2 159)) h2 => sub_any v v2 (grG U i * grH U i / P2 160) (P2 160 + P2 159 - grG U i * grH U i / P2 160) w' (by rw [Nat.add_sub_cancel' (st i hi).2.2.1]; exact small_of hs (by decide)) (by rw [Nat.add_sub_cancel' (st i hi).2.2.1]; exact h) h2)
  have hls : ∀ i, P2 160 + P2 159 - grG U i * grH U i / P2 160 < P2 162 := fun i => Nat.lt_of_le_of_lt (Nat.sub_le _ _) hs
  have S13 := Lib.hid (fun i (hi : i ≤ 10) v v2 w' h h2 => mul_any v v2 (grG U i) (P2 160 + P2 159 - grG U i * grH U i / P2 160) w' (small_of (st i hi).1 (by decide)) (small_of (hls i) (by decide)) h h2)
  have hp1 : ∀ i, i ≤ 10 → grG U i * (P2 160 + P2 159 - grG U i * grH U i / P2 160) < P2 326 := fun i hi => by
    have := Nat.mul_lt_mul'' (st i hi).1 (hls i)
    rwa [← P2_add] at this
  have S14 := Lib.hid (fun i (hi : i ≤ 10) v w' h => rshr_any v (grG U i * (P2 160 + P2 159 - grG U i * grH U i / P2 160)) 160 w' (small_of (hp1 i hi) (by decide)) (by decide) h)
  have S15 := Lib.hid (fun i (hi : i ≤ 10) v v2 w' h h2 => mul_any v v2 (grH U i) (P2 160 + P2 159 - grG U i * grH U i / P2 160) w' (small_of (st i hi).2.1 (by decide)) (small_of (hls i) (by decide)) h h2)
  have hp2 : ∀ i, i ≤ 10 → grH U i * (P2 160 + P2 159 - grG U i * grH U i / P2 160) < P2 324 := fun i hi => by
    have := Nat.mul_lt_mul'' (st i hi).2.1 (hls i)
    rwa [← P2_add] at this
  have S16 := Lib.hid (fun i (hi : i ≤ 10) v w' h => rshr_any v (grH U i * (P2 160 + P2 159 - grG U i * grH U i / P2 160)) 160 w' (small_of (hp2 i hi) (by decide)) (by decide) h)
  have HY1 := Lib.hid (fun i => (grG_succ U i).symm)
  have HY2 := Lib.hid (fun i => (grH_succ U i).symm)
  obtain ⟨q, hq⟩ : ∃ q, q = U / P2 249 := ⟨_, rfl⟩
  rw [← hq] at S3 S4 q1 q2
  have HQ := Lib.hid (show 0 < q ∧ q < P2 32 by rw [P2_eq]; omega)
  have e1 : IntKind.i64.wrap (q : Int) = (q : Int) := IntWalk.i64_in _ (by omega)
  obtain ⟨E1, hE1⟩ : ∃ q, q = U * guessRV U := ⟨_, rfl⟩
  rw [← hE1] at S6 S7
  obtain ⟨G, hG⟩ : ∃ q, q = guessRV U := ⟨_, rfl⟩
  rw [← hG] at S4 S5 S6 S8
  obtain ⟨ok, hok⟩ : ∃ x, x = rootB (q : Int) := ⟨_, rfl⟩
  rw [← hok] at S4
  obtain ⟨S, hS⟩ : ∃ x, x = P2 160 + P2 159 := ⟨_, rfl⟩
  rw [← hS] at S9c S12 S13 S14 S15 S16 HY1 HY2
  have HK := Lib.hid hk
  have Ru := Lib.hid h
  clear h hb r1 r2 hk hUB q1 q2 q3 hg hgB hUg hs st hGH hls hp1 hp2 hq hE1 hG hok hS
  go_enter Tryz.func40, Tryz.ntmps40
  have HB := Lib.hid (Below.refl w.heap.size w)
  go_wp2_with fail
  refine (S3.out _ _ Ru.out).mono ?_
  rintro e w1 ⟨rq, rfl, hr, hb⟩
  replace HB := Lib.hid (below_then HB.out hb)
  replace Ru := Lib.hid (Ru.out.below hb)
  have Rq := Lib.hid hr
  clear hr hb
  obtain ⟨qb, qo, qc, rfl, hl1, ch⟩ := Rq.out.lone HQ.out.1 HQ.out.2
  clear hl1
  go_wp2_with fail
  refine (S4.out _).mono ?_
  rintro e w2 ⟨rfl, hb⟩
  replace HB := Lib.hid (below_then HB.out hb)
  replace Ru := Lib.hid (Ru.out.below hb)
  replace Rq := Lib.hid (Rq.out.below hb)
  clear hb
  clear ch
  go_wp2_with fail
  refine (S5.out _).mono ?_
  rintro e w3 ⟨rf, rfl, hr, hb⟩
  replace HB := Lib.hid (below_then HB.out hb)
  replace Ru := Lib.hid (Ru.out.below hb)
  have Rf := Lib.hid hr
  clear hr hb
  go_wp2_with fail
  refine (S6.out _ _ _ Ru.out Rf.out).mono ?_
  rintro e w4 ⟨rm, rfl, hr, hb⟩
  replace HB := Lib.hid (below_then HB.out hb)
  replace Ru := Lib.hid (Ru.out.below hb)
  replace Rf := Lib.hid (Rf.out.below hb)
  have Rm := Lib.hid hr
  clear hr hb
  go_wp2_with fail
  refine (S7.out _ _ Rm.out).mono ?_
  rintro e w5 ⟨rx, rfl, hr, hb⟩
  replace HB := Lib.hid (below_then HB.out hb)
  replace Rm := Lib.hid (Rm.out.below hb)
  have Rx := Lib.hid hr
  clear hr hb
  go_wp2_with fail
  refine (S5.out _).mono ?_
  rintro e w6 ⟨rh, rfl, hr, hb⟩
  replace HB := Lib.hid (below_then HB.out hb)
  replace Rx := Lib.hid (Rx.out.below hb)
  have Rh := Lib.hid hr
  clear hr hb
  go_wp2_with fail
  refine (S8.out _ _ Rh.out).mono ?_
  rintro e w7 ⟨ry, rfl, hr, hb⟩
  replace HB := Lib.hid (below_then HB.out hb)
  replace Rx := Lib.hid (Rx.out.below hb)
  replace Rh := Lib.hid (Rh.out.below hb)
  have Ry := Lib.hid hr
  clear hr hb
  go_wp2_with fail
  refine (S9.out _).mono ?_
  rintro e w8 ⟨ra, rfl, hr, hb⟩
  replace HB := Lib.hid (below_then HB.out hb)
  replace Rx := Lib.hid (Rx.out.below hb)
  replace Ry := Lib.hid (Ry.out.below hb)
  have Ra := Lib.hid hr
  clear hr hb
  go_wp2_with fail
  refine (S9b.out _).mono ?_
  rintro e w9 ⟨rb, rfl, hr, hb⟩
  replace HB := Lib.hid (below_then HB.out hb)
  replace Rx := Lib.hid (Rx.out.below hb)
  replace Ry := Lib.hid (Ry.out.below hb)
  replace Ra := Lib.hid (Ra.out.below hb)
  have Rb := Lib.hid hr
  clear hr hb
  go_wp2_with fail
  refine (S9c.out _ _ _ Ra.out Rb.out).mono ?_
  rintro e w10 ⟨rs, rfl, hr, hb⟩
  replace HB := Lib.hid (below_then HB.out hb)
  replace Rx := Lib.hid (Rx.out.below hb)
  replace Ry := Lib.hid (Ry.out.below hb)
  replace Ra := Lib.hid (Ra.out.below hb)
  replace Rb := Lib.hid (Rb.out.below hb)
  have Rs := Lib.hid hr
  clear hr hb
  go_wp2
  clear Ru Rf Rm Rh Ra Rb S3 S4 S5 S6 S7 S8 S9 S9b S9c
  go_loopw [8, 9, 11] (fun s8 s9 s11 wr => ∃ i : Nat, s11 = .int .i64 (i : Int) ∧ i ≤ k ∧ Hid (IsBig wr rs S) ∧ Hid (IsBig wr s8 (grG U i)) ∧ Hid (IsBig wr s9 (grH U i)) ∧ Hid (Below w.heap.size w wr)) (fun _ _ s11 _ => k - (intOf s11).toNat)
  case atStart => exact ⟨0, rfl, Nat.zero_le _, Rs, Rx, Ry, HB⟩
  case round =>
    clear HB Rx Ry Rs
    obtain ⟨i, rfl, hi, Rs, Rx, Ry, HB⟩ := hrel
    have hkk := HK.out
    by_cases hlt : i < k
    · have e3 : (i : Int) < (k : Int) := by omega
      have e4 : IntKind.i64.wrap ((i : Int) + 1) = ((i + 1 : Nat) : Int) := by rw [IntWalk.i64_in _ (by omega)]; omega
      have HLT := Lib.hid hlt
      have T10 := Lib.hid (S10.out i (by omega)); have T11 := Lib.hid (S11.out i (by omega)); have T12 := Lib.hid (S12.out i (by omega)); have T13 := Lib.hid (S13.out i (by omega)); have T14 := Lib.hid (S14.out i (by omega)); have T15 := Lib.hid (S15.out i (by omega)); have T16 := Lib.hid (S16.out i (by omega))
      rw [HY1.out i] at T14
      rw [HY2.out i] at T16
      clear hlt hi hkk
      go_wp2_with fail
      refine (T10.out _ _ _ Rx.out Ry.out).mono ?_
      rintro e w11 ⟨rp, rfl, hr, hb⟩
      replace HB := Lib.hid (below_then HB.out hb)
      replace Rs := Lib.hid (Rs.out.below hb)
      replace Rx := Lib.hid (Rx.out.below hb)
      replace Ry := Lib.hid (Ry.out.below hb)
      have Rp := Lib.hid hr
      clear hr hb
      go_wp2_with fail
      refine (T11.out _ _ Rp.out).mono ?_
      rintro e w12 ⟨rd, rfl, hr, hb⟩
      replace HB := Lib.hid (below_then HB.out hb)
      replace Rs := Lib.hid (Rs.out.below hb)
      replace Rx := Lib.hid (Rx.out.below hb)
      replace Ry := Lib.hid (Ry.out.below hb)
      replace Rp := Lib.hid (Rp.out.below hb)
      have Rd := Lib.hid hr
      clear hr hb
      go_wp2_with fail
      refine (T12.out _ _ _ Rs.out Rd.out).mono ?_
      rintro e w13 ⟨rt, rfl, hr, hb⟩
      replace HB := Lib.hid (below_then HB.out hb)
      replace Rs := Lib.hid (Rs.out.below hb)
      replace Rx := Lib.hid (Rx.out.below hb)
      replace Ry := Lib.hid (Ry.out.below hb)
      replace Rd := Lib.hid (Rd.out.below hb)
      have Rt := Lib.hid hr
      clear hr hb
      go_wp2_with fail
      refine (T13.out _ _ _ Rx.out Rt.out).mono ?_
      rintro e w14 ⟨ru, rfl, hr, hb⟩
      replace HB := Lib.hid (below_then HB.out hb)
      replace Rs := Lib.hid (Rs.out.below hb)
      replace Rx := Lib.hid (Rx.out.below hb)
      replace Ry := Lib.hid (Ry.out.below hb)
      replace Rt := Lib.hid (Rt.out.below hb)
      have Ru := Lib.hid hr
      clear hr hb
      go_wp2_with fail
      refine (T14.out _ _ Ru.out).mono ?_
      rintro e w15 ⟨rz, rfl, hr, hb⟩
      replace HB := Lib.hid (below_then HB.out hb)
      replace Rs := Lib.hid (Rs.out.below hb)
      replace Rx := Lib.hid (Rx.out.below hb)
      replace Ry := Lib.hid (Ry.out.below hb)
      replace Rt := Lib.hid (Rt.out.below hb)
      replace Ru := Lib.hid (Ru.out.below hb)
      have Rz := Lib.hid hr
      clear hr hb
      go_wp2_with fail
      refine (T15.out _ _ _ Ry.out Rt.out).mono ?_
      rintro e w16 ⟨rc, rfl, hr, hb⟩
      replace HB := Lib.hid (below_then HB.out hb)
      replace Rs := Lib.hid (Rs.out.below hb)
      replace Ry := Lib.hid (Ry.out.below hb)
      replace Rt := Lib.hid (Rt.out.below hb)
      replace Rz := Lib.hid (Rz.out.below hb)
      have Rc := Lib.hid hr
      clear hr hb
      go_wp2_with fail
      refine (T16.out _ _ Rc.out).mono ?_
      rintro e w17 ⟨ro, rfl, hr, hb⟩
      replace HB := Lib.hid (below_then HB.out hb)
      replace Rs := Lib.hid (Rs.out.below hb)
      replace Rz := Lib.hid (Rz.out.below hb)
      replace Rc := Lib.hid (Rc.out.below hb)
      have Ro := Lib.hid hr
      clear hr hb
      go_wp2
      go_roundw
      case rel => exact ⟨i + 1, by go_num, HLT.out, Rs, Rz, Ro, HB⟩
      case measure => have := HLT.out; simp [intOf]; omega
    · obtain rfl : i = k := by omega
      clear hlt hi hkk
      go_wp2
      go_ret2
      exact ⟨_, _, rfl, Rx.out, Ry.out, HB.out⟩
end Go.Proofs.YtegmmaaapdgocaaGreat
