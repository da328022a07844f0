/- THE WALK of the reference of newton: a divisor's reciprocal, round by round. -/
import Derived.Test.YtegmmaaapdgocaaGreatNewt4
import Derived.Test.YtegmmaaapdgocaaGreatLaw17
namespace Go.Proofs.YtegmmaaapdgocaaGreat
open Go Go.RowKit

theorem recipV_guess {D : Nat} (hb : blen D = 128) : 64 ≤ D / P2 121 ∧ D / P2 121 < 128 ∧ recipV (((D / P2 121 : Nat) : Int) - 64) = guessV D := by
  obtain ⟨r1, r2⟩ := high_range hb (show 121 < 128 by omega)
  rw [show P2 (128 - 1 - 121) = 64 by rw [P2_eq]] at r1
  rw [show P2 (128 - 121) = 128 by rw [P2_eq]] at r2
  refine ⟨r1, r2, ?_⟩
  unfold recipV guessV
  rw [if_pos (by omega), if_pos hb]
  congr 1
  omega
attribute [local go_sem ↓] Go.wp_at_zero Go.wp_at_succ
set_option maxRecDepth 100000 in
set_option maxHeartbeats 2000000 in
theorem rrecip19_any (v : Value) (d k : Nat) (w : World) (h0 : d ≠ 0) (hd : d < P2 120) (hk : k ≤ 10) (h : IsBig w v d) :
    Calls Tryz.prog 47 #[v, .int .i64 (k : Int)] w (GivesBig (nwY (d * P2 (128 - blen d)) k) w) := by
  have hm : mayN 0 d = 0 := may_yes (by omega) hd (Nat.mul_pos (by omega) (P2_pos _))
  obtain ⟨r1, r2, _⟩ := shift_range hm
  have hb := up_len hm
  have hl : blen d ≤ 120 := blen_le_of hd
  have S1 := Lib.hid (fun w' h => rlen_any v d w' (small_of hd (by decide)) h)
  have S2 := Lib.hid (fun w' h => rshl_any v d (128 - blen d) w' (small_of hd (by decide)) (by omega) h)
  have hk1 : IntKind.i64.wrap (128 - ((blen d : Nat) : Int)) = ((128 - blen d : Nat) : Int) := by rw [IntWalk.i64_in _ (by omega)]; omega
  obtain ⟨b, hbe⟩ : ∃ b, b = 128 - blen d := ⟨_, rfl⟩
  rw [← hbe] at S2 r1 r2 hb hk1 ⊢
  obtain ⟨l, hle⟩ : ∃ b, b = blen d := ⟨_, rfl⟩
  rw [← hle] at S1 hk1
  obtain ⟨D, hD⟩ : ∃ D, D = d * P2 b := ⟨_, rfl⟩
  rw [← hD] at S2 r1 r2 hb ⊢
  have hDB : D < BIG := small_of r2 (by decide)
  obtain ⟨q1, q2, q3⟩ := recipV_guess hb
  have S3 := Lib.hid (fun v w' h => rshr_any v D 121 w' hDB (by decide) h)
  have S4 := Lib.hid (fun w' => rrecip_any (((D / P2 121 : Nat) : Int) - 64) w')
  rw [q3] at S4
  have hg := guessV_le D
  have S5 := Lib.hid (fun w' => small_any (guessV D) w' (by omega))
  have S6 := Lib.hid (fun v w' h => rshl_any v (guessV D) 151 w' (small_of (show guessV D < P2 32 by rw [P2_eq]; omega) (by decide)) (by decide) h)
  rw [show guessV D * P2 151 = nwY D 0 from rfl] at S6
  have S7 := Lib.hid (fun w' => power_any 161 (by decide) w')
  have hyB : ∀ i, nwY D i < P2 162 := fun i => (nw_all hb r2 i).small r1
  have S8 := Lib.hid (fun i v v2 w' h h2 => mul_any v v2 D (nwY D i) w' hDB (small_of (hyB i) (by decide)) h h2)
  have hDy : ∀ i, D * nwY D i < P2 290 := fun i => by
    have := Nat.mul_lt_mul'' r2 (hyB i)
    rwa [← P2_add] at this
  have S9 := Lib.hid (fun i v w' h => rshr_any v (D * nwY D i) 128 w' (small_of (hDy i) (by decide)) (by decide) h)
  have hle2 : ∀ i, D * nwY D i / P2 128 ≤ P2 161 := fun i => (nw_all hb r2 i).less
  have S10 := Lib.hid (fun i v v2 w' (h : IsBig w' v (P2 161)) h2 => sub_any v v2 (D * nwY D i / P2 128) (P2 161 - D * nwY D i / P2 128) w' (by rw [Nat.add_sub_cancel' (hle2 i)]; exact small_of (P2_lt (show 161 < 162 by omega)) (by decide)) (by rw [Nat.add_sub_cancel' (hle2 i)]; exact h) h2)
  have hls : ∀ i, P2 161 - D * nwY D i / P2 128 < P2 162 := fun i => Nat.lt_of_le_of_lt (Nat.sub_le _ _) (P2_lt (by omega))
  have S11 := Lib.hid (fun i v v2 w' h h2 => mul_any v v2 (nwY D i) (P2 161 - D * nwY D i / P2 128) w' (small_of (hyB i) (by decide)) (small_of (hls i) (by decide)) h h2)
  have hyl : ∀ i, nwY D i * (P2 161 - D * nwY D i / P2 128) < P2 324 := fun i => by
    have := Nat.mul_lt_mul'' (hyB i) (hls i)
    rwa [← P2_add] at this
  have S12 := Lib.hid (fun i v w' h => rshr_any v (nwY D i * (P2 161 - D * nwY D i / P2 128)) 160 w' (small_of (hyl i) (by decide)) (by decide) h)
  have HY := Lib.hid (fun i => (nwY_succ D i).symm)
  obtain ⟨q, hq⟩ : ∃ q, q = D / P2 121 := ⟨_, rfl⟩
  rw [← hq] at S3 S4 q1 q2
  have HQ := Lib.hid (show 0 < q ∧ q < P2 32 by rw [P2_eq]; omega)
  have e1 : IntKind.i64.wrap (q : Int) = (q : Int) := IntWalk.i64_in _ (by omega)
  have e2 : IntKind.i64.wrap ((q : Int) - 64) = (q : Int) - 64 := IntWalk.i64_in _ (by omega)
  obtain ⟨G, hG⟩ : ∃ q, q = guessV D := ⟨_, rfl⟩
  rw [← hG] at S4 S5 S6
  obtain ⟨ok, hok⟩ : ∃ x, x = recipB ((q : Int) - 64) := ⟨_, rfl⟩
  rw [← hok] at S4
  have HK := Lib.hid hk
  have Rv := Lib.hid h
  clear h h0 hd hk hm r1 r2 hb hl hbe hle hD hDB q1 q2 q3 hg hyB hDy hle2 hls hyl hq hG hok
  go_enter Tryz.func47, Tryz.ntmps47
  have HB := Lib.hid (Below.refl w.heap.size w)
  go_wp2_with fail
  refine (S1.out _ Rv.out).mono ?_
  rintro e w1 ⟨rfl, hb⟩
  replace HB := Lib.hid (below_then HB.out hb)
  replace Rv := Lib.hid (Rv.out.below hb)
  clear hb
  go_wp2_with fail
  refine (S2.out _ Rv.out).mono ?_
  rintro e w2 ⟨rd, rfl, hr, hb⟩
  replace HB := Lib.hid (below_then HB.out hb)
  replace Rv := Lib.hid (Rv.out.below hb)
  have Rd := Lib.hid hr
  clear hr hb
  go_wp2_with fail
  refine (S3.out _ _ Rd.out).mono ?_
  rintro e w3 ⟨rq, rfl, hr, hb⟩
  replace HB := Lib.hid (below_then HB.out hb)
  replace Rd := Lib.hid (Rd.out.below hb)
  have Rq := Lib.hid hr
  clear hr hb
  obtain ⟨qb, qo, qc, rfl, hl1, ch⟩ := Rq.out.lone HQ.out.1 HQ.out.2
  clear hl1
  go_wp2_with fail
  refine (S4.out _).mono ?_
  rintro e w4 ⟨rfl, hb⟩
  replace HB := Lib.hid (below_then HB.out hb)
  replace Rd := Lib.hid (Rd.out.below hb)
  replace Rq := Lib.hid (Rq.out.below hb)
  clear hb
  clear ch
  go_wp2_with fail
  refine (S5.out _).mono ?_
  rintro e w5 ⟨rf, rfl, hr, hb⟩
  replace HB := Lib.hid (below_then HB.out hb)
  replace Rd := Lib.hid (Rd.out.below hb)
  have Rf := Lib.hid hr
  clear hr hb
  go_wp2_with fail
  refine (S6.out _ _ Rf.out).mono ?_
  rintro e w6 ⟨ry, rfl, hr, hb⟩
  replace HB := Lib.hid (below_then HB.out hb)
  replace Rd := Lib.hid (Rd.out.below hb)
  replace Rf := Lib.hid (Rf.out.below hb)
  have Ry := Lib.hid hr
  clear hr hb
  go_wp2
  clear Rf S1 S2 S3 S4 S5 S6
  go_loopw [8, 9] (fun s8 s9 wr => ∃ i : Nat, s9 = .int .i64 (i : Int) ∧ i ≤ k ∧ Hid (IsBig wr rd D) ∧ Hid (IsBig wr s8 (nwY D i)) ∧ Hid (Below w.heap.size w wr)) (fun _ s9 _ => k - (intOf s9).toNat)
  case atStart => exact ⟨0, rfl, Nat.zero_le _, Rd, Ry, HB⟩
  case round =>
    clear HB Rd Ry
    obtain ⟨i, rfl, hi, Rd, Ry, HB⟩ := hrel
    have hkk := HK.out
    by_cases hlt : i < k
    · have e3 : (i : Int) < (k : Int) := by omega
      have e4 : IntKind.i64.wrap ((i : Int) + 1) = ((i + 1 : Nat) : Int) := by rw [IntWalk.i64_in _ (by omega)]; omega
      have HLT := Lib.hid hlt
      have T8 := Lib.hid (S8.out i); have T9 := Lib.hid (S9.out i); have T10 := Lib.hid (S10.out i); have T11 := Lib.hid (S11.out i); have T12 := Lib.hid (S12.out i)
      rw [HY.out i] at T12
      clear hlt hi hkk
      go_wp2_with fail
      refine (S7.out _).mono ?_
      rintro e w7 ⟨rp, rfl, hr, hb⟩
      replace HB := Lib.hid (below_then HB.out hb)
      replace Rd := Lib.hid (Rd.out.below hb)
      replace Ry := Lib.hid (Ry.out.below hb)
      have Rp := Lib.hid hr
      clear hr hb
      go_wp2_with fail
      refine (T8.out _ _ _ Rd.out Ry.out).mono ?_
      rintro e w8 ⟨rm, rfl, hr, hb⟩
      replace HB := Lib.hid (below_then HB.out hb)
      replace Rd := Lib.hid (Rd.out.below hb)
      replace Ry := Lib.hid (Ry.out.below hb)
      replace Rp := Lib.hid (Rp.out.below hb)
      have Rm := Lib.hid hr
      clear hr hb
      go_wp2_with fail
      refine (T9.out _ _ Rm.out).mono ?_
      rintro e w9 ⟨rs, rfl, hr, hb⟩
      replace HB := Lib.hid (below_then HB.out hb)
      replace Rd := Lib.hid (Rd.out.below hb)
      replace Ry := Lib.hid (Ry.out.below hb)
      replace Rp := Lib.hid (Rp.out.below hb)
      replace Rm := Lib.hid (Rm.out.below hb)
      have Rs := Lib.hid hr
      clear hr hb
      go_wp2_with fail
      refine (T10.out _ _ _ Rp.out Rs.out).mono ?_
      rintro e w10 ⟨rt, rfl, hr, hb⟩
      replace HB := Lib.hid (below_then HB.out hb)
      replace Rd := Lib.hid (Rd.out.below hb)
      replace Ry := Lib.hid (Ry.out.below hb)
      replace Rp := Lib.hid (Rp.out.below hb)
      replace Rs := Lib.hid (Rs.out.below hb)
      have Rt := Lib.hid hr
      clear hr hb
      go_wp2_with fail
      refine (T11.out _ _ _ Ry.out Rt.out).mono ?_
      rintro e w11 ⟨ru, rfl, hr, hb⟩
      replace HB := Lib.hid (below_then HB.out hb)
      replace Rd := Lib.hid (Rd.out.below hb)
      replace Ry := Lib.hid (Ry.out.below hb)
      replace Rt := Lib.hid (Rt.out.below hb)
      have Ru := Lib.hid hr
      clear hr hb
      go_wp2_with fail
      refine (T12.out _ _ Ru.out).mono ?_
      rintro e w12 ⟨rz, rfl, hr, hb⟩
      replace HB := Lib.hid (below_then HB.out hb)
      replace Rd := Lib.hid (Rd.out.below hb)
      replace Ry := Lib.hid (Ry.out.below hb)
      replace Ru := Lib.hid (Ru.out.below hb)
      have Rz := Lib.hid hr
      clear hr hb
      go_wp2
      go_roundw
      case rel => exact ⟨i + 1, by go_num, HLT.out, Rd, Rz, HB⟩
      case measure => have := HLT.out; simp [intOf]; omega
    · obtain rfl : i = k := by omega
      clear hlt hi hkk
      go_wp2
      go_ret
      exact ⟨_, rfl, Ry.out, HB.out⟩
end Go.Proofs.YtegmmaaapdgocaaGreat
