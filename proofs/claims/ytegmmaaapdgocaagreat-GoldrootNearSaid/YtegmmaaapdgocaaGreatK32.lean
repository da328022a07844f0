/- SEVERAL TEXTS of the seat, one behind the other: each says at its head what it proves. -/
import Derived.Test.YtegmmaaapdgocaaGreatK27
import Derived.Test.YtegmmaaapdgocaaGreatK29
import Derived.Test.YtegmmaaapdgocaaGreatK23
import Derived.Test.YtegmmaaapdgocaaGreatK26
import Derived.Test.YtegmmaaapdgocaaGreatK16
/- THE WALKS of the laws on newton: the document's example; quotients and remainders. -/
namespace Go.Proofs.YtegmmaaapdgocaaGreat
open Go Go.RowKit

theorem divE_w (e g n d : Nat) (hn : n < M) (hd : d < M) (w : World) (hE : w.heap[e]? = some (.cells #[.pointer (some ⟨g, 0, none⟩)] 108 (0, 0))) (hI : IsRom w g) (hne : e ≠ g) :
    Calls Tryz.prog 21 #[.pointer (some ⟨e, 0, none⟩), wv n, wv d] w fun x w' => x = .returned (.tuple #[wv (dvQ n d), wv (dvR n d), .int .i64 (mayN n d)]) ∧ VG g w w' := by
  by_cases hm : mayN n d = 0
  · obtain ⟨e1, e2⟩ := dv_yes hm
    rw [e1, e2, hm]
    exact divE_yes e g n d hm hn hd w hE hI hne
  · obtain ⟨e1, e2⟩ := dv_no hm
    rw [e1, e2]
    exact (divE_no _ n d _ hm (fun w' => mayE_w e n d hn hd w') w).mono fun _ _ ⟨h1, h2⟩ => ⟨h1, (VG.refl hI).below h2⟩
attribute [local go_sem ↓] Go.wp_at_zero Go.wp_at_succ
set_option maxRecDepth 100000 in
set_option maxHeartbeats 1000000 in
theorem awake19_any (w : World) : Calls Tryz.prog 23 #[] w fun e w' => e = .returned (.bool true) ∧ Below w.heap.size w w' := by
  have S0 := Lib.hid (fun w' => newE_nil w')
  have S1 := Lib.hid (fun e g w' hE hI hne => divE_w e g 100 7 (lit_ltM _ (by decide)) (lit_ltM _ (by decide)) w' hE hI hne)
  obtain ⟨e1, e2⟩ := dv_yes may_100_7
  rw [e1, e2, may_100_7, show (100 : Nat) / 7 = 14 from rfl, show (100 : Nat) % 7 = 2 from rfl] at S1
  have E100 : (#[.int .u64 100, .int .u64 0, .int .u64 0, .int .u64 0, .int .u64 0, .int .u64 0, .int .u64 0, .int .u64 0] : Array Value) = wcells 100 := lit_cells 100 (by decide)
  have E7 : (#[.int .u64 7, .int .u64 0, .int .u64 0, .int .u64 0, .int .u64 0, .int .u64 0, .int .u64 0, .int .u64 0] : Array Value) = wcells 7 := lit_cells 7 (by decide)
  have E14 : (#[.int .u64 14, .int .u64 0, .int .u64 0, .int .u64 0, .int .u64 0, .int .u64 0, .int .u64 0, .int .u64 0] : Array Value) = wcells 14 := lit_cells 14 (by decide)
  have E2 : (#[.int .u64 2, .int .u64 0, .int .u64 0, .int .u64 0, .int .u64 0, .int .u64 0, .int .u64 0, .int .u64 0] : Array Value) = wcells 2 := lit_cells 2 (by decide)
  clear e1 e2
  go_enter Tryz.func23, Tryz.ntmps23
  have HB := Lib.hid (Below.refl w.heap.size w)
  go_wp2_with fail
  refine (S0.out _).mono ?_
  rintro x w1 ⟨e, g, rfl, hen, hb⟩
  replace HB := Lib.hid (below_then HB.out hb)
  have Ge := Lib.hid hen.eng
  have KR := Lib.hid hen.rom
  have HNE := Lib.hid hen.ne
  have HLE := Lib.hid hen.le
  have HLG := Lib.hid hen.lg
  clear hen hb
  have cGe := cell_row Ge.out
  go_wp2_with fail
  refine (S1.out _ _ _ Ge.out KR.out HNE.out).mono ?_
  rintro e w2 ⟨rfl, hv⟩
  clear cGe
  replace Ge := Lib.hid (hv.heap Ge.out (by have := HLG.out; have := HNE.out; omega))
  replace HB := Lib.hid (hv.out HB.out (by have := HLG.out; have := HNE.out; omega))
  replace KR := Lib.hid hv.rom
  clear hv
  have Gq := Lib.hid (alloc_new (w2) (.cells (wcells 14) 24))
  replace HB := Lib.hid (below_al HB.out (.cells (wcells 14) 24))
  replace Gq := Lib.hid (keepAl (o' := .cells (wcells 2) 24) Gq.out)
  have Gr := Lib.hid (alloc_new' (w := (w2).alloc (.cells (wcells 14) 24)) (n := w2.heap.size + 1) (.cells (wcells 2) 24) (by simp))
  replace HB := Lib.hid (below_al HB.out (.cells (wcells 2) 24))
  have cGq := cell_row Gq.out
  have cGr := cell_row Gr.out
  go_wp2
  go_ret
  exact ⟨rfl, HB.out⟩
set_option maxRecDepth 100000 in
set_option maxHeartbeats 2000000 in
theorem newtonDivides_any (n d : Nat) (w : World) (hn : n < M) (hd : d < M) :
    Calls Tryz.prog 4 #[wv n, wv d] w fun e w' => e = .returned (.bool true) ∧ Below w.heap.size w w' := by
  have S0 := Lib.hid (fun w' => romNew_any w')
  have S1 := Lib.hid (fun g w' h => newE_at g w' h)
  have S2 := Lib.hid (fun e g w' hE hI hne => divE_w e g n d hn hd w' hE hI hne)
  have S4 := Lib.hid (fun w' => holds11_any n d w' hn hd)
  have SA := Lib.hid (fun w' => awake19_any w')
  obtain ⟨Q, hQ⟩ : ∃ x, x = dvQ n d := ⟨_, rfl⟩
  obtain ⟨R, hR⟩ : ∃ x, x = dvR n d := ⟨_, rfl⟩
  obtain ⟨E, hE⟩ : ∃ x, x = mayN n d := ⟨_, rfl⟩
  rw [← hQ, ← hR, ← hE] at S2 S4
  clear hn hd hQ hR hE
  go_enter Tryz.func4, Tryz.ntmps4
  have HB := Lib.hid (Below.refl w.heap.size w)
  have Gn := Lib.hid (alloc_new (w) (.cells (wcells n) 24))
  replace HB := Lib.hid (below_al HB.out (.cells (wcells n) 24))
  replace Gn := Lib.hid (keepAl (o' := .cells (wcells d) 24) Gn.out)
  have Gd := Lib.hid (alloc_new' (w := (w).alloc (.cells (wcells n) 24)) (n := w.heap.size + 1) (.cells (wcells d) 24) (by simp))
  replace HB := Lib.hid (below_al HB.out (.cells (wcells d) 24))
  have cGn := cell_row Gn.out
  have cGd := cell_row Gd.out
  go_upto_region 1 with fail
  clear cGn cGd
  obtain ⟨wA, hw⟩ : ∃ wx, wx = ((w).alloc (.cells (wcells n) 24)).alloc (.cells (wcells d) 24) := ⟨_, rfl⟩
  rw [← hw] at Gn Gd HB ⊢
  clear hw
  have HZ := Lib.hid (lt_of_heap Gd.out)
  go_wp2_with fail
  refine (S0.out _).mono ?_
  rintro x wB ⟨rfl, hr, hb⟩
  replace HB := Lib.hid (below_then HB.out hb)
  have KR := Lib.hid (show IsRom wB wA.heap.size from Or.inl hr)
  replace Gn := Lib.hid ((hb.block _ (lt_of_heap Gn.out)).trans Gn.out)
  replace Gd := Lib.hid ((hb.block _ (lt_of_heap Gd.out)).trans Gd.out)
  clear hb hr
  go_wp2_with fail
  refine (S1.out _ _ KR.out).mono ?_
  rintro x wC ⟨rfl, he, hr, hb⟩
  replace HB := Lib.hid (below_then HB.out hb)
  have HNE := Lib.hid (show wB.heap.size ≠ wA.heap.size from fun h => by have := KR.out.lt; omega)
  replace KR := Lib.hid hr
  have Ge := Lib.hid he
  replace Gn := Lib.hid ((hb.block _ (lt_of_heap Gn.out)).trans Gn.out)
  replace Gd := Lib.hid ((hb.block _ (lt_of_heap Gd.out)).trans Gd.out)
  clear hb hr he
  have cGn := cell_row Gn.out
  have cGd := cell_row Gd.out
  have cGe := cell_row Ge.out
  go_wp2_with fail
  refine (S2.out _ _ _ Ge.out KR.out HNE.out).mono ?_
  rintro e w3 ⟨rfl, hv⟩
  clear cGn cGd cGe
  replace Gn := Lib.hid (hv.heap Gn.out (by have := HZ.out; have := HNE.out; omega))
  replace Gd := Lib.hid (hv.heap Gd.out (by have := HZ.out; have := HNE.out; omega))
  replace Ge := Lib.hid (hv.heap Ge.out (by have := HZ.out; have := HNE.out; omega))
  replace HB := Lib.hid (hv.out HB.out (by have := HZ.out; have := HNE.out; omega))
  replace KR := Lib.hid hv.rom
  clear hv
  replace Gn := Lib.hid (keepAl (o' := .cells (wcells Q) 24) Gn.out)
  replace Gd := Lib.hid (keepAl (o' := .cells (wcells Q) 24) Gd.out)
  have Gq := Lib.hid (alloc_new (w3) (.cells (wcells Q) 24))
  replace HB := Lib.hid (below_al HB.out (.cells (wcells Q) 24))
  replace Gn := Lib.hid (keepAl (o' := .cells (wcells R) 24) Gn.out)
  replace Gd := Lib.hid (keepAl (o' := .cells (wcells R) 24) Gd.out)
  replace Gq := Lib.hid (keepAl (o' := .cells (wcells R) 24) Gq.out)
  have Gr := Lib.hid (alloc_new' (w := (w3).alloc (.cells (wcells Q) 24)) (n := w3.heap.size + 1) (.cells (wcells R) 24) (by simp))
  replace HB := Lib.hid (below_al HB.out (.cells (wcells R) 24))
  have cGn := cell_row Gn.out
  have cGd := cell_row Gd.out
  have cGq := cell_row Gq.out
  have cGr := cell_row Gr.out
  go_wp2_with fail
  refine (S4.out _).mono ?_
  rintro e w4 ⟨rfl, hb⟩
  clear cGn cGd cGq cGr
  replace HB := Lib.hid (below_then HB.out hb)
  replace Gn := Lib.hid ((hb.block _ (lt_of_heap Gn.out)).trans Gn.out)
  replace Gd := Lib.hid ((hb.block _ (lt_of_heap Gd.out)).trans Gd.out)
  replace Gq := Lib.hid ((hb.block _ (lt_of_heap Gq.out)).trans Gq.out)
  replace Gr := Lib.hid ((hb.block _ (lt_of_heap Gr.out)).trans Gr.out)
  clear hb
  have cGn := cell_row Gn.out
  have cGd := cell_row Gd.out
  have cGq := cell_row Gq.out
  have cGr := cell_row Gr.out
  go_wp2_with fail
  refine (SA.out _).mono ?_
  rintro e w5 ⟨rfl, hb⟩
  clear cGn cGd cGq cGr
  replace HB := Lib.hid (below_then HB.out hb)
  replace Gn := Lib.hid ((hb.block _ (lt_of_heap Gn.out)).trans Gn.out)
  replace Gd := Lib.hid ((hb.block _ (lt_of_heap Gd.out)).trans Gd.out)
  replace Gq := Lib.hid ((hb.block _ (lt_of_heap Gq.out)).trans Gq.out)
  replace Gr := Lib.hid ((hb.block _ (lt_of_heap Gr.out)).trans Gr.out)
  clear hb
  have cGn := cell_row Gn.out
  have cGd := cell_row Gd.out
  have cGq := cell_row Gq.out
  have cGr := cell_row Gr.out
  go_wp2
  go_ret
  exact ⟨rfl, HB.out⟩
end Go.Proofs.YtegmmaaapdgocaaGreat

/- THE WALK of the reference of newton: a divisor's reciprocal, round by round. -/
namespace Go.Proofs.YtegmmaaapdgocaaGreat
open Go Go.RowKit

theorem recipV_guess {D : Nat} (hb : blen D = 128) : 64 ≤ D / P2 121 ∧ D / P2 121 < 128 ∧ recipV (((D / P2 121 : Nat) : Int) - 64) = guessV D := by
  obtain ⟨r1, r2⟩ := high_range hb (show 121 < 128 by omega)
  rw [show P2 (128 - 1 - 121) = 64 by rw [P2_eq]] at r1
  rw [show P2 (128 - 121) = 128 by rw [P2_eq]] at r2
  refine ⟨r1, r2, ?_⟩
  unfold recipV guessV
  rw [if_pos (by omega), if_pos hb]
  congr 1
  omega
attribute [local go_sem ↓] Go.wp_at_zero Go.wp_at_succ
set_option maxRecDepth 100000 in
set_option maxHeartbeats 2000000 in
theorem rrecip19_any (v : Value) (d k : Nat) (w : World) (h0 : d ≠ 0) (hd : d < P2 120) (hk : k ≤ 10) (h : IsBig w v d) :
    Calls Tryz.prog 47 #[v, .int .i64 (k : Int)] w (GivesBig (nwY (d * P2 (128 - blen d)) k) w) := by
  have hm : mayN 0 d = 0 := may_yes (by omega) hd (Nat.mul_pos (by omega) (P2_pos _))
  obtain ⟨r1, r2, _⟩ := shift_range hm
  have hb := up_len hm
  have hl : blen d ≤ 120 := blen_le_of hd
  have S1 := Lib.hid (fun w' h => rlen_any v d w' (small_of hd (by decide)) h)
  have S2 := Lib.hid (fun w' h => rshl_any v d (128 - blen d) w' (small_of hd (by decide)) (by omega) h)
  have hk1 : IntKind.i64.wrap (128 - ((blen d : Nat) : Int)) = ((128 - blen d : Nat) : Int) := by rw [IntWalk.i64_in _ (by omega)]; omega
  obtain ⟨b, hbe⟩ : ∃ b, b = 128 - blen d := ⟨_, rfl⟩
  rw [← hbe] at S2 r1 r2 hb hk1 ⊢
  obtain ⟨l, hle⟩ : ∃ b, b = blen d := ⟨_, rfl⟩
  rw [← hle] at S1 hk1
  obtain ⟨D, hD⟩ : ∃ D, D = d * P2 b := ⟨_, rfl⟩
  rw [← hD] at S2 r1 r2 hb ⊢
  have hDB : D < BIG := small_of r2 (by decide)
  obtain ⟨q1, q2, q3⟩ := recipV_guess hb
  have S3 := Lib.hid (fun v w' h => rshr_any v D 121 w' hDB (by decide) h)
  have S4 := Lib.hid (fun w' => rrecip_any (((D / P2 121 : Nat) : Int) - 64) w')
  rw [q3] at S4
  have hg := guessV_le D
  have S5 := Lib.hid (fun w' => small_any (guessV D) w' (by omega))
  have S6 := Lib.hid (fun v w' h => rshl_any v (guessV D) 151 w' (small_of (show guessV D < P2 32 by rw [P2_eq]; omega) (by decide)) (by decide) h)
  rw [show guessV D * P2 151 = nwY D 0 from rfl] at S6
  have S7 := Lib.hid (fun w' => power_any 161 (by decide) w')
  have hyB : ∀ i, nwY D i < P2 162 := fun i => (nw_all hb r2 i).small r1
  have S8 := Lib.hid (fun i v v2 w' h h2 => mul_any v v2 D (nwY D i) w' hDB (small_of (hyB i) (by decide)) h h2)
  have hDy : ∀ i, D * nwY D i < P2 290 := fun i => by
    have := Nat.mul_lt_mul'' r2 (hyB i)
    rwa [← P2_add] at this
  have S9 := Lib.hid (fun i v w' h => rshr_any v (D * nwY D i) 128 w' (small_of (hDy i) (by decide)) (by decide) h)
  have hle2 : ∀ i, D * nwY D i / P2 128 ≤ P2 161 := fun i => (nw_all hb r2 i).less
  have S10 := Lib.hid (fun i v v2 w' (h : IsBig w' v (P2 161)) h2 => sub_any v v2 (D * nwY D i / P2 128) (P2 161 - D * nwY D i / P2 128) w' (by rw [Nat.add_sub_cancel' (hle2 i)]; exact small_of (P2_lt (show 161 < 162 by omega)) (by decide)) (by rw [Nat.add_sub_cancel' (hle2 i)]; exact h) h2)
  have hls : ∀ i, P2 161 - D * nwY D i / P2 128 < P2 162 := fun i => Nat.lt_of_le_of_lt (Nat.sub_le _ _) (P2_lt (by omega))
  have S11 := Lib.hid (fun i v v2 w' h h2 => mul_any v v2 (nwY D i) (P2 161 - D * nwY D i / P2 128) w' (small_of (hyB i) (by decide)) (small_of (hls i) (by decide)) h h2)
  have hyl : ∀ i, nwY D i * (P2 161 - D * nwY D i / P2 128) < P2 324 := fun i => by
    have := Nat.mul_lt_mul'' (hyB i) (hls i)
    rwa [← P2_add] at this
  have S12 := Lib.hid (fun i v w' h => rshr_any v (nwY D i * (P2 161 - D * nwY D i / P2 128)) 160 w' (small_of (hyl i) (by decide)) (by decide) h)
  have HY := Lib.hid (fun i => (nwY_succ D i).symm)
  obtain ⟨q, hq⟩ : ∃ q, q = D / P2 121 := ⟨_, rfl⟩
  rw [← hq] at S3 S4 q1 q2
  have HQ := Lib.hid (show 0 < q ∧ q < P2 32 by rw [P2_eq]; omega)
  have e1 : IntKind.i64.wrap (q : Int) = (q : Int) := IntWalk.i64_in _ (by omega)
  have e2 : IntKind.i64.wrap ((q : Int) - 64) = (q : Int) - 64 := IntWalk.i64_in _ (by omega)
  obtain ⟨G, hG⟩ : ∃ q, q = guessV D := ⟨_, rfl⟩
  rw [← hG] at S4 S5 S6
  obtain ⟨ok, hok⟩ : ∃ x, x = recipB ((q : Int) - 64) := ⟨_, rfl⟩
  rw [← hok] at S4
  have HK := Lib.hid hk
  have Rv := Lib.hid h
  clear h h0 hd hk hm r1 r2 hb hl hbe hle hD hDB q1 q2 q3 hg hyB hDy hle2 hls hyl hq hG hok
  go_enter Tryz.func47, Tryz.ntmps47
  have HB := Lib.hid (Below.refl w.heap.size w)
  go_wp2_with fail
  refine (S1.out _ Rv.out).mono ?_
  rintro e w1 ⟨rfl, hb⟩
  replace HB := Lib.hid (below_then HB.out hb)
  replace Rv := Lib.hid (Rv.out.below hb)
  clear hb
  go_wp2_with fail
  refine (S2.out _ Rv.out).mono ?_
  rintro e w2 ⟨rd, rfl, hr, hb⟩
  replace HB := Lib.hid (below_then HB.out hb)
  replace Rv := Lib.hid (Rv.out.below hb)
  have Rd := Lib.hid hr
  clear hr hb
  go_wp2_with fail
  refine (S3.out _ _ Rd.out).mono ?_
  rintro e w3 ⟨rq, rfl, hr, hb⟩
  replace HB := Lib.hid (below_then HB.out hb)
  replace Rd := Lib.hid (Rd.out.below hb)
  have Rq := Lib.hid hr
  clear hr hb
  obtain ⟨qb, qo, qc, rfl, hl1, ch⟩ := Rq.out.lone HQ.out.1 HQ.out.2
  clear hl1
  go_wp2_with fail
  refine (S4.out _).mono ?_
  rintro e w4 ⟨rfl, hb⟩
  replace HB := Lib.hid (below_then HB.out hb)
  replace Rd := Lib.hid (Rd.out.below hb)
  replace Rq := Lib.hid (Rq.out.below hb)
  clear hb
  clear ch
  go_wp2_with fail
  refine (S5.out _).mono ?_
  rintro e w5 ⟨rf, rfl, hr, hb⟩
  replace HB := Lib.hid (below_then HB.out hb)
  replace Rd := Lib.hid (Rd.out.below hb)
  have Rf := Lib.hid hr
  clear hr hb
  go_wp2_with fail
  refine (S6.out _ _ Rf.out).mono ?_
  rintro e w6 ⟨ry, rfl, hr, hb⟩
  replace HB := Lib.hid (below_then HB.out hb)
  replace Rd := Lib.hid (Rd.out.below hb)
  replace Rf := Lib.hid (Rf.out.below hb)
  have Ry := Lib.hid hr
  clear hr hb
  go_wp2
  clear Rf S1 S2 S3 S4 S5 S6
  go_loopw [8, 9] (fun s8 s9 wr => ∃ i : Nat, s9 = .int .i64 (i : Int) ∧ i ≤ k ∧ Hid (IsBig wr rd D) ∧ Hid (IsBig wr s8 (nwY D i)) ∧ Hid (Below w.heap.size w wr)) (fun _ s9 _ => k - (intOf s9).toNat)
  case atStart => exact ⟨0, rfl, Nat.zero_le _, Rd, Ry, HB⟩
  case round =>
    clear HB Rd Ry
    obtain ⟨i, rfl, hi, Rd, Ry, HB⟩ := hrel
    have hkk := HK.out
    by_cases hlt : i < k
    · have e3 : (i : Int) < (k : Int) := by omega
      have e4 : IntKind.i64.wrap ((i : Int) + 1) = ((i + 1 : Nat) : Int) := by rw [IntWalk.i64_in _ (by omega)]; omega
      have HLT := Lib.hid hlt
      have T8 := Lib.hid (S8.out i); have T9 := Lib.hid (S9.out i); have T10 := Lib.hid (S10.out i); have T11 := Lib.hid (S11.out i); have T12 := Lib.hid (S12.out i)
      rw [HY.out i] at T12
      clear hlt hi hkk
      go_wp2_with fail
      refine (S7.out _).mono ?_
      rintro e w7 ⟨rp, rfl, hr, hb⟩
      replace HB := Lib.hid (below_then HB.out hb)
      replace Rd := Lib.hid (Rd.out.below hb)
      replace Ry := Lib.hid (Ry.out.below hb)
      have Rp := Lib.hid hr
      clear hr hb
      go_wp2_with fail
      refine (T8.out _ _ _ Rd.out Ry.out).mono ?_
      rintro e w8 ⟨rm, rfl, hr, hb⟩
      replace HB := Lib.hid (below_then HB.out hb)
      replace Rd := Lib.hid (Rd.out.below hb)
      replace Ry := Lib.hid (Ry.out.below hb)
      replace Rp := Lib.hid (Rp.out.below hb)
      have Rm := Lib.hid hr
      clear hr hb
      go_wp2_with fail
      refine (T9.out _ _ Rm.out).mono ?_
      rintro e w9 ⟨rs, rfl, hr, hb⟩
      replace HB := Lib.hid (below_then HB.out hb)
      replace Rd := Lib.hid (Rd.out.below hb)
      replace Ry := Lib.hid (Ry.out.below hb)
      replace Rp := Lib.hid (Rp.out.below hb)
      replace Rm := Lib.hid (Rm.out.below hb)
      have Rs := Lib.hid hr
      clear hr hb
      go_wp2_with fail
      refine (T10.out _ _ _ Rp.out Rs.out).mono ?_
      rintro e w10 ⟨rt, rfl, hr, hb⟩
      replace HB := Lib.hid (below_then HB.out hb)
      replace Rd := Lib.hid (Rd.out.below hb)
      replace Ry := Lib.hid (Ry.out.below hb)
      replace Rp := Lib.hid (Rp.out.below hb)
      replace Rs := Lib.hid (Rs.out.below hb)
      have Rt := Lib.hid hr
      clear hr hb
      go_wp2_with fail
      refine (T11.out _ _ _ Ry.out Rt.out).mono ?_
      rintro e w11 ⟨ru, rfl, hr, hb⟩
      replace HB := Lib.hid (below_then HB.out hb)
      replace Rd := Lib.hid (Rd.out.below hb)
      replace Ry := Lib.hid (Ry.out.below hb)
      replace Rt := Lib.hid (Rt.out.below hb)
      have Ru := Lib.hid hr
      clear hr hb
      go_wp2_with fail
      refine (T12.out _ _ Ru.out).mono ?_
      rintro e w12 ⟨rz, rfl, hr, hb⟩
      replace HB := Lib.hid (below_then HB.out hb)
      replace Rd := Lib.hid (Rd.out.below hb)
      replace Ry := Lib.hid (Ry.out.below hb)
      replace Ru := Lib.hid (Ru.out.below hb)
      have Rz := Lib.hid hr
      clear hr hb
      go_wp2
      go_roundw
      case rel => exact ⟨i + 1, by go_num, HLT.out, Rd, Rz, HB⟩
      case measure => have := HLT.out; simp [intOf]; omega
    · obtain rfl : i = k := by omega
      clear hlt hi hkk
      go_wp2
      go_ret
      exact ⟨_, rfl, Ry.out, HB.out⟩
end Go.Proofs.YtegmmaaapdgocaaGreat

/- THE WALK of the law on newton's guesses. -/
namespace Go.Proofs.YtegmmaaapdgocaaGreat
open Go Go.RowKit

theorem within_near {g q : Nat} (h1 : g ≤ q + 1) (h2 : q ≤ g + 1) : withinB ((g - q) + (q - g)) 2 = true := by
  unfold withinB
  rw [decide_eq_true (by decide), decide_eq_true (by omega)]
  rfl
theorem wide_small (v : Value) (b : Nat) (w : World) (hb : b < M) (hv : IsBig w v b) :
    Calls Tryz.prog 30 #[v] w fun e w' => e = .returned (.tuple #[wv b, .bool (decide (M ≤ b))]) ∧ Below w.heap.size w w' := by
  have := wide_any v b w (small_M hb) hv
  rw [Nat.mod_eq_of_lt hb] at this
  exact this
attribute [local go_sem ↓] Go.wp_at_zero Go.wp_at_succ
set_option maxRecDepth 100000 in
set_option maxHeartbeats 4000000 in
theorem newtonGuesses_any (n d : Nat) (w : World) (hn : n < M) (hd : d < M) :
    Calls Tryz.prog 9 #[wv n, wv d] w fun e w' => e = .returned (.bool true) ∧ Below w.heap.size w w' := by
  have S0 := Lib.hid (fun w' => newE_nil w')
  have S2 := Lib.hid (fun w' => rmay_any n d hn hd w')
  have SA := Lib.hid (fun w' => awake19_any w')
  by_cases hm : mayN n d = 0
  · obtain ⟨m1, m2, m3⟩ := may_ok hm
    obtain ⟨r1, r2, r3, _⟩ := shift_range hm
    obtain ⟨n1, n2⟩ := nwq_near hm
    have hq := quo_128 hm
    have h128 : P2 128 < M := by rw [M_eq]; exact P2_lt (by omega)
    have h200 : P2 200 < M := by rw [M_eq]; exact P2_lt (by omega)
    have hg := near_small hm n1
    have hl : blen d ≤ 120 := blen_le_of m2
    have hN := may_N hm
    have hy := (nw_all (up_len hm) r2 5).small r1
    have hNy : n * P2 (128 - blen d) * nwY (d * P2 (128 - blen d)) 5 < P2 418 := by
      have := Nat.mul_lt_mul'' hN hy
      rwa [← P2_add] at this
    have S1 := Lib.hid (fun e g w' hE hI hne => guessE_yes e g n d hm hn hd w' hE hI hne)
    rw [hm] at S2
    have S3 := Lib.hid (fun w' => big_any d hd w')
    have S4 := Lib.hid (fun v w' h => rlen_any v d w' (small_M hd) h)
    have S5 := Lib.hid (fun w' => big_any n hn w')
    have S6 := Lib.hid (fun v w' h => rshl_any v n (128 - blen d) w' (small_M hn) (by omega) h)
    have S7 := Lib.hid (fun v w' h => rrecip19_any v d 5 w' (by omega) m2 (by decide) h)
    have S8 := Lib.hid (fun v v2 w' h h2 => mul_any v v2 (n * P2 (128 - blen d)) (nwY (d * P2 (128 - blen d)) 5) w' (small_of hN (by decide)) (small_of hy (by decide)) h h2)
    have S9 := Lib.hid (fun v w' h => rshr_any v (n * P2 (128 - blen d) * nwY (d * P2 (128 - blen d)) 5) 288 w' (small_of hNy (by decide)) (by decide) h)
    rw [show n * P2 (128 - blen d) * nwY (d * P2 (128 - blen d)) 5 / P2 288 = nwq n d from rfl] at S9
    have S10 := Lib.hid (fun v w' h => wide_small v (nwq n d) w' (by omega) h)
    have S11 := Lib.hid (fun w' => rdivide_any n d w' hn hd m1 (Nat.lt_of_lt_of_le hq (P2_le (by omega))))
    have S12 := Lib.hid (fun w' => big_any (nwq n d) (by omega) w')
    have S13 := Lib.hid (fun w' => big_any (n / d) (by omega) w')
    have S14 := Lib.hid (fun v v2 w' h h2 => raway_any v v2 (nwq n d) (n / d) w' (small_of hg (by decide)) (small_of hq (by decide)) h h2)
    have S15 := Lib.hid (fun v w' h => rwithin_any v ((nwq n d - n / d) + (n / d - nwq n d)) 2 w' (small_of (show _ < P2 32 by rw [P2_eq]; omega) (by decide)) (by decide) h)
    rw [within_near n1 n2] at S15
    have hk1 : IntKind.i64.wrap (128 - ((blen d : Nat) : Int)) = ((128 - blen d : Nat) : Int) := by rw [IntWalk.i64_in _ (by omega)]; omega
    obtain ⟨A, hA⟩ : ∃ A : Nat, A = (nwq n d - n / d) + (n / d - nwq n d) := ⟨_, rfl⟩
    rw [← hA] at S14 S15
    obtain ⟨G, hG⟩ : ∃ A, A = nwq n d := ⟨_, rfl⟩
    rw [← hG] at S1 S9 S10 S12 S14
    obtain ⟨f, hf⟩ : ∃ f, f = decide (M ≤ G) := ⟨_, rfl⟩
    rw [← hf] at S10
    obtain ⟨Q, hQ⟩ : ∃ A, A = n / d := ⟨_, rfl⟩
    obtain ⟨R, hR⟩ : ∃ A, A = n % d := ⟨_, rfl⟩
    rw [← hQ] at S13 S14
    rw [← hQ, ← hR] at S11
    obtain ⟨Z, hZ⟩ : ∃ A, A = n * P2 (128 - blen d) * nwY (d * P2 (128 - blen d)) 5 := ⟨_, rfl⟩
    rw [← hZ] at S8 S9
    obtain ⟨N, hNe⟩ : ∃ A, A = n * P2 (128 - blen d) := ⟨_, rfl⟩
    rw [← hNe] at S6 S8
    obtain ⟨y, hye⟩ : ∃ A, A = nwY (d * P2 (128 - blen d)) 5 := ⟨_, rfl⟩
    rw [← hye] at S7 S8
    obtain ⟨b, hb⟩ : ∃ A, A = 128 - blen d := ⟨_, rfl⟩
    rw [← hb] at S6 hk1
    obtain ⟨l, hle⟩ : ∃ A, A = blen d := ⟨_, rfl⟩
    rw [← hle] at S4 hk1
    clear hn hd hm m1 m2 m3 r1 r2 r3 n1 n2 hq h128 h200 hg hl hN hy hNy hA hG hf hQ hR hZ hNe hye hb hle
    go_enter Tryz.func9, Tryz.ntmps9
    have HB := Lib.hid (Below.refl w.heap.size w)
    have Gn := Lib.hid (alloc_new (w) (.cells (wcells n) 24))
    replace HB := Lib.hid (below_al HB.out (.cells (wcells n) 24))
    replace Gn := Lib.hid (keepAl (o' := .cells (wcells d) 24) Gn.out)
    have Gd := Lib.hid (alloc_new' (w := (w).alloc (.cells (wcells n) 24)) (n := w.heap.size + 1) (.cells (wcells d) 24) (by simp))
    replace HB := Lib.hid (below_al HB.out (.cells (wcells d) 24))
    have cGn := cell_row Gn.out
    have cGd := cell_row Gd.out
    go_upto_region 1 with fail
    clear cGn cGd
    obtain ⟨wA, hw⟩ : ∃ wx, wx = ((w).alloc (.cells (wcells n) 24)).alloc (.cells (wcells d) 24) := ⟨_, rfl⟩
    rw [← hw] at Gn Gd HB ⊢
    clear hw
    have HZ := Lib.hid (lt_of_heap Gd.out)
    have cGn := cell_row Gn.out
    have cGd := cell_row Gd.out
    go_wp2_with fail
    refine (S0.out _).mono ?_
    rintro x w1 ⟨e, g, rfl, hen, hb⟩
    clear cGn cGd
    replace HB := Lib.hid (below_then HB.out hb)
    replace Gn := Lib.hid ((hb.block _ (lt_of_heap Gn.out)).trans Gn.out)
    replace Gd := Lib.hid ((hb.block _ (lt_of_heap Gd.out)).trans Gd.out)
    have Ge := Lib.hid hen.eng
    have KR := Lib.hid hen.rom
    have HNE := Lib.hid hen.ne
    have HLE := Lib.hid hen.le
    have HLG := Lib.hid hen.lg
    clear hen hb
    have cGn := cell_row Gn.out
    have cGd := cell_row Gd.out
    have cGe := cell_row Ge.out
    go_wp2_with fail
    refine (S1.out _ _ _ Ge.out KR.out HNE.out).mono ?_
    rintro e w2 ⟨rfl, hv⟩
    clear cGn cGd cGe
    replace Gn := Lib.hid (hv.heap Gn.out (by have := HZ.out; have := HLG.out; have := HNE.out; omega))
    replace Gd := Lib.hid (hv.heap Gd.out (by have := HZ.out; have := HLG.out; have := HNE.out; omega))
    replace Ge := Lib.hid (hv.heap Ge.out (by have := HZ.out; have := HLG.out; have := HNE.out; omega))
    replace HB := Lib.hid (hv.out HB.out (by have := HZ.out; have := HLG.out; have := HNE.out; omega))
    replace KR := Lib.hid hv.rom
    clear hv
    replace Gn := Lib.hid (keepAl (o' := .cells (wcells G) 24) Gn.out)
    replace Gd := Lib.hid (keepAl (o' := .cells (wcells G) 24) Gd.out)
    have Gg := Lib.hid (alloc_new (w2) (.cells (wcells G) 24))
    replace HB := Lib.hid (below_al HB.out (.cells (wcells G) 24))
    have cGn := cell_row Gn.out
    have cGd := cell_row Gd.out
    have cGg := cell_row Gg.out
    go_wp2_with fail
    refine (S2.out _).mono ?_
    rintro e w3 ⟨rfl, hb⟩
    clear cGn cGd cGg
    replace HB := Lib.hid (below_then HB.out hb)
    replace Gn := Lib.hid ((hb.block _ (lt_of_heap Gn.out)).trans Gn.out)
    replace Gd := Lib.hid ((hb.block _ (lt_of_heap Gd.out)).trans Gd.out)
    replace Gg := Lib.hid ((hb.block _ (lt_of_heap Gg.out)).trans Gg.out)
    clear hb
    have cGn := cell_row Gn.out
    have cGd := cell_row Gd.out
    have cGg := cell_row Gg.out
    go_wp2_with fail
    refine (S3.out _).mono ?_
    rintro e w4 ⟨rd, rfl, hr, hb⟩
    clear cGn cGd cGg
    replace HB := Lib.hid (below_then HB.out hb)
    replace Gn := Lib.hid ((hb.block _ (lt_of_heap Gn.out)).trans Gn.out)
    replace Gd := Lib.hid ((hb.block _ (lt_of_heap Gd.out)).trans Gd.out)
    replace Gg := Lib.hid ((hb.block _ (lt_of_heap Gg.out)).trans Gg.out)
    have Rd := Lib.hid hr
    clear hr hb
    have cGn := cell_row Gn.out
    have cGd := cell_row Gd.out
    have cGg := cell_row Gg.out
    go_wp2_with fail
    refine (S4.out _ _ Rd.out).mono ?_
    rintro e w5 ⟨rfl, hb⟩
    clear cGn cGd cGg
    replace HB := Lib.hid (below_then HB.out hb)
    replace Gn := Lib.hid ((hb.block _ (lt_of_heap Gn.out)).trans Gn.out)
    replace Gd := Lib.hid ((hb.block _ (lt_of_heap Gd.out)).trans Gd.out)
    replace Gg := Lib.hid ((hb.block _ (lt_of_heap Gg.out)).trans Gg.out)
    replace Rd := Lib.hid (Rd.out.below hb)
    clear hb
    have cGn := cell_row Gn.out
    have cGd := cell_row Gd.out
    have cGg := cell_row Gg.out
    go_wp2_with fail
    refine (S5.out _).mono ?_
    rintro e w6 ⟨rn, rfl, hr, hb⟩
    clear cGn cGd cGg
    replace HB := Lib.hid (below_then HB.out hb)
    replace Gn := Lib.hid ((hb.block _ (lt_of_heap Gn.out)).trans Gn.out)
    replace Gd := Lib.hid ((hb.block _ (lt_of_heap Gd.out)).trans Gd.out)
    replace Gg := Lib.hid ((hb.block _ (lt_of_heap Gg.out)).trans Gg.out)
    replace Rd := Lib.hid (Rd.out.below hb)
    have Rn := Lib.hid hr
    clear hr hb
    have cGn := cell_row Gn.out
    have cGd := cell_row Gd.out
    have cGg := cell_row Gg.out
    go_wp2_with fail
    refine (S6.out _ _ Rn.out).mono ?_
    rintro e w7 ⟨rs, rfl, hr, hb⟩
    clear cGn cGd cGg
    replace HB := Lib.hid (below_then HB.out hb)
    replace Gn := Lib.hid ((hb.block _ (lt_of_heap Gn.out)).trans Gn.out)
    replace Gd := Lib.hid ((hb.block _ (lt_of_heap Gd.out)).trans Gd.out)
    replace Gg := Lib.hid ((hb.block _ (lt_of_heap Gg.out)).trans Gg.out)
    replace Rd := Lib.hid (Rd.out.below hb)
    replace Rn := Lib.hid (Rn.out.below hb)
    have Rs := Lib.hid hr
    clear hr hb
    have cGn := cell_row Gn.out
    have cGd := cell_row Gd.out
    have cGg := cell_row Gg.out
    go_wp2_with fail
    refine (S7.out _ _ Rd.out).mono ?_
    rintro e w8 ⟨ry, rfl, hr, hb⟩
    clear cGn cGd cGg
    replace HB := Lib.hid (below_then HB.out hb)
    replace Gn := Lib.hid ((hb.block _ (lt_of_heap Gn.out)).trans Gn.out)
    replace Gd := Lib.hid ((hb.block _ (lt_of_heap Gd.out)).trans Gd.out)
    replace Gg := Lib.hid ((hb.block _ (lt_of_heap Gg.out)).trans Gg.out)
    replace Rd := Lib.hid (Rd.out.below hb)
    replace Rs := Lib.hid (Rs.out.below hb)
    have Ry := Lib.hid hr
    clear hr hb
    have cGn := cell_row Gn.out
    have cGd := cell_row Gd.out
    have cGg := cell_row Gg.out
    go_wp2_with fail
    refine (S8.out _ _ _ Rs.out Ry.out).mono ?_
    rintro e w9 ⟨rz, rfl, hr, hb⟩
    clear cGn cGd cGg
    replace HB := Lib.hid (below_then HB.out hb)
    replace Gn := Lib.hid ((hb.block _ (lt_of_heap Gn.out)).trans Gn.out)
    replace Gd := Lib.hid ((hb.block _ (lt_of_heap Gd.out)).trans Gd.out)
    replace Gg := Lib.hid ((hb.block _ (lt_of_heap Gg.out)).trans Gg.out)
    replace Rs := Lib.hid (Rs.out.below hb)
    replace Ry := Lib.hid (Ry.out.below hb)
    have Rz := Lib.hid hr
    clear hr hb
    have cGn := cell_row Gn.out
    have cGd := cell_row Gd.out
    have cGg := cell_row Gg.out
    go_wp2_with fail
    refine (S9.out _ _ Rz.out).mono ?_
    rintro e w10 ⟨rq, rfl, hr, hb⟩
    clear cGn cGd cGg
    replace HB := Lib.hid (below_then HB.out hb)
    replace Gn := Lib.hid ((hb.block _ (lt_of_heap Gn.out)).trans Gn.out)
    replace Gd := Lib.hid ((hb.block _ (lt_of_heap Gd.out)).trans Gd.out)
    replace Gg := Lib.hid ((hb.block _ (lt_of_heap Gg.out)).trans Gg.out)
    replace Rz := Lib.hid (Rz.out.below hb)
    have Rq := Lib.hid hr
    clear hr hb
    have cGn := cell_row Gn.out
    have cGd := cell_row Gd.out
    have cGg := cell_row Gg.out
    go_wp2_with fail
    refine (S10.out _ _ Rq.out).mono ?_
    rintro e w11 ⟨rfl, hb⟩
    clear cGn cGd cGg
    replace HB := Lib.hid (below_then HB.out hb)
    replace Gn := Lib.hid ((hb.block _ (lt_of_heap Gn.out)).trans Gn.out)
    replace Gd := Lib.hid ((hb.block _ (lt_of_heap Gd.out)).trans Gd.out)
    replace Gg := Lib.hid ((hb.block _ (lt_of_heap Gg.out)).trans Gg.out)
    replace Rq := Lib.hid (Rq.out.below hb)
    clear hb
    replace Gn := Lib.hid (keepAl (o' := .cells (wcells G) 24) Gn.out)
    replace Gd := Lib.hid (keepAl (o' := .cells (wcells G) 24) Gd.out)
    replace Gg := Lib.hid (keepAl (o' := .cells (wcells G) 24) Gg.out)
    have Gx := Lib.hid (alloc_new (w11) (.cells (wcells G) 24))
    replace HB := Lib.hid (below_al HB.out (.cells (wcells G) 24))
    have cGn := cell_row Gn.out
    have cGd := cell_row Gd.out
    have cGg := cell_row Gg.out
    have cGx := cell_row Gx.out
    go_wp2_with fail
    refine (S11.out _).mono ?_
    rintro e w12 ⟨rfl, hb⟩
    clear cGn cGd cGg cGx
    replace HB := Lib.hid (below_then HB.out hb)
    replace Gn := Lib.hid ((hb.block _ (lt_of_heap Gn.out)).trans Gn.out)
    replace Gd := Lib.hid ((hb.block _ (lt_of_heap Gd.out)).trans Gd.out)
    replace Gg := Lib.hid ((hb.block _ (lt_of_heap Gg.out)).trans Gg.out)
    replace Gx := Lib.hid ((hb.block _ (lt_of_heap Gx.out)).trans Gx.out)
    clear hb
    replace Gn := Lib.hid (keepAl (o' := .cells (wcells Q) 24) Gn.out)
    replace Gd := Lib.hid (keepAl (o' := .cells (wcells Q) 24) Gd.out)
    replace Gg := Lib.hid (keepAl (o' := .cells (wcells Q) 24) Gg.out)
    replace Gx := Lib.hid (keepAl (o' := .cells (wcells Q) 24) Gx.out)
    have Gq := Lib.hid (alloc_new (w12) (.cells (wcells Q) 24))
    replace HB := Lib.hid (below_al HB.out (.cells (wcells Q) 24))
    replace Gn := Lib.hid (keepAl (o' := .cells (wcells R) 24) Gn.out)
    replace Gd := Lib.hid (keepAl (o' := .cells (wcells R) 24) Gd.out)
    replace Gg := Lib.hid (keepAl (o' := .cells (wcells R) 24) Gg.out)
    replace Gx := Lib.hid (keepAl (o' := .cells (wcells R) 24) Gx.out)
    replace Gq := Lib.hid (keepAl (o' := .cells (wcells R) 24) Gq.out)
    have Gr := Lib.hid (alloc_new' (w := (w12).alloc (.cells (wcells Q) 24)) (n := w12.heap.size + 1) (.cells (wcells R) 24) (by simp))
    replace HB := Lib.hid (below_al HB.out (.cells (wcells R) 24))
    have cGg := cell_row Gg.out
    have cGx := cell_row Gx.out
    have cGq := cell_row Gq.out
    go_upto_region 12 with fail
    clear cGg cGx cGq
    obtain ⟨wT, hw⟩ : ∃ wx, wx = ((w12).alloc (.cells (wcells Q) 24)).alloc (.cells (wcells R) 24) := ⟨_, rfl⟩
    rw [← hw] at Gg Gx Gq HB ⊢
    clear hw
    have xGg := ext_row (B := wT.heap.size) Gg.out (lt_of_heap Gg.out)
    have xGx := ext_row (B := wT.heap.size) Gx.out (lt_of_heap Gx.out)
    have xGq := ext_row (B := wT.heap.size) Gq.out (lt_of_heap Gq.out)
    apply wp_region_loose (looseR [_, _, _, _, _, _, _, _, _, _, _, _, _, _, _, _, _, _, _]) (pureL [])
    · kernel_rfl
    · kernel_rfl
    · kernel_rfl
    · exact allocs_ok [] rfl (by intro T hT; cases hT)
    · exact looseR_st _
    · change wpL _ _ _ _ _ _ _ 19 0 _ _
      refine wpL_calm wT rfl rfl rfl rfl (fun K hK K0 hK0 => ?_)
      go_simp
      first | refine hK _ _ rfl rfl ?_ | refine hK0 _ rfl ?_
      clear hK hK0 K K0
      refine wpL_calm wT rfl rfl rfl rfl (fun K hK K0 hK0 => ?_)
      go_simp
      first | refine hK _ _ rfl rfl ?_ | refine hK0 _ rfl ?_
      clear hK hK0 K K0
      refine wpL_calm wT rfl rfl rfl rfl (fun K hK K0 hK0 => ?_)
      go_simp
      first | refine hK _ _ rfl rfl ?_ | refine hK0 _ rfl ?_
      clear hK hK0 K K0
      refine wpL_calm wT rfl rfl rfl rfl (fun K hK K0 hK0 => ?_)
      go_simp
      first | refine hK _ _ rfl rfl ?_ | refine hK0 _ rfl ?_
      clear hK hK0 K K0
      refine wpL_calm wT rfl rfl rfl rfl (fun K hK K0 hK0 => ?_)
      go_simp
      first | refine hK _ _ rfl rfl ?_ | refine hK0 _ rfl ?_
      clear hK hK0 K K0
      refine wpL_calm wT rfl rfl rfl rfl (fun K hK K0 hK0 => ?_)
      go_simp
      first | refine hK _ _ rfl rfl ?_ | refine hK0 _ rfl ?_
      clear hK hK0 K K0
      refine wpL_calm wT rfl rfl rfl rfl (fun K hK K0 hK0 => ?_)
      go_simp
      first | refine hK _ _ rfl rfl ?_ | refine hK0 _ rfl ?_
      clear hK hK0 K K0
      refine wpL_calm wT rfl rfl rfl rfl (fun K hK K0 hK0 => ?_)
      go_simp
      first | refine hK _ _ rfl rfl ?_ | refine hK0 _ rfl ?_
      clear hK hK0 K K0
      refine wpL_calm wT rfl rfl rfl rfl (fun K hK K0 hK0 => ?_)
      go_simp
      first | refine hK _ _ rfl rfl ?_ | refine hK0 _ rfl ?_
      clear hK hK0 K K0
      refine wpL_call (Lft.big G) (big_some w _) rfl rfl rfl rfl (by first | rfl | go_simp) rfl (fun w' hC hF => ?_) (fun v9 hv9 => ?_)
      · obtain ⟨x, rfl⟩ := hC
        go_simp
        go_at_call 37
        exact gives_loose (S12.out _)
      refine wpL_calm wT rfl rfl rfl rfl (fun K hK K0 hK0 => ?_)
      go_simp
      first | refine hK _ _ rfl rfl ?_ | refine hK0 _ rfl ?_
      clear hK hK0 K K0
      refine wpL_call (Lft.big Q) (big_some w _) rfl rfl rfl rfl (by first | rfl | go_simp) rfl (fun w' hC hF => ?_) (fun v11 hv11 => ?_)
      · obtain ⟨x, rfl⟩ := hC
        go_simp
        go_at_call 37
        exact gives_loose (S13.out _)
      refine wpL_call (Lft.big A) (big_some w _) rfl rfl rfl rfl (by first | rfl | go_simp) rfl (fun w' hC hF => ?_) (fun v12 hv12 => ?_)
      · obtain ⟨x, rfl⟩ := hC
        go_simp
        go_at_call 36
        exact gives_loose (S14.out _ _ _ (hF 9 _ 73 rfl rfl rfl rfl (by decide)) (hF 11 _ 75 rfl rfl rfl rfl (by decide)))
      refine wpL_call (Lft.val (.bool true)) (val_some wT _) rfl rfl rfl rfl (by first | rfl | go_simp) rfl (fun w' hC hF => ?_) (fun v13 hv13 => ?_)
      · obtain ⟨x, rfl⟩ := hC
        go_simp
        go_at_call 35
        exact val_loose (S15.out _ _ (hF 12 _ 76 rfl rfl rfl rfl (by decide)))
      obtain ⟨_, rfl⟩ := hv13
      refine wpL_calm wT rfl rfl rfl rfl (fun K hK K0 hK0 => ?_)
      go_simp
      first | refine hK _ _ rfl rfl ?_ | refine hK0 _ rfl ?_
      clear hK hK0 K K0
      refine wpL_calm wT rfl rfl rfl rfl (fun K hK K0 hK0 => ?_)
      go_simp
      first | refine hK _ _ rfl rfl ?_ | refine hK0 _ rfl ?_
      clear hK hK0 K K0
      refine wpL_call (Lft.val (.bool true)) (val_some wT _) rfl rfl rfl rfl (by first | rfl | go_simp) rfl (fun w' hC hF => ?_) (fun v16 hv16 => ?_)
      · obtain ⟨x, rfl⟩ := hC
        go_simp
        go_at_call 23
        exact val_loose (SA.out _)
      obtain ⟨_, rfl⟩ := hv16
      refine wpL_calm wT rfl rfl rfl rfl (fun K hK K0 hK0 => ?_)
      go_simp
      first | refine hK _ _ rfl rfl ?_ | refine hK0 _ rfl ?_
      clear hK hK0 K K0
      refine wpL_calm wT rfl rfl rfl rfl (fun K hK K0 hK0 => ?_)
      go_simp
      first | refine hK _ _ rfl rfl ?_ | refine hK0 _ rfl ?_
      clear hK hK0 K K0
      refine wpL_nil (endL [] rfl (by intro q hq; cases hq) (fun w13 hb hst hap hfin => ?_))
      replace HB := Lib.hid (below_then HB.out hb)
      replace Gg := Lib.hid ((hb.block _ (lt_of_heap Gg.out)).trans Gg.out)
      replace Gx := Lib.hid ((hb.block _ (lt_of_heap Gx.out)).trans Gx.out)
      replace Gq := Lib.hid ((hb.block _ (lt_of_heap Gq.out)).trans Gq.out)
      clear hb hst hap hfin xGg xGx xGq
      go_wp2
      go_ret
      exact ⟨rfl, HB.out⟩
  · have S1 := Lib.hid (fun e (g : Nat) w' (_ : w'.heap[e]? = some (.cells #[.pointer (some ⟨g, 0, none⟩)] 108 (0, 0))) (hI : IsRom w' g) (_ : e ≠ g) => (guessE_no (.pointer (some ⟨e, 0, none⟩)) n d _ hm (fun w'' => mayE_w e n d hn hd w'') w').mono fun _ _ ⟨h1, h2⟩ => (⟨h1, (VG.refl hI).below h2⟩ : _ ∧ VG g w' _))
    obtain ⟨E, hE⟩ : ∃ x, x = mayN n d := ⟨_, rfl⟩
    rw [← hE] at S1 S2 hm
    have hb : (E != 0) = true := by simp [hm]
    clear hn hd hE
    go_enter Tryz.func9, Tryz.ntmps9
    have HB := Lib.hid (Below.refl w.heap.size w)
    have Gn := Lib.hid (alloc_new (w) (.cells (wcells n) 24))
    replace HB := Lib.hid (below_al HB.out (.cells (wcells n) 24))
    replace Gn := Lib.hid (keepAl (o' := .cells (wcells d) 24) Gn.out)
    have Gd := Lib.hid (alloc_new' (w := (w).alloc (.cells (wcells n) 24)) (n := w.heap.size + 1) (.cells (wcells d) 24) (by simp))
    replace HB := Lib.hid (below_al HB.out (.cells (wcells d) 24))
    have cGn := cell_row Gn.out
    have cGd := cell_row Gd.out
    go_upto_region 1 with fail
    clear cGn cGd
    obtain ⟨wA, hw⟩ : ∃ wx, wx = ((w).alloc (.cells (wcells n) 24)).alloc (.cells (wcells d) 24) := ⟨_, rfl⟩
    rw [← hw] at Gn Gd HB ⊢
    clear hw
    have HZ := Lib.hid (lt_of_heap Gd.out)
    have cGn := cell_row Gn.out
    have cGd := cell_row Gd.out
    go_wp2_with fail
    refine (S0.out _).mono ?_
    rintro x w14 ⟨e, g, rfl, hen, hb⟩
    clear cGn cGd
    replace HB := Lib.hid (below_then HB.out hb)
    replace Gn := Lib.hid ((hb.block _ (lt_of_heap Gn.out)).trans Gn.out)
    replace Gd := Lib.hid ((hb.block _ (lt_of_heap Gd.out)).trans Gd.out)
    have Ge := Lib.hid hen.eng
    have KR := Lib.hid hen.rom
    have HNE := Lib.hid hen.ne
    have HLE := Lib.hid hen.le
    have HLG := Lib.hid hen.lg
    clear hen hb
    have cGn := cell_row Gn.out
    have cGd := cell_row Gd.out
    have cGe := cell_row Ge.out
    go_wp2_with fail
    refine (S1.out _ _ _ Ge.out KR.out HNE.out).mono ?_
    rintro e w15 ⟨rfl, hv⟩
    clear cGn cGd cGe
    replace Gn := Lib.hid (hv.heap Gn.out (by have := HZ.out; have := HLG.out; have := HNE.out; omega))
    replace Gd := Lib.hid (hv.heap Gd.out (by have := HZ.out; have := HLG.out; have := HNE.out; omega))
    replace Ge := Lib.hid (hv.heap Ge.out (by have := HZ.out; have := HLG.out; have := HNE.out; omega))
    replace HB := Lib.hid (hv.out HB.out (by have := HZ.out; have := HLG.out; have := HNE.out; omega))
    replace KR := Lib.hid hv.rom
    clear hv
    replace Gn := Lib.hid (keepAl (o' := .cells (wcells 0) 24) Gn.out)
    replace Gd := Lib.hid (keepAl (o' := .cells (wcells 0) 24) Gd.out)
    have Gg := Lib.hid (alloc_new (w15) (.cells (wcells 0) 24))
    replace HB := Lib.hid (below_al HB.out (.cells (wcells 0) 24))
    have cGn := cell_row Gn.out
    have cGd := cell_row Gd.out
    have cGg := cell_row Gg.out
    go_wp2_with fail
    refine (S2.out _).mono ?_
    rintro e w16 ⟨rfl, hb⟩
    clear cGn cGd cGg
    replace HB := Lib.hid (below_then HB.out hb)
    replace Gn := Lib.hid ((hb.block _ (lt_of_heap Gn.out)).trans Gn.out)
    replace Gd := Lib.hid ((hb.block _ (lt_of_heap Gd.out)).trans Gd.out)
    replace Gg := Lib.hid ((hb.block _ (lt_of_heap Gg.out)).trans Gg.out)
    clear hb
    have cGn := cell_row Gn.out
    have cGd := cell_row Gd.out
    have cGg := cell_row Gg.out
    go_wp2_with fail
    refine (SA.out _).mono ?_
    rintro e w17 ⟨rfl, hb⟩
    clear cGn cGd cGg
    replace HB := Lib.hid (below_then HB.out hb)
    replace Gn := Lib.hid ((hb.block _ (lt_of_heap Gn.out)).trans Gn.out)
    replace Gd := Lib.hid ((hb.block _ (lt_of_heap Gd.out)).trans Gd.out)
    replace Gg := Lib.hid ((hb.block _ (lt_of_heap Gg.out)).trans Gg.out)
    clear hb
    have cGn := cell_row Gn.out
    have cGd := cell_row Gd.out
    have cGg := cell_row Gg.out
    go_wp2
    go_ret
    exact ⟨rfl, HB.out⟩
end Go.Proofs.YtegmmaaapdgocaaGreat
