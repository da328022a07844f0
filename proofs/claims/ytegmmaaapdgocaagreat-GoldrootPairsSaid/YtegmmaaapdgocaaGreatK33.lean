/- SEVERAL TEXTS of the seat, one behind the other: each says at its head what it proves. -/
import Derived.Test.YtegmmaaapdgocaaGreatK28
import Derived.Test.YtegmmaaapdgocaaGreatK31
import Derived.Test.YtegmmaaapdgocaaGreatK26
/- THE WALKS of the laws on newtonroot: the document's example; roots. -/
namespace Go.Proofs.YtegmmaaapdgocaaGreat
open Go Go.RowKit

attribute [local go_sem ↓] Go.wp_at_zero Go.wp_at_succ
set_option maxRecDepth 100000 in
set_option maxHeartbeats 1000000 in
theorem awake20_any (w : World) : Calls Tryz.prog 19 #[] w fun e w' => e = .returned (.bool true) ∧ Below w.heap.size w w' := by
  have S0 := Lib.hid (fun w' => newR_nil w')
  have S1 := Lib.hid (fun e g w' hE hI hne => rootQ_w e g 99 (lit_ltM _ (by decide)) w' hE hI hne)
  obtain ⟨h0, h1, _⟩ := root_99
  obtain ⟨a1, a2, a3⟩ := rs_yes h0
  rw [a1, a2, a3, h1] at S1
  have E99 : (#[.int .u64 99, .int .u64 0, .int .u64 0, .int .u64 0, .int .u64 0, .int .u64 0, .int .u64 0, .int .u64 0] : Array Value) = wcells 99 := lit_cells 99 (by decide)
  have E9 : (#[.int .u64 9, .int .u64 0, .int .u64 0, .int .u64 0, .int .u64 0, .int .u64 0, .int .u64 0, .int .u64 0] : Array Value) = wcells 9 := lit_cells 9 (by decide)
  have E18 : (#[.int .u64 18, .int .u64 0, .int .u64 0, .int .u64 0, .int .u64 0, .int .u64 0, .int .u64 0, .int .u64 0] : Array Value) = wcells 18 := lit_cells 18 (by decide)
  clear h0 h1 a1 a2 a3
  go_enter Tryz.func19, Tryz.ntmps19
  have HB := Lib.hid (Below.refl w.heap.size w)
  go_wp2_with fail
  refine (S0.out _).mono ?_
  rintro x w1 ⟨e, g, rfl, hen, hb⟩
  replace HB := Lib.hid (below_then HB.out hb)
  have Ge := Lib.hid hen.eng
  have KR := Lib.hid hen.rom
  have HNE := Lib.hid hen.ne
  have HLE := Lib.hid hen.le
  have HLG := Lib.hid hen.lg
  clear hen hb
  have cGe := cell_row Ge.out
  go_wp2_with fail
  refine (S1.out _ _ _ Ge.out KR.out HNE.out).mono ?_
  rintro e w2 ⟨rfl, hv⟩
  clear cGe
  replace Ge := Lib.hid (hv.heap Ge.out (by have := HLG.out; have := HNE.out; omega))
  replace HB := Lib.hid (hv.out HB.out (by have := HLG.out; have := HNE.out; omega))
  replace KR := Lib.hid hv.rom
  clear hv
  have Gq := Lib.hid (alloc_new (w2) (.cells (wcells 9) 24))
  replace HB := Lib.hid (below_al HB.out (.cells (wcells 9) 24))
  replace Gq := Lib.hid (keepAl (o' := .cells (wcells 18) 24) Gq.out)
  have Gr := Lib.hid (alloc_new' (w := (w2).alloc (.cells (wcells 9) 24)) (n := w2.heap.size + 1) (.cells (wcells 18) 24) (by simp))
  replace HB := Lib.hid (below_al HB.out (.cells (wcells 18) 24))
  have cGq := cell_row Gq.out
  have cGr := cell_row Gr.out
  go_wp2
  go_ret
  exact ⟨rfl, HB.out⟩
set_option maxRecDepth 100000 in
set_option maxHeartbeats 2000000 in
theorem newtonrootRoots_any (n : Nat) (w : World) (hn : n < M) :
    Calls Tryz.prog 3 #[wv n] w fun e w' => e = .returned (.bool true) ∧ Below w.heap.size w w' := by
  have S0 := Lib.hid (fun w' => romNew_any w')
  have S1 := Lib.hid (fun g w' h => newR_at g w' h)
  have S2 := Lib.hid (fun e g w' hE hI hne => rootQ_w e g n hn w' hE hI hne)
  have S4 := Lib.hid (fun w' => holds12_any n w' hn)
  have SA := Lib.hid (fun w' => awake20_any w')
  obtain ⟨Q, hQ⟩ : ∃ x, x = rsS n := ⟨_, rfl⟩
  obtain ⟨R, hR⟩ : ∃ x, x = rsR n := ⟨_, rfl⟩
  obtain ⟨E, hE⟩ : ∃ x, x = rsE n := ⟨_, rfl⟩
  rw [← hQ, ← hR, ← hE] at S2 S4
  clear hn hQ hR hE
  go_enter Tryz.func3, Tryz.ntmps3
  have HB := Lib.hid (Below.refl w.heap.size w)
  have Gn := Lib.hid (alloc_new (w) (.cells (wcells n) 24))
  replace HB := Lib.hid (below_al HB.out (.cells (wcells n) 24))
  have cGn := cell_row Gn.out
  go_upto_region 1 with fail
  clear cGn
  obtain ⟨wA, hw⟩ : ∃ wx, wx = (w).alloc (.cells (wcells n) 24) := ⟨_, rfl⟩
  rw [← hw] at Gn HB ⊢
  clear hw
  have HZ := Lib.hid (lt_of_heap Gn.out)
  go_wp2_with fail
  refine (S0.out _).mono ?_
  rintro x wB ⟨rfl, hr, hb⟩
  replace HB := Lib.hid (below_then HB.out hb)
  have KR := Lib.hid (show IsRom wB wA.heap.size from Or.inl hr)
  replace Gn := Lib.hid ((hb.block _ (lt_of_heap Gn.out)).trans Gn.out)
  clear hb hr
  go_wp2_with fail
  refine (S1.out _ _ KR.out).mono ?_
  rintro x wC ⟨rfl, he, hr, hb⟩
  replace HB := Lib.hid (below_then HB.out hb)
  have HNE := Lib.hid (show wB.heap.size ≠ wA.heap.size from fun h => by have := KR.out.lt; omega)
  replace KR := Lib.hid hr
  have Ge := Lib.hid he
  replace Gn := Lib.hid ((hb.block _ (lt_of_heap Gn.out)).trans Gn.out)
  clear hb hr he
  have cGn := cell_row Gn.out
  have cGe := cell_row Ge.out
  go_wp2_with fail
  refine (S2.out _ _ _ Ge.out KR.out HNE.out).mono ?_
  rintro e w3 ⟨rfl, hv⟩
  clear cGn cGe
  replace Gn := Lib.hid (hv.heap Gn.out (by have := HZ.out; have := HNE.out; omega))
  replace Ge := Lib.hid (hv.heap Ge.out (by have := HZ.out; have := HNE.out; omega))
  replace HB := Lib.hid (hv.out HB.out (by have := HZ.out; have := HNE.out; omega))
  replace KR := Lib.hid hv.rom
  clear hv
  replace Gn := Lib.hid (keepAl (o' := .cells (wcells Q) 24) Gn.out)
  have Gq := Lib.hid (alloc_new (w3) (.cells (wcells Q) 24))
  replace HB := Lib.hid (below_al HB.out (.cells (wcells Q) 24))
  replace Gn := Lib.hid (keepAl (o' := .cells (wcells R) 24) Gn.out)
  replace Gq := Lib.hid (keepAl (o' := .cells (wcells R) 24) Gq.out)
  have Gr := Lib.hid (alloc_new' (w := (w3).alloc (.cells (wcells Q) 24)) (n := w3.heap.size + 1) (.cells (wcells R) 24) (by simp))
  replace HB := Lib.hid (below_al HB.out (.cells (wcells R) 24))
  have cGn := cell_row Gn.out
  have cGq := cell_row Gq.out
  have cGr := cell_row Gr.out
  go_wp2_with fail
  refine (S4.out _).mono ?_
  rintro e w4 ⟨rfl, hb⟩
  clear cGn cGq cGr
  replace HB := Lib.hid (below_then HB.out hb)
  replace Gn := Lib.hid ((hb.block _ (lt_of_heap Gn.out)).trans Gn.out)
  replace Gq := Lib.hid ((hb.block _ (lt_of_heap Gq.out)).trans Gq.out)
  replace Gr := Lib.hid ((hb.block _ (lt_of_heap Gr.out)).trans Gr.out)
  clear hb
  have cGn := cell_row Gn.out
  have cGq := cell_row Gq.out
  have cGr := cell_row Gr.out
  go_wp2_with fail
  refine (SA.out _).mono ?_
  rintro e w5 ⟨rfl, hb⟩
  clear cGn cGq cGr
  replace HB := Lib.hid (below_then HB.out hb)
  replace Gn := Lib.hid ((hb.block _ (lt_of_heap Gn.out)).trans Gn.out)
  replace Gq := Lib.hid ((hb.block _ (lt_of_heap Gq.out)).trans Gq.out)
  replace Gr := Lib.hid ((hb.block _ (lt_of_heap Gr.out)).trans Gr.out)
  clear hb
  have cGn := cell_row Gn.out
  have cGq := cell_row Gq.out
  have cGr := cell_row Gr.out
  go_wp2
  go_ret
  exact ⟨rfl, HB.out⟩
end Go.Proofs.YtegmmaaapdgocaaGreat

/- THE WALK of the reference of newtonroot: the reciprocal of a root, round by round. -/
namespace Go.Proofs.YtegmmaaapdgocaaGreat
open Go Go.RowKit

theorem rootV_guess {U : Nat} (h : blen U = 255 ∨ blen U = 256) : 32 ≤ U / P2 249 ∧ U / P2 249 < 128 ∧ rootV ((U / P2 249 : Nat) : Int) = guessRV U := by
  have hr : 32 ≤ U / P2 249 ∧ U / P2 249 < 128 := by
    rcases h with hl | hl
    · obtain ⟨r1, r2⟩ := high_range hl (show 249 < 255 by omega)
      rw [show P2 (255 - 1 - 249) = 32 by rw [P2_eq]] at r1
      rw [show P2 (255 - 249) = 64 by rw [P2_eq]] at r2
      omega
    · obtain ⟨r1, r2⟩ := high_range hl (show 249 < 256 by omega)
      rw [show P2 (256 - 1 - 249) = 64 by rw [P2_eq]] at r1
      rw [show P2 (256 - 249) = 128 by rw [P2_eq]] at r2
      omega
  refine ⟨hr.1, hr.2, ?_⟩
  unfold rootV guessRV
  rw [if_pos (by omega), if_pos h]
  congr 1
  omega
attribute [local go_sem ↓] Go.wp_at_zero Go.wp_at_succ
set_option maxRecDepth 100000 in
set_option maxHeartbeats 2000000 in
theorem rrecip20_any (v : Value) (U k : Nat) (w : World) (hb : blen U = 255 ∨ blen U = 256) (r1 : P2 254 ≤ U) (r2 : U < P2 256) (hk : k ≤ 10) (h : IsBig w v U) :
    Calls Tryz.prog 33 #[v, .int .i64 (k : Int)] w (GivesBig (nrY U k) w) := by
  have hUB : U < BIG := small_of r2 (by decide)
  obtain ⟨q1, q2, q3⟩ := rootV_guess hb
  have S3 := Lib.hid (fun v w' h => rshr_any v U 249 w' hUB (by decide) h)
  have S4 := Lib.hid (fun w' => rroot17_any ((U / P2 249 : Nat) : Int) w')
  rw [q3] at S4
  have hg := guessRV_le U
  have S5 := Lib.hid (fun w' => small_any (guessRV U) w' (by omega))
  have S6 := Lib.hid (fun v w' h => rshl_any v (guessRV U) 151 w' (small_of (show guessRV U < P2 32 by rw [P2_eq]; omega) (by decide)) (by decide) h)
  rw [show guessRV U * P2 151 = nrY U 0 from rfl] at S6
  have S7 := Lib.hid (fun w' => power_any 161 (by decide) w')
  have S7b := Lib.hid (fun w' => power_any 160 (by decide) w')
  have S7c := Lib.hid (fun v v2 w' h h2 => add_any v v2 (P2 161) (P2 160) w' (small_of (P2_lt (show 161 < 162 by omega)) (by decide)) (small_of (P2_lt (show 160 < 161 by omega)) (by decide)) h h2)
  have h170 : P2 161 + P2 160 < P2 170 := by
    have h1 : P2 161 ≤ P2 168 := P2_le (by omega)
    have h2 : P2 160 ≤ P2 168 := P2_le (by omega)
    have h3 : P2 168 + P2 168 = P2 169 := by rw [P2_twice 168]; omega
    have h4 : P2 169 < P2 170 := P2_lt (by omega)
    omega
  have hyB : ∀ i, nrY U i < P2 162 := fun i => (nr_all hb r1 r2 i).small r1
  have hyy : ∀ i, nrY U i * nrY U i < P2 324 := fun i => by
    have := Nat.mul_lt_mul'' (hyB i) (hyB i)
    rwa [← P2_add] at this
  have S8 := Lib.hid (fun i v v2 w' h h2 => mul_any v v2 (nrY U i) (nrY U i) w' (small_of (hyB i) (by decide)) (small_of (hyB i) (by decide)) h h2)
  have S9 := Lib.hid (fun i v w' h => rshr_any v (nrY U i * nrY U i) 160 w' (small_of (hyy i) (by decide)) (by decide) h)
  have hsq : ∀ i, nrY U i * nrY U i / P2 160 < P2 324 := fun i => Nat.lt_of_le_of_lt (Nat.div_le_self _ _) (hyy i)
  have S10 := Lib.hid (fun i v v2 w' h h2 => mul_any v v2 U (nrY U i * nrY U i / P2 160) w' hUB (small_of (hsq i) (by decide)) h h2)
  have hUs : ∀ i, U * (nrY U i * nrY U i / P2 160) < P2 580 := fun i => by
    have := Nat.mul_lt_mul'' r2 (hsq i)
    rwa [← P2_add] at this
  have S11 := Lib.hid (fun i v w' h => rshr_any v (U * (nrY U i * nrY U i / P2 160)) 256 w' (small_of (hUs i) (by decide)) (by decide) h)
  have hle2 : ∀ i, U * (nrY U i * nrY U i / P2 160) / P2 256 ≤ P2 161 + P2 160 := fun i => Nat.le_trans (nr_all hb r1 r2 i).less (Nat.le_add_right _ _)
  have S12 := Lib.hid (fun i v v2 w' (h : IsBig w' v (P2 161 + P2 160)) h2 => sub_any v v2 (U * (nrY U i * nrY U i / P2 160) / P2 256) (P2 161 + P2 160 - U * (nrY U i * nrY U i / P2 160) / P2 256) w' (by rw [Nat.add_sub_cancel' (hle2 i)]; exact small_of h170 (by decide)) (by rw [Nat.add_sub_cancel' (hle2 i)]; exact h) h2)
  have hls : ∀ i, P2 161 + P2 160 - U * (nrY U i * nrY U i / P2 160) / P2 256 < P2 170 := fun i => Nat.lt_of_le_of_lt (Nat.sub_le _ _) h170
  have S13 := Lib.hid (fun i v v2 w' h h2 => mul_any v v2 (nrY U i) (P2 161 + P2 160 - U * (nrY U i * nrY U i / P2 160) / P2 256) w' (small_of (hyB i) (by decide)) (small_of (hls i) (by decide)) h h2)
  have hyl : ∀ i, nrY U i * (P2 161 + P2 160 - U * (nrY U i * nrY U i / P2 160) / P2 256) < P2 332 := fun i => by
    have := Nat.mul_lt_mul'' (hyB i) (hls i)
    rwa [← P2_add] at this
  have S14 := Lib.hid (fun i v w' h => rshr_any v (nrY U i * (P2 161 + P2 160 - U * (nrY U i * nrY U i / P2 160) / P2 256)) 161 w' (small_of (hyl i) (by decide)) (by decide) h)
  have HY := Lib.hid (fun i => (nrY_succ U i).symm)
  obtain ⟨q, hq⟩ : ∃ q, q = U / P2 249 := ⟨_, rfl⟩
  rw [← hq] at S3 S4 q1 q2
  have HQ := Lib.hid (show 0 < q ∧ q < P2 32 by rw [P2_eq]; omega)
  have e1 : IntKind.i64.wrap (q : Int) = (q : Int) := IntWalk.i64_in _ (by omega)
  obtain ⟨G, hG⟩ : ∃ q, q = guessRV U := ⟨_, rfl⟩
  rw [← hG] at S4 S5 S6
  obtain ⟨ok, hok⟩ : ∃ x, x = rootB (q : Int) := ⟨_, rfl⟩
  rw [← hok] at S4
  obtain ⟨S, hS⟩ : ∃ x, x = P2 161 + P2 160 := ⟨_, rfl⟩
  rw [← hS] at S7c S12 S13 S14 HY
  have HK := Lib.hid hk
  have Ru := Lib.hid h
  clear h hb r1 r2 hk hUB q1 q2 q3 hg h170 hyB hyy hsq hUs hle2 hls hyl hq hG hok hS
  go_enter Tryz.func33, Tryz.ntmps33
  have HB := Lib.hid (Below.refl w.heap.size w)
  go_wp2_with fail
  refine (S3.out _ _ Ru.out).mono ?_
  rintro e w1 ⟨rq, rfl, hr, hb⟩
  replace HB := Lib.hid (below_then HB.out hb)
  replace Ru := Lib.hid (Ru.out.below hb)
  have Rq := Lib.hid hr
  clear hr hb
  obtain ⟨qb, qo, qc, rfl, hl1, ch⟩ := Rq.out.lone HQ.out.1 HQ.out.2
  clear hl1
  go_wp2_with fail
  refine (S4.out _).mono ?_
  rintro e w2 ⟨rfl, hb⟩
  replace HB := Lib.hid (below_then HB.out hb)
  replace Ru := Lib.hid (Ru.out.below hb)
  replace Rq := Lib.hid (Rq.out.below hb)
  clear hb
  clear ch
  go_wp2_with fail
  refine (S5.out _).mono ?_
  rintro e w3 ⟨rf, rfl, hr, hb⟩
  replace HB := Lib.hid (below_then HB.out hb)
  replace Ru := Lib.hid (Ru.out.below hb)
  have Rf := Lib.hid hr
  clear hr hb
  go_wp2_with fail
  refine (S6.out _ _ Rf.out).mono ?_
  rintro e w4 ⟨ry, rfl, hr, hb⟩
  replace HB := Lib.hid (below_then HB.out hb)
  replace Ru := Lib.hid (Ru.out.below hb)
  replace Rf := Lib.hid (Rf.out.below hb)
  have Ry := Lib.hid hr
  clear hr hb
  go_wp2_with fail
  refine (S7.out _).mono ?_
  rintro e w5 ⟨ra, rfl, hr, hb⟩
  replace HB := Lib.hid (below_then HB.out hb)
  replace Ru := Lib.hid (Ru.out.below hb)
  replace Ry := Lib.hid (Ry.out.below hb)
  have Ra := Lib.hid hr
  clear hr hb
  go_wp2_with fail
  refine (S7b.out _).mono ?_
  rintro e w6 ⟨rb, rfl, hr, hb⟩
  replace HB := Lib.hid (below_then HB.out hb)
  replace Ru := Lib.hid (Ru.out.below hb)
  replace Ry := Lib.hid (Ry.out.below hb)
  replace Ra := Lib.hid (Ra.out.below hb)
  have Rb := Lib.hid hr
  clear hr hb
  go_wp2_with fail
  refine (S7c.out _ _ _ Ra.out Rb.out).mono ?_
  rintro e w7 ⟨rs, rfl, hr, hb⟩
  replace HB := Lib.hid (below_then HB.out hb)
  replace Ru := Lib.hid (Ru.out.below hb)
  replace Ry := Lib.hid (Ry.out.below hb)
  replace Ra := Lib.hid (Ra.out.below hb)
  replace Rb := Lib.hid (Rb.out.below hb)
  have Rs := Lib.hid hr
  clear hr hb
  go_wp2
  clear Rf Ra Rb S3 S4 S5 S6 S7 S7b S7c
  go_loopw [7, 9] (fun s7 s9 wr => ∃ i : Nat, s9 = .int .i64 (i : Int) ∧ i ≤ k ∧ Hid (IsBig wr v U) ∧ Hid (IsBig wr rs S) ∧ Hid (IsBig wr s7 (nrY U i)) ∧ Hid (Below w.heap.size w wr)) (fun _ s9 _ => k - (intOf s9).toNat)
  case atStart => exact ⟨0, rfl, Nat.zero_le _, Ru, Rs, Ry, HB⟩
  case round =>
    clear HB Ru Ry Rs
    obtain ⟨i, rfl, hi, Ru, Rs, Ry, HB⟩ := hrel
    have hkk := HK.out
    by_cases hlt : i < k
    · have e3 : (i : Int) < (k : Int) := by omega
      have e4 : IntKind.i64.wrap ((i : Int) + 1) = ((i + 1 : Nat) : Int) := by rw [IntWalk.i64_in _ (by omega)]; omega
      have HLT := Lib.hid hlt
      have T8 := Lib.hid (S8.out i); have T9 := Lib.hid (S9.out i); have T10 := Lib.hid (S10.out i); have T11 := Lib.hid (S11.out i); have T12 := Lib.hid (S12.out i); have T13 := Lib.hid (S13.out i); have T14 := Lib.hid (S14.out i)
      rw [HY.out i] at T14
      clear hlt hi hkk
      go_wp2_with fail
      refine (T8.out _ _ _ Ry.out Ry.out).mono ?_
      rintro e w8 ⟨rm, rfl, hr, hb⟩
      replace HB := Lib.hid (below_then HB.out hb)
      replace Ru := Lib.hid (Ru.out.below hb)
      replace Rs := Lib.hid (Rs.out.below hb)
      replace Ry := Lib.hid (Ry.out.below hb)
      have Rm := Lib.hid hr
      clear hr hb
      go_wp2_with fail
      refine (T9.out _ _ Rm.out).mono ?_
      rintro e w9 ⟨rp, rfl, hr, hb⟩
      replace HB := Lib.hid (below_then HB.out hb)
      replace Ru := Lib.hid (Ru.out.below hb)
      replace Rs := Lib.hid (Rs.out.below hb)
      replace Ry := Lib.hid (Ry.out.below hb)
      replace Rm := Lib.hid (Rm.out.below hb)
      have Rp := Lib.hid hr
      clear hr hb
      go_wp2_with fail
      refine (T10.out _ _ _ Ru.out Rp.out).mono ?_
      rintro e w10 ⟨rt, rfl, hr, hb⟩
      replace HB := Lib.hid (below_then HB.out hb)
      replace Ru := Lib.hid (Ru.out.below hb)
      replace Rs := Lib.hid (Rs.out.below hb)
      replace Ry := Lib.hid (Ry.out.below hb)
      replace Rp := Lib.hid (Rp.out.below hb)
      have Rt := Lib.hid hr
      clear hr hb
      go_wp2_with fail
      refine (T11.out _ _ Rt.out).mono ?_
      rintro e w11 ⟨rz, rfl, hr, hb⟩
      replace HB := Lib.hid (below_then HB.out hb)
      replace Ru := Lib.hid (Ru.out.below hb)
      replace Rs := Lib.hid (Rs.out.below hb)
      replace Ry := Lib.hid (Ry.out.below hb)
      replace Rt := Lib.hid (Rt.out.below hb)
      have Rz := Lib.hid hr
      clear hr hb
      go_wp2_with fail
      refine (T12.out _ _ _ Rs.out Rz.out).mono ?_
      rintro e w12 ⟨rd, rfl, hr, hb⟩
      replace HB := Lib.hid (below_then HB.out hb)
      replace Ru := Lib.hid (Ru.out.below hb)
      replace Rs := Lib.hid (Rs.out.below hb)
      replace Ry := Lib.hid (Ry.out.below hb)
      replace Rz := Lib.hid (Rz.out.below hb)
      have Rd := Lib.hid hr
      clear hr hb
      go_wp2_with fail
      refine (T13.out _ _ _ Ry.out Rd.out).mono ?_
      rintro e w13 ⟨rc, rfl, hr, hb⟩
      replace HB := Lib.hid (below_then HB.out hb)
      replace Ru := Lib.hid (Ru.out.below hb)
      replace Rs := Lib.hid (Rs.out.below hb)
      replace Ry := Lib.hid (Ry.out.below hb)
      replace Rd := Lib.hid (Rd.out.below hb)
      have Rc := Lib.hid hr
      clear hr hb
      go_wp2_with fail
      refine (T14.out _ _ Rc.out).mono ?_
      rintro e w14 ⟨rn, rfl, hr, hb⟩
      replace HB := Lib.hid (below_then HB.out hb)
      replace Ru := Lib.hid (Ru.out.below hb)
      replace Rs := Lib.hid (Rs.out.below hb)
      replace Ry := Lib.hid (Ry.out.below hb)
      replace Rc := Lib.hid (Rc.out.below hb)
      have Rn := Lib.hid hr
      clear hr hb
      go_wp2
      go_roundw
      case rel => exact ⟨i + 1, by go_num, HLT.out, Ru, Rs, Rn, HB⟩
      case measure => have := HLT.out; simp [intOf]; omega
    · obtain rfl : i = k := by omega
      clear hlt hi hkk
      go_wp2
      go_ret
      exact ⟨_, rfl, Ry.out, HB.out⟩
end Go.Proofs.YtegmmaaapdgocaaGreat
