/- THE WALK of the law on what srtroot keeps. -/
import Derived.Test.YtffengboblekpaaLaw16b
namespace Go.Proofs.Ytffengboblekpaa
open Go Go.RowKit

theorem keeps_nums {U k : Nat} (h1 : P2 254 ≤ U) (h2 : U < P2 256) (hk : k ≤ 64) : 9 * U ≤ (3 * rpN U k + P2 (1 + 2 * (64 - k))) * (3 * rpN U k + P2 (1 + 2 * (64 - k))) ∧ P2 (1 + 2 * (64 - k)) ≤ 3 * rpN U k ∧ (3 * rpN U k - P2 (1 + 2 * (64 - k))) * (3 * rpN U k - P2 (1 + 2 * (64 - k))) ≤ 9 * U := by
  have h := rP_keep h1 h2 k hk
  obtain ⟨hp, _⟩ := rpN_eq h1 h2 hk
  have hup := h.up
  have hdn := h.dn
  have hpos := h.pos
  rw [hp] at hup hdn hpos
  rw [P2_add, P2_1]
  obtain ⟨W, hW⟩ : ∃ W, W = P2 (2 * (64 - k)) := ⟨_, rfl⟩
  obtain ⟨p, hpe⟩ : ∃ p, p = rpN U k := ⟨_, rfl⟩
  rw [← hW, ← hpe] at hup hdn hpos
  rw [← hW, ← hpe]
  refine ⟨?_, by omega, ?_⟩
  · have e : (((3 * p + 2 * W) * (3 * p + 2 * W) : Nat) : Int) = 9 * ((p : Int) * (p : Int)) + 12 * ((p : Int) * (W : Int)) + 4 * ((W : Int) * (W : Int)) := by push_cast; grind
    omega
  · obtain ⟨b, hb⟩ : ∃ b, 3 * p = b + 2 * W := ⟨3 * p - 2 * W, by omega⟩
    rw [hb, Nat.add_sub_cancel]
    have hbi : (b : Int) = 3 * (p : Int) - 2 * (W : Int) := by omega
    have e : ((b * b : Nat) : Int) = 9 * ((p : Int) * (p : Int)) - 12 * ((p : Int) * (W : Int)) + 4 * ((W : Int) * (W : Int)) := by rw [Int.natCast_mul, hbi]; grind
    omega
attribute [local go_sem ↓] Go.wp_at_zero Go.wp_at_succ
set_option maxRecDepth 100000 in
set_option maxHeartbeats 4000000 in
theorem srtrootKeeps_any (n : Nat) (s : Int) (w : World) (hn : n < M) (hs1 : 0 ≤ s) (hs2 : s ≤ 255) :
    Calls Try.prog 6 #[wv n, .int .u8 s] w fun e w' => e = .returned (.bool true) ∧ Below w.heap.size w w' := by
  have SA := Lib.hid (fun w' => awake16_any w')
  obtain ⟨t, rfl⟩ := Int.eq_ofNat_of_zero_le hs1
  obtain ⟨k, hk⟩ : ∃ k, k = t % 65 := ⟨_, rfl⟩
  have hk64 : k ≤ 64 := by omega
  have hr1 : Int.tmod (t : Int) 65 = (k : Int) := by rw [Int.tmod_eq_emod_of_nonneg (by omega)]; omega
  have hr2 : IntKind.u8.wrap (k : Int) = (k : Int) := by simp [IntKind.wrap, IntKind.bits, IntKind.signed]; omega
  have hr3 : IntKind.i64.wrap (k : Int) = (k : Int) := IntWalk.i64_in _ (by omega)
  have hr4 : (t : Int) % 65 = (k : Int) := by omega
  by_cases hno : n = 0 ∨ ¬ n < P2 256
  · have SD := Lib.hid (fun w' => digitsS_no n hn hno w')
    have SN := Lib.hid (fun w' => normS_no n hn hno w')
    have SF := Lib.hid (fun w' => farS_no n (k : Int) hn (Or.inr (Or.inr hno)) w')
    have e : rsE n = (if 0 ≤ (k : Int) ∧ (k : Int) ≤ 64 ∧ n = 0 then 0 else 4) := by
      by_cases h0 : n = 0
      · rw [if_pos ⟨by omega, by omega, h0⟩]
        exact (rs_yes (by rw [h0]; exact P2_pos _)).2.2
      · rw [if_neg (by omega)]
        exact (rs_no (by omega)).2.2
    rw [← e] at SF
    obtain ⟨E, hE⟩ : ∃ E, E = rsE n := ⟨_, rfl⟩
    rw [← hE] at SD SF
    clear hn hs1 hs2 hk hk64 hno e hE
    go_enter Try.func6, Try.ntmps6
    have HB := Lib.hid (Below.refl w.heap.size w)
    have Gn := Lib.hid (alloc_new (w) (.cells (wcells n) 24))
    replace HB := Lib.hid (below_al HB.out (.cells (wcells n) 24))
    have cGn := cell_row Gn.out
    go_wp2_with fail
    refine (SD.out _).mono ?_
    rintro e w1 ⟨rfl, hb⟩
    clear cGn
    replace HB := Lib.hid (below_then HB.out hb)
    replace Gn := Lib.hid ((hb.block _ (lt_of_heap Gn.out)).trans Gn.out)
    clear hb
    have cGn := cell_row Gn.out
    go_wp2_with fail
    refine (SF.out _).mono ?_
    rintro e w2 ⟨rfl, hb⟩
    clear cGn
    replace HB := Lib.hid (below_then HB.out hb)
    replace Gn := Lib.hid ((hb.block _ (lt_of_heap Gn.out)).trans Gn.out)
    clear hb
    replace Gn := Lib.hid (keepAl (o' := .cells (wcells 0) 24) Gn.out)
    have Gf := Lib.hid (alloc_new (w2) (.cells (wcells 0) 24))
    replace HB := Lib.hid (below_al HB.out (.cells (wcells 0) 24))
    have cGn := cell_row Gn.out
    have cGf := cell_row Gf.out
    go_wp2_with fail
    refine (SN.out _).mono ?_
    rintro e w3 ⟨rfl, hb⟩
    clear cGn cGf
    replace HB := Lib.hid (below_then HB.out hb)
    replace Gn := Lib.hid ((hb.block _ (lt_of_heap Gn.out)).trans Gn.out)
    replace Gf := Lib.hid ((hb.block _ (lt_of_heap Gf.out)).trans Gf.out)
    clear hb
    replace Gn := Lib.hid (keepAl (o' := .cells (wcells 0) 24) Gn.out)
    replace Gf := Lib.hid (keepAl (o' := .cells (wcells 0) 24) Gf.out)
    have Gx := Lib.hid (alloc_new (w3) (.cells (wcells 0) 24))
    replace HB := Lib.hid (below_al HB.out (.cells (wcells 0) 24))
    have cGn := cell_row Gn.out
    have cGf := cell_row Gf.out
    have cGx := cell_row Gx.out
    go_wp2_with fail
    refine (SA.out _).mono ?_
    rintro e w4 ⟨rfl, hb⟩
    clear cGn cGf cGx
    replace HB := Lib.hid (below_then HB.out hb)
    replace Gn := Lib.hid ((hb.block _ (lt_of_heap Gn.out)).trans Gn.out)
    replace Gf := Lib.hid ((hb.block _ (lt_of_heap Gf.out)).trans Gf.out)
    replace Gx := Lib.hid ((hb.block _ (lt_of_heap Gx.out)).trans Gx.out)
    clear hb
    have cGn := cell_row Gn.out
    have cGf := cell_row Gf.out
    have cGx := cell_row Gx.out
    go_wp2
    go_ret
    exact ⟨rfl, HB.out⟩
  · have h0 : n ≠ 0 := by omega
    have hm : n < P2 256 := by omega
    have SD := Lib.hid (fun w' => digitsS_yes n h0 hm w')
    have SN := Lib.hid (fun w' => normS_yes n h0 hm w')
    have SF := Lib.hid (fun w' => farS_yes n k h0 hm hk64 w')
    obtain ⟨u1, u2, u3⟩ := up_range h0 hm
    obtain ⟨q1, q2⟩ := rpN_eq u1 u2 hk64
    obtain ⟨k1, k2, k3⟩ := keeps_nums u1 u2 hk64
    have h128 : P2 128 < P2 256 := P2_lt (by omega)
    have h256 : P2 256 < M := by rw [M_eq]; exact P2_lt (by omega)
    rw [q1, toW_nat (by omega)] at SF
    have HD : Hid (∀ i z, (rDigs (upN n) 64)[i]? = some z → -2 ≤ z ∧ z ≤ 2) := Lib.hid fun i z h => rDigs_mem (List.mem_of_getElem? h)
    have HDL := Lib.hid (rDigs_len (upN n) 64)
    obtain ⟨D, hD⟩ : ∃ D, D = rDigs (upN n) 64 := ⟨_, rfl⟩
    rw [← hD] at SD HD HDL
    have O3 := Lib.hid (fun w' => small_any 3 w' (by omega))
    have O9 := Lib.hid (fun w' => small_any 9 w' (by omega))
    have BV := Lib.hid (fun w' => big_any (rpN (upN n) k) (by omega) w')
    have BX := Lib.hid (fun w' => big_any (upN n) (by omega) w')
    have e3 : ∀ c : Nat, c ≤ 9 → c < BIG := fun c hc => small_of (show c < P2 64 by rw [P2_64]; omega) (by omega)
    have hVB : rpN (upN n) k < BIG := small_M (by omega)
    have hXB : upN n < BIG := small_M (by omega)
    have M3 := Lib.hid (fun v v2 w' h h' => mul_any v v2 3 (rpN (upN n) k) w' (e3 3 (by omega)) hVB h h')
    have M9 := Lib.hid (fun v v2 w' h h' => mul_any v v2 9 (upN n) w' (e3 9 (by omega)) hXB h h')
    have TW : Hid (∀ w' : World, Calls Try.prog 25 #[.int .i64 (1 + 2 * (64 - (k : Int)))] w' (GivesBig (P2 (1 + 2 * (64 - k))) w')) := Lib.hid fun w' => by
      have := power_any (1 + 2 * (64 - k)) (by omega) w'
      rwa [show ((1 + 2 * (64 - k) : Nat) : Int) = 1 + 2 * (64 - (k : Int)) by omega] at this
    have h3V : 3 * rpN (upN n) k < P2 260 := by
      have : P2 128 < P2 258 := P2_lt (by omega)
      have : P2 260 = 4 * P2 258 := by rw [P2_rel 260 258 2 rfl, P2_eq 2]
      omega
    have h9X : 9 * upN n < P2 260 := by
      have : P2 260 = 16 * P2 256 := by rw [P2_rel 260 256 4 rfl, P2_eq 4]
      omega
    have hA : 3 * rpN (upN n) k + P2 (1 + 2 * (64 - k)) < P2 262 := by
      have : P2 262 = 4 * P2 260 := by rw [P2_rel 262 260 2 rfl, P2_eq 2]
      omega
    obtain ⟨T3, hT3⟩ : ∃ x, x = 3 * rpN (upN n) k := ⟨_, rfl⟩
    obtain ⟨T9, hT9⟩ : ∃ x, x = 9 * upN n := ⟨_, rfl⟩
    obtain ⟨Tw, hTw⟩ : ∃ x, x = P2 (1 + 2 * (64 - k)) := ⟨_, rfl⟩
    rw [← hT3] at M3 k1 k2 k3 h3V hA
    rw [← hT9] at M9 k1 k3 h9X
    rw [← hTw] at TW k1 k2 k3 hA
    have hBB : T3 - Tw < P2 262 := by omega
    have hAA := Nat.mul_lt_mul'' hA hA
    have hBBl := Nat.mul_lt_mul'' hBB hBB
    rw [← P2_add] at hAA hBBl
    have b1 : T3 < BIG := small_of h3V (by omega)
    have b2 : Tw < BIG := small_of (show Tw < P2 262 by omega) (by omega)
    have b3 : T9 < BIG := small_of h9X (by omega)
    have bA : T3 + Tw < BIG := small_of hA (by omega)
    have bB : T3 - Tw < BIG := small_of hBB (by omega)
    have AA := Lib.hid (fun v v2 w' h h' => add_any v v2 T3 Tw w' b1 b2 h h')
    have SB : Hid (∀ (v v2 : Value) (w' : World), IsBig w' v T3 → IsBig w' v2 Tw → Calls Try.prog 28 #[v, v2] w' (GivesBig (T3 - Tw) w')) := Lib.hid fun v v2 w' h h' =>
      sub_any v v2 Tw (T3 - Tw) w' (by omega) (by rw [show Tw + (T3 - Tw) = T3 by omega]; exact h) h'
    have MA := Lib.hid (fun v v2 w' h h' => mul_any v v2 (T3 + Tw) (T3 + Tw) w' bA bA h h')
    have MB := Lib.hid (fun v v2 w' h h' => mul_any v v2 (T3 - Tw) (T3 - Tw) w' bB bB h h')
    have CA := Lib.hid (fun v v2 w' h h' => cmp_any v v2 ((T3 + Tw) * (T3 + Tw)) T9 w' (small_of hAA (by omega)) b3 h h')
    have CB := Lib.hid (fun v v2 w' h h' => cmp_any v v2 ((T3 - Tw) * (T3 - Tw)) T9 w' (small_of hBBl (by omega)) b3 h h')
    have CT := Lib.hid (fun v v2 w' h h' => cmp_any v v2 T3 Tw w' b1 b2 h h')
    have c1 : decide (cmpN ((T3 + Tw) * (T3 + Tw)) T9 < 0) = false := decide_eq_false (by unfold cmpN; split <;> (try split) <;> omega)
    have c2 : decide (cmpN T3 Tw < 0) = false := decide_eq_false (by unfold cmpN; split <;> (try split) <;> omega)
    have c3 : decide (cmpN ((T3 - Tw) * (T3 - Tw)) T9 ≤ 0) = true := decide_eq_true (by unfold cmpN; split <;> (try split) <;> omega)
    obtain ⟨C1, hC1⟩ : ∃ x, x = cmpN ((T3 + Tw) * (T3 + Tw)) T9 := ⟨_, rfl⟩
    obtain ⟨C2, hC2⟩ : ∃ x, x = cmpN T3 Tw := ⟨_, rfl⟩
    obtain ⟨C3, hC3⟩ : ∃ x, x = cmpN ((T3 - Tw) * (T3 - Tw)) T9 := ⟨_, rfl⟩
    rw [← hC1] at CA c1
    rw [← hC2] at CT c2
    rw [← hC3] at CB c3
    obtain ⟨A, hAe⟩ : ∃ x, x = T3 + Tw := ⟨_, rfl⟩
    rw [← hAe] at AA MA CA
    obtain ⟨A2, hA2⟩ : ∃ x, x = A * A := ⟨_, rfl⟩
    rw [← hA2] at MA CA
    obtain ⟨B, hBe⟩ : ∃ x, x = T3 - Tw := ⟨_, rfl⟩
    rw [← hBe] at SB MB CB
    obtain ⟨B2, hB2⟩ : ∃ x, x = B * B := ⟨_, rfl⟩
    rw [← hB2] at MB CB
    obtain ⟨V, hV⟩ : ∃ X, X = rpN (upN n) k := ⟨_, rfl⟩
    rw [← hV] at SF BV M3
    obtain ⟨X, hX⟩ : ∃ X, X = upN n := ⟨_, rfl⟩
    rw [← hX] at SN BX M9
    obtain ⟨c, hc⟩ : ∃ X, X = nrmN n := ⟨_, rfl⟩
    rw [← hc] at SN
    have hw1 : IntKind.i64.wrap (64 - (k : Int)) = 64 - (k : Int) := IntWalk.i64_in _ (by omega)
    have hw2 : IntKind.i64.wrap (2 * (64 - (k : Int))) = 2 * (64 - (k : Int)) := IntWalk.i64_in _ (by omega)
    have hw3 : IntKind.i64.wrap (1 + 2 * (64 - (k : Int))) = 1 + 2 * (64 - (k : Int)) := IntWalk.i64_in _ (by omega)
    clear hn hs1 hs2 hk hk64 hno h0 hm u1 u2 u3 q1 q2 k1 k2 k3 h128 h256 hD e3 hVB hXB h3V h9X hA hT3 hT9 hTw hBB hAA hBBl b1 b2 b3 bA bB hC1 hC2 hC3 hAe hA2 hBe hB2 hV hX hc
    go_enter Try.func6, Try.ntmps6
    have HB := Lib.hid (Below.refl w.heap.size w)
    have Gn := Lib.hid (alloc_new (w) (.cells (wcells n) 24))
    replace HB := Lib.hid (below_al HB.out (.cells (wcells n) 24))
    have cGn := cell_row Gn.out
    go_wp2_with fail
    clear cGn
    refine (SD.out _).mono ?_
    rintro e w2 ⟨va, rfl, hr, hb⟩
    replace HB := Lib.hid (below_then HB.out hb)
    replace Gn := Lib.hid ((hb.block _ (lt_of_heap Gn.out)).trans Gn.out)
    obtain ⟨ad, cap, rfl, hcap, hx⟩ := hr
    rw [HDL.out] at hcap hx ⊢
    obtain ⟨bb, oo, rfl, hbl, hcell⟩ := hx (by decide)
    have HCL := Lib.hid hcell; have HBL := Lib.hid hbl
    have BD := Lib.hid (Below.refl w2.heap.size w2)
    clear hb hcap hx hbl hcell
    have cGn := cell_row Gn.out
    go_wp2_with fail
    refine (SF.out _).mono ?_
    rintro e w5 ⟨rfl, hb⟩
    clear cGn
    replace HB := Lib.hid (below_then HB.out hb)
    replace Gn := Lib.hid ((hb.block _ (lt_of_heap Gn.out)).trans Gn.out)
    replace BD := Lib.hid (below_then BD.out hb)
    clear hb
    replace Gn := Lib.hid (keepAl (o' := .cells (wcells V) 24) Gn.out)
    replace BD := Lib.hid (below_al BD.out (.cells (wcells V) 24))
    have Gf := Lib.hid (alloc_new (w5) (.cells (wcells V) 24))
    replace HB := Lib.hid (below_al HB.out (.cells (wcells V) 24))
    have cGn := cell_row Gn.out
    have cGf := cell_row Gf.out
    go_wp2_with fail
    refine (SN.out _).mono ?_
    rintro e w6 ⟨rfl, hb⟩
    clear cGn cGf
    replace HB := Lib.hid (below_then HB.out hb)
    replace Gn := Lib.hid ((hb.block _ (lt_of_heap Gn.out)).trans Gn.out)
    replace BD := Lib.hid (below_then BD.out hb)
    replace Gf := Lib.hid ((hb.block _ (lt_of_heap Gf.out)).trans Gf.out)
    clear hb
    replace Gn := Lib.hid (keepAl (o' := .cells (wcells X) 24) Gn.out)
    replace BD := Lib.hid (below_al BD.out (.cells (wcells X) 24))
    replace Gf := Lib.hid (keepAl (o' := .cells (wcells X) 24) Gf.out)
    have Gx := Lib.hid (alloc_new (w6) (.cells (wcells X) 24))
    replace HB := Lib.hid (below_al HB.out (.cells (wcells X) 24))
    have cGf := cell_row Gf.out
    have cGx := cell_row Gx.out
    go_wp2
    clear cGf cGx
    obtain ⟨pf, hpf⟩ : ∃ p, p = w5.heap.size := ⟨_, rfl⟩
    obtain ⟨px, hpx⟩ : ∃ p, p = w6.heap.size := ⟨_, rfl⟩
    rw [← hpf] at Gf ⊢
    rw [← hpx] at Gx ⊢
    obtain ⟨wz, hw⟩ : ∃ wx, wx = (w6).alloc (.cells (wcells X) 24) := ⟨_, rfl⟩
    rw [← hw] at BD Gf Gx HB ⊢
    clear hw
    clear hpf hpx SD SF SN
    go_loopw [13] (fun s13 wr => ∃ i : Nat, s13 = .int .i64 (i : Int) ∧ i ≤ 64 ∧ Hid (Below w.heap.size w wr) ∧ Hid (Below w2.heap.size w2 wr) ∧ Hid (wr.heap[pf]? = some (.cells (wcells V) 24 (0, 0))) ∧ Hid (wr.heap[px]? = some (.cells (wcells X) 24 (0, 0)))) (fun s13 _ => 64 - (intOf s13).toNat)
    case atStart => exact ⟨0, rfl, by omega, HB, BD, Gf, Gx⟩
    case round =>
      clear HB BD Gf Gx
      obtain ⟨i, rfl, hi, HB, BD, Gf, Gx⟩ := hrel
      by_cases hlt : i < 64
      · obtain ⟨z, hz⟩ : ∃ z, D[i]? = some z := ⟨D[i]'(by have := HDL.out; omega), List.getElem?_eq_getElem _⟩
        have c0 := (BD.out.cell (p := ⟨bb, oo + i, none⟩) HBL.out).trans (HCL.out i z hz)
        have hzr := HD.out i z hz
        have d1 : decide (z < -2) = false := decide_eq_false (by omega)
        have d2 : decide (2 < z) = false := decide_eq_false (by omega)
        have e1 : (i : Int) < 64 := by omega
        have e0 : (0 : Int) ≤ (i : Int) := Int.natCast_nonneg _
        have HLT := Lib.hid hlt
        clear hz hzr hlt hi
        go_wp2
        go_roundw
        case rel => exact ⟨i + 1, by go_num, HLT.out, HB, BD, Gf, Gx⟩
        case measure => have := HLT.out; simp [intOf]; omega
      · obtain rfl : i = 64 := by omega
        clear hlt hi HD HCL HBL
        have cGf := cell_row Gf.out
        have cGx := cell_row Gx.out
        go_upto_region 14 with fail
        clear cGf cGx
        obtain ⟨wA, hw⟩ : ∃ wx, wx = wr := ⟨_, rfl⟩
        rw [← hw] at Gf Gx HB ⊢
        clear hw
        have xGf := ext_row (B := wA.heap.size) Gf.out (lt_of_heap Gf.out)
        have xGx := ext_row (B := wA.heap.size) Gx.out (lt_of_heap Gx.out)
        apply wp_region_loose (looseR [_, _, _, _, _]) (pureL [])
        · kernel_rfl
        · kernel_rfl
        · kernel_rfl
        · exact allocs_ok [] rfl (by intro T hT; cases hT)
        · exact looseR_st _
        · change wpL _ _ _ _ _ _ _ 5 0 _ _
          refine wpL_call (Lft.big 3) (big_some w _) rfl rfl rfl rfl (by first | rfl | go_simp) rfl (fun w' hC hF => ?_) (fun v0 hv0 => ?_)
          · obtain ⟨x, rfl⟩ := hC
            go_simp
            go_at_call 23
            exact gives_loose (O3.out _)
          refine wpL_calm wA rfl rfl rfl rfl (fun K hK K0 hK0 => ?_)
          go_simp
          first | refine hK _ _ rfl rfl ?_ | refine hK0 _ rfl ?_
          clear hK hK0 K K0
          refine wpL_call (Lft.big V) (big_some w _) rfl rfl rfl rfl (by first | rfl | go_simp) rfl (fun w' hC hF => ?_) (fun v2 hv2 => ?_)
          · obtain ⟨x, rfl⟩ := hC
            go_simp
            go_at_call 24
            exact gives_loose (BV.out _)
          refine wpL_call (Lft.big T3) (big_some w _) rfl rfl rfl rfl (by first | rfl | go_simp) rfl (fun w' hC hF => ?_) (fun v3 hv3 => ?_)
          · obtain ⟨x, rfl⟩ := hC
            go_simp
            go_at_call 22
            exact gives_loose (M3.out _ _ _ (hF 0 _ 81 rfl rfl rfl rfl (by decide)) (hF 2 _ 83 rfl rfl rfl rfl (by decide)))
          refine wpL_call (Lft.big T3) (big_some wA _) rfl rfl rfl rfl rfl rfl (fun w' hC hF => ?_) (fun v4 hv4 => ?_)
          · obtain ⟨x, rfl⟩ := hC
            have hf := hF 3 _ 84 rfl rfl rfl rfl (by decide)
            go_simp
            exact ⟨Below.refl _ _, hf⟩
          refine wpL_nil (endL [] rfl (by intro q hq; cases hq) (fun w7 hb hst hap hfin => ?_))
          have Rt : Hid (IsBig w7 v4 T3) := Lib.hid (hfin rfl 4 _ 14 rfl rfl rfl rfl)
          replace HB := Lib.hid (below_then HB.out hb)
          replace Gf := Lib.hid ((hb.block _ (lt_of_heap Gf.out)).trans Gf.out)
          replace Gx := Lib.hid ((hb.block _ (lt_of_heap Gx.out)).trans Gx.out)
          clear hb hst hap hfin xGf xGx
          have cGf := cell_row Gf.out
          have cGx := cell_row Gx.out
          go_wp2_with fail
          refine (TW.out _).mono ?_
          rintro e w8 ⟨rw, rfl, hr, hb⟩
          clear cGf cGx
          replace HB := Lib.hid (below_then HB.out hb)
          replace Gf := Lib.hid ((hb.block _ (lt_of_heap Gf.out)).trans Gf.out)
          replace Gx := Lib.hid ((hb.block _ (lt_of_heap Gx.out)).trans Gx.out)
          replace Rt := Lib.hid (Rt.out.below hb)
          have Rw := Lib.hid hr
          clear hr hb
          have cGf := cell_row Gf.out
          have cGx := cell_row Gx.out
          go_upto_region 16 with fail
          clear cGf cGx
          have xGf := ext_row (B := w8.heap.size) Gf.out (lt_of_heap Gf.out)
          have xGx := ext_row (B := w8.heap.size) Gx.out (lt_of_heap Gx.out)
          apply wp_region_loose (looseR [_, _, _, _, _]) (pureL [])
          · kernel_rfl
          · kernel_rfl
          · kernel_rfl
          · exact allocs_ok [] rfl (by intro T hT; cases hT)
          · exact looseR_st _
          · change wpL _ _ _ _ _ _ _ 5 0 _ _
            refine wpL_call (Lft.big 9) (big_some w _) rfl rfl rfl rfl (by first | rfl | go_simp) rfl (fun w' hC hF => ?_) (fun v0 hv0 => ?_)
            · obtain ⟨x, rfl⟩ := hC
              go_simp
              go_at_call 23
              exact gives_loose (O9.out _)
            refine wpL_calm w8 rfl rfl rfl rfl (fun K hK K0 hK0 => ?_)
            go_simp
            first | refine hK _ _ rfl rfl ?_ | refine hK0 _ rfl ?_
            clear hK hK0 K K0
            refine wpL_call (Lft.big X) (big_some w _) rfl rfl rfl rfl (by first | rfl | go_simp) rfl (fun w' hC hF => ?_) (fun v2 hv2 => ?_)
            · obtain ⟨x, rfl⟩ := hC
              go_simp
              go_at_call 24
              exact gives_loose (BX.out _)
            refine wpL_call (Lft.big T9) (big_some w _) rfl rfl rfl rfl (by first | rfl | go_simp) rfl (fun w' hC hF => ?_) (fun v3 hv3 => ?_)
            · obtain ⟨x, rfl⟩ := hC
              go_simp
              go_at_call 22
              exact gives_loose (M9.out _ _ _ (hF 0 _ 90 rfl rfl rfl rfl (by decide)) (hF 2 _ 92 rfl rfl rfl rfl (by decide)))
            refine wpL_call (Lft.big T9) (big_some w8 _) rfl rfl rfl rfl rfl rfl (fun w' hC hF => ?_) (fun v4 hv4 => ?_)
            · obtain ⟨x, rfl⟩ := hC
              have hf := hF 3 _ 93 rfl rfl rfl rfl (by decide)
              go_simp
              exact ⟨Below.refl _ _, hf⟩
            refine wpL_nil (endL [] rfl (by intro q hq; cases hq) (fun w9 hb hst hap hfin => ?_))
            have Rn : Hid (IsBig w9 v4 T9) := Lib.hid (hfin rfl 4 _ 16 rfl rfl rfl rfl)
            replace HB := Lib.hid (below_then HB.out hb)
            replace Gf := Lib.hid ((hb.block _ (lt_of_heap Gf.out)).trans Gf.out)
            replace Gx := Lib.hid ((hb.block _ (lt_of_heap Gx.out)).trans Gx.out)
            replace Rt := Lib.hid (Rt.out.below hb)
            replace Rw := Lib.hid (Rw.out.below hb)
            clear hb hst hap hfin xGf xGx
            have cGf := cell_row Gf.out
            have cGx := cell_row Gx.out
            go_wp2_with fail
            refine (AA.out _ _ _ Rt.out Rw.out).mono ?_
            rintro e w10 ⟨ra, rfl, hr, hb⟩
            clear cGf cGx
            replace HB := Lib.hid (below_then HB.out hb)
            replace Gf := Lib.hid ((hb.block _ (lt_of_heap Gf.out)).trans Gf.out)
            replace Gx := Lib.hid ((hb.block _ (lt_of_heap Gx.out)).trans Gx.out)
            replace Rt := Lib.hid (Rt.out.below hb)
            replace Rw := Lib.hid (Rw.out.below hb)
            replace Rn := Lib.hid (Rn.out.below hb)
            have Ra := Lib.hid hr
            clear hr hb
            have cGf := cell_row Gf.out
            have cGx := cell_row Gx.out
            go_wp2_with fail
            refine (MA.out _ _ _ Ra.out Ra.out).mono ?_
            rintro e w11 ⟨rq, rfl, hr, hb⟩
            clear cGf cGx
            replace HB := Lib.hid (below_then HB.out hb)
            replace Gf := Lib.hid ((hb.block _ (lt_of_heap Gf.out)).trans Gf.out)
            replace Gx := Lib.hid ((hb.block _ (lt_of_heap Gx.out)).trans Gx.out)
            replace Rt := Lib.hid (Rt.out.below hb)
            replace Rw := Lib.hid (Rw.out.below hb)
            replace Rn := Lib.hid (Rn.out.below hb)
            replace Ra := Lib.hid (Ra.out.below hb)
            have Rq := Lib.hid hr
            clear hr hb
            have cGf := cell_row Gf.out
            have cGx := cell_row Gx.out
            go_wp2_with fail
            refine (CA.out _ _ _ Rq.out Rn.out).mono ?_
            rintro e w12 ⟨rfl, hb⟩
            clear cGf cGx
            replace HB := Lib.hid (below_then HB.out hb)
            replace Gf := Lib.hid ((hb.block _ (lt_of_heap Gf.out)).trans Gf.out)
            replace Gx := Lib.hid ((hb.block _ (lt_of_heap Gx.out)).trans Gx.out)
            replace Rt := Lib.hid (Rt.out.below hb)
            replace Rw := Lib.hid (Rw.out.below hb)
            replace Rn := Lib.hid (Rn.out.below hb)
            replace Ra := Lib.hid (Ra.out.below hb)
            replace Rq := Lib.hid (Rq.out.below hb)
            clear hb
            have cGf := cell_row Gf.out
            have cGx := cell_row Gx.out
            go_wp2_with fail
            refine (CT.out _ _ _ Rt.out Rw.out).mono ?_
            rintro e w13 ⟨rfl, hb⟩
            clear cGf cGx
            replace HB := Lib.hid (below_then HB.out hb)
            replace Gf := Lib.hid ((hb.block _ (lt_of_heap Gf.out)).trans Gf.out)
            replace Gx := Lib.hid ((hb.block _ (lt_of_heap Gx.out)).trans Gx.out)
            replace Rt := Lib.hid (Rt.out.below hb)
            replace Rw := Lib.hid (Rw.out.below hb)
            replace Rn := Lib.hid (Rn.out.below hb)
            clear hb
            have cGf := cell_row Gf.out
            have cGx := cell_row Gx.out
            go_wp2_with fail
            refine (SB.out _ _ _ Rt.out Rw.out).mono ?_
            rintro e w14 ⟨rb, rfl, hr, hb⟩
            clear cGf cGx
            replace HB := Lib.hid (below_then HB.out hb)
            replace Gf := Lib.hid ((hb.block _ (lt_of_heap Gf.out)).trans Gf.out)
            replace Gx := Lib.hid ((hb.block _ (lt_of_heap Gx.out)).trans Gx.out)
            replace Rt := Lib.hid (Rt.out.below hb)
            replace Rw := Lib.hid (Rw.out.below hb)
            replace Rn := Lib.hid (Rn.out.below hb)
            have Rb := Lib.hid hr
            clear hr hb
            have cGf := cell_row Gf.out
            have cGx := cell_row Gx.out
            go_wp2_with fail
            refine (MB.out _ _ _ Rb.out Rb.out).mono ?_
            rintro e w15 ⟨rr, rfl, hr, hb⟩
            clear cGf cGx
            replace HB := Lib.hid (below_then HB.out hb)
            replace Gf := Lib.hid ((hb.block _ (lt_of_heap Gf.out)).trans Gf.out)
            replace Gx := Lib.hid ((hb.block _ (lt_of_heap Gx.out)).trans Gx.out)
            replace Rt := Lib.hid (Rt.out.below hb)
            replace Rw := Lib.hid (Rw.out.below hb)
            replace Rn := Lib.hid (Rn.out.below hb)
            replace Rb := Lib.hid (Rb.out.below hb)
            have Rr := Lib.hid hr
            clear hr hb
            have cGf := cell_row Gf.out
            have cGx := cell_row Gx.out
            go_wp2_with fail
            refine (CB.out _ _ _ Rr.out Rn.out).mono ?_
            rintro e w16 ⟨rfl, hb⟩
            clear cGf cGx
            replace HB := Lib.hid (below_then HB.out hb)
            replace Gf := Lib.hid ((hb.block _ (lt_of_heap Gf.out)).trans Gf.out)
            replace Gx := Lib.hid ((hb.block _ (lt_of_heap Gx.out)).trans Gx.out)
            replace Rt := Lib.hid (Rt.out.below hb)
            replace Rw := Lib.hid (Rw.out.below hb)
            replace Rn := Lib.hid (Rn.out.below hb)
            replace Rb := Lib.hid (Rb.out.below hb)
            replace Rr := Lib.hid (Rr.out.below hb)
            clear hb
            have cGf := cell_row Gf.out
            have cGx := cell_row Gx.out
            go_wp2_with fail
            refine (SA.out _).mono ?_
            rintro e w17 ⟨rfl, hb⟩
            clear cGf cGx
            replace HB := Lib.hid (below_then HB.out hb)
            replace Gf := Lib.hid ((hb.block _ (lt_of_heap Gf.out)).trans Gf.out)
            replace Gx := Lib.hid ((hb.block _ (lt_of_heap Gx.out)).trans Gx.out)
            replace Rt := Lib.hid (Rt.out.below hb)
            replace Rw := Lib.hid (Rw.out.below hb)
            replace Rn := Lib.hid (Rn.out.below hb)
            replace Rb := Lib.hid (Rb.out.below hb)
            replace Rr := Lib.hid (Rr.out.below hb)
            clear hb
            have cGf := cell_row Gf.out
            have cGx := cell_row Gx.out
            go_wp2
            go_ret
            exact ⟨rfl, HB.out⟩
end Go.Proofs.Ytffengboblekpaa
