/- THE WALK of the law on what srt keeps. -/
import Derived.Test.YtffengboblekpaaDoorLaw15
import Derived.Test.YtffengboblekpaaDoorSrtd
import Derived.Test.YtffengboblekpaaDoorFly2
namespace Go.Proofs.YtffengboblekpaaDoor
open Go Go.RowKit

theorem keepsT_nums {n d k : Nat} (hm : mayN n d = 0) (hk : k ≤ 65) :
    3 * (sLeft (n * P2 (128 - blen d)) (d * P2 (128 - blen d)) ((rowT (d * P2 (128 - blen d)) : Nat) : Int) k).natAbs ≤ d * P2 (128 - blen d) * P2 (1 + 2 * (65 - k)) := by
  obtain ⟨r1, r2, r3, _, _⟩ := shift_range hm
  obtain ⟨h1, h2⟩ := sLeft_keep (fit_of r1 r2).1 r3 k hk
  obtain ⟨L, hL⟩ : ∃ L, L = sLeft (n * P2 (128 - blen d)) (d * P2 (128 - blen d)) ((rowT (d * P2 (128 - blen d)) : Nat) : Int) k := ⟨_, rfl⟩
  rw [← hL] at h1 h2 ⊢
  rw [P2_add, P2_1, Nat.mul_left_comm]
  omega
theorem lessT {n d : Nat} (hn : n < M) (hm : mayN n d = 0) :
    subN (toW (digitsZ (sDigs (n * P2 (128 - blen d)) (d * P2 (128 - blen d)) ((rowT (d * P2 (128 - blen d)) : Nat) : Int) 65))) (n / d) = 0 ∨ subN (toW (digitsZ (sDigs (n * P2 (128 - blen d)) (d * P2 (128 - blen d)) ((rowT (d * P2 (128 - blen d)) : Nat) : Int) 65))) (n / d) = 1 := by
  obtain ⟨h1, h2, h3⟩ := may_ok hm
  obtain ⟨r1, r2, r3, r4, _⟩ := shift_range hm
  have hend := srt_end (fit_of r1 r2).1 r3 (by have := P2_pos 127; omega)
  rw [r4] at hend
  have hq : n / d < P2 131 := Nat.lt_of_lt_of_le (quo_lt h1 h3) (P2_le (by omega))
  have hqM : n / d + 1 < M := by
    have : P2 131 < P2 512 := P2_lt (by omega)
    rw [M_eq]; omega
  rcases Int.lt_or_le (sLeft (n * P2 (128 - blen d)) (d * P2 (128 - blen d)) ((rowT (d * P2 (128 - blen d)) : Nat) : Int) 65) 0 with h | h
  · right
    obtain ⟨g1, _⟩ := hend.2 h
    rw [g1, show ((n / d : Nat) : Int) + 1 = ((n / d + 1 : Nat) : Int) by omega, toW_nat hqM]
    unfold subN
    rw [show n / d + 1 + M - n / d = 1 + M by omega, Nat.add_mod_right]
    exact Nat.mod_eq_of_lt (lit_ltM _ (by decide))
  · left
    obtain ⟨g1, _⟩ := hend.1 h
    rw [g1, toW_nat (by omega)]
    unfold subN
    rw [show n / d + M - n / d = M by omega, Nat.mod_self]
attribute [local go_sem ↓] Go.wp_at_zero Go.wp_at_succ
set_option maxRecDepth 100000 in
set_option maxHeartbeats 8000000 in
theorem srtKeeps_any (n d : Nat) (s : Int) (w : World) (hn : n < M) (hd : d < M) (hs1 : 0 ≤ s) (hs2 : s ≤ 255) (hL : Laid w) :
    Calls Tryd.prog 8 #[wv n, wv d, .int .u8 s] w fun e w' => e = .returned (.bool true) ∧ Below w.heap.size w w' := by
  have SA := Lib.hid (fun w' h => awake15_any w' h)
  have KL := Lib.hid hL
  obtain ⟨t, rfl⟩ := Int.eq_ofNat_of_zero_le hs1
  obtain ⟨k, hk⟩ : ∃ k, k = 1 + t % 65 := ⟨_, rfl⟩
  have hk65 : k ≤ 65 := by omega
  have hk1 : 1 ≤ k := by omega
  by_cases hm : mayN n d = 0
  rotate_left
  · have SD := Lib.hid (fun w' => digitsT_no n d hn hd hm w')
    have SM := Lib.hid (fun w' => may_w n d hn hd w')
    obtain ⟨E, hE⟩ : ∃ E, E = mayN n d := ⟨_, rfl⟩
    rw [← hE] at SD SM hm
    have hb : (E == 0) = false := by simp [hm]
    clear hn hd hs1 hs2 hk hk65 hk1 hE hm hL
    go_enter Tryd.func8, Tryd.ntmps8
    have HB := Lib.hid (Below.refl w.heap.size w)
    replace KL := Lib.hid (KL.out.older (below_al (Below.refl (w).heap.size (w)) (.cells (wcells n) 24)))
    have Gn := Lib.hid (alloc_new (w) (.cells (wcells n) 24))
    replace HB := Lib.hid (below_al HB.out (.cells (wcells n) 24))
    replace KL := Lib.hid (KL.out.older (below_al (Below.refl ((w).alloc (.cells (wcells n) 24)).heap.size ((w).alloc (.cells (wcells n) 24))) (.cells (wcells d) 24)))
    replace Gn := Lib.hid (keepAl (o' := .cells (wcells d) 24) Gn.out)
    have Gd := Lib.hid (alloc_new' (w := (w).alloc (.cells (wcells n) 24)) (n := w.heap.size + 1) (.cells (wcells d) 24) (by simp))
    replace HB := Lib.hid (below_al HB.out (.cells (wcells d) 24))
    have cGn := cell_row Gn.out
    have cGd := cell_row Gd.out
    go_wp2_with fail
    refine (SD.out _).mono ?_
    rintro e w1 ⟨rfl, hb⟩
    clear cGn cGd
    replace HB := Lib.hid (below_then HB.out hb)
    replace KL := Lib.hid (KL.out.older hb)
    replace Gn := Lib.hid ((hb.block _ (lt_of_heap Gn.out)).trans Gn.out)
    replace Gd := Lib.hid ((hb.block _ (lt_of_heap Gd.out)).trans Gd.out)
    clear hb
    have cGn := cell_row Gn.out
    have cGd := cell_row Gd.out
    go_wp2_with fail
    refine (SM.out _).mono ?_
    rintro e w2 ⟨rfl, hb⟩
    clear cGn cGd
    replace HB := Lib.hid (below_then HB.out hb)
    replace KL := Lib.hid (KL.out.older hb)
    replace Gn := Lib.hid ((hb.block _ (lt_of_heap Gn.out)).trans Gn.out)
    replace Gd := Lib.hid ((hb.block _ (lt_of_heap Gd.out)).trans Gd.out)
    clear hb
    have cGn := cell_row Gn.out
    have cGd := cell_row Gd.out
    go_wp2_with fail
    refine (SA.out _ KL.out).mono ?_
    rintro e w3 ⟨rfl, hb⟩
    clear cGn cGd
    replace HB := Lib.hid (below_then HB.out hb)
    replace KL := Lib.hid (KL.out.older hb)
    replace Gn := Lib.hid ((hb.block _ (lt_of_heap Gn.out)).trans Gn.out)
    replace Gd := Lib.hid ((hb.block _ (lt_of_heap Gd.out)).trans Gd.out)
    clear hb
    have cGn := cell_row Gn.out
    have cGd := cell_row Gd.out
    go_wp2
    go_ret
    exact ⟨rfl, HB.out⟩
  · obtain ⟨g1, g2, g3⟩ := may_ok hm
    have SD := Lib.hid (fun w' h => digitsT_yes n d hn hd hm w' h)
    have SN := Lib.hid (fun w' => normT_yes d (by omega) g2 w')
    have SF0 : ∀ w', Laid w' → _ := fun w' h => leftT_yes n d k hn hd hm hk65 w' h
    have hnum := keepsT_nums hm hk65
    have hless := lessT hn hm
    obtain ⟨r1, r2, r3, _, _⟩ := shift_range hm
    have hsm := sLeft_small (fit_of r1 r2).1 r3 r2 k hk65
    have HD : Hid (∀ i z, (sDigs (n * P2 (128 - blen d)) (d * P2 (128 - blen d)) ((rowT (d * P2 (128 - blen d)) : Nat) : Int) 65)[i]? = some z → -2 ≤ z ∧ z ≤ 2) := Lib.hid fun i z h => sDigs_mem (List.mem_of_getElem? h)
    have HDL := Lib.hid (sDigs_len (n * P2 (128 - blen d)) (d * P2 (128 - blen d)) ((rowT (d * P2 (128 - blen d)) : Nat) : Int) 65)
    have CV := Lib.hid (fun v w' h => convert_yes v (sDigs (n * P2 (128 - blen d)) (d * P2 (128 - blen d)) ((rowT (d * P2 (128 - blen d)) : Nat) : Int) 65) w' (by rw [sDigs_len]; omega) (fun z hz => isDig_yes (by have := sDigs_mem hz; omega) (by have := sDigs_mem hz; omega)) h)
    obtain ⟨Z, hZ⟩ : ∃ Z, Z = sLeft (n * P2 (128 - blen d)) (d * P2 (128 - blen d)) ((rowT (d * P2 (128 - blen d)) : Nat) : Int) k := ⟨_, rfl⟩
    have SF : Hid (∀ w', Laid w' → Calls Tryd.prog 30 #[wv n, wv d, .int .i64 (k : Int)] w' fun e w'' => e = .returned (.tuple #[wv Z.natAbs, .bool (decide (Z < 0)), .int .i64 0]) ∧ Below w'.heap.size w' w'') := Lib.hid fun w' h => by
      obtain ⟨z, hz, hh⟩ := SF0 w' h
      rw [← hZ] at hz
      rw [← hz]
      exact hh
    rw [← hZ] at hsm hnum
    have hZM : Z.natAbs < M := by rw [M_eq]; have : P2 260 < P2 512 := P2_lt (by omega); omega
    have DV := Lib.hid (fun w' => divide_w n d hn hd w')
    rw [(dv_yes hm).1, (dv_yes hm).2, hm] at DV
    have hqM : n / d < M := Nat.lt_of_le_of_lt (Nat.div_le_self _ _) hn
    obtain ⟨D, hD⟩ : ∃ D, D = sDigs (n * P2 (128 - blen d)) (d * P2 (128 - blen d)) ((rowT (d * P2 (128 - blen d)) : Nat) : Int) 65 := ⟨_, rfl⟩
    rw [← hD] at SD HD HDL CV hless
    obtain ⟨NU, hNU⟩ : ∃ D', D' = toW (digitsZ D) := ⟨_, rfl⟩
    have SS := Lib.hid (fun w' => sub_w (toW (digitsZ D)) (n / d) (toW_lt _) hqM w')
    rw [← hNU] at CV SS hless
    obtain ⟨X, hX⟩ : ∃ X, X = d * P2 (128 - blen d) := ⟨_, rfl⟩
    rw [← hX] at SN hnum r2
    have hXM : X < M := Nat.lt_trans r2 (by rw [M_eq]; exact P2_lt (by omega))
    have O3 := Lib.hid (fun w' => small_any 3 w' (by omega))
    have BA := Lib.hid (fun w' => big_any Z.natAbs hZM w')
    have BX := Lib.hid (fun w' => big_any X hXM w')
    have M3 := Lib.hid (fun v v2 w' h h' => mul_any v v2 3 Z.natAbs w' (small_of (show 3 < P2 64 by rw [P2_64]; omega) (by omega)) (small_M hZM) h h')
    have SH : Hid (∀ (v : Value) (w' : World), IsBig w' v X → Calls Tryd.prog 14 #[v, .int .i64 (1 + 2 * (65 - (k : Int)))] w' (GivesBig (X * P2 (1 + 2 * (65 - k))) w')) := Lib.hid fun v w' h => by
      have := rshl_any v X (1 + 2 * (65 - k)) w' (small_M hXM) (by omega) h
      rwa [show ((1 + 2 * (65 - k) : Nat) : Int) = 1 + 2 * (65 - (k : Int)) by omega] at this
    have h3 : 3 * Z.natAbs < BIG := by
      have : P2 512 * 4 = P2 514 := by rw [P2_rel 514 512 2 rfl, P2_eq 2, Nat.mul_comm]
      have h4 : P2 514 < P2 960000 := P2_lt (by omega)
      exact small_of (show 3 * Z.natAbs < P2 514 by rw [M_eq] at hZM; omega) (by omega)
    have hSB : X * P2 (1 + 2 * (65 - k)) < BIG := by
      have g := Nat.mul_lt_mul_of_pos_right r2 (P2_pos (1 + 2 * (65 - k)))
      rw [← P2_add] at g
      exact small_of g (by omega)
    have SC := Lib.hid (fun v v2 w' h h' => cmp_any v v2 (3 * Z.natAbs) (X * P2 (1 + 2 * (65 - k))) w' h3 hSB h h')
    have c1 : decide (0 < cmpN (3 * Z.natAbs) (X * P2 (1 + 2 * (65 - k)))) = false := decide_eq_false (by unfold cmpN; split <;> (try split) <;> omega)
    obtain ⟨C, hC⟩ : ∃ x, x = cmpN (3 * Z.natAbs) (X * P2 (1 + 2 * (65 - k))) := ⟨_, rfl⟩
    rw [← hC] at SC c1
    obtain ⟨S, hS⟩ : ∃ x, x = X * P2 (1 + 2 * (65 - k)) := ⟨_, rfl⟩
    rw [← hS] at SC SH
    obtain ⟨A, hA⟩ : ∃ x, x = Z.natAbs := ⟨_, rfl⟩
    rw [← hA] at SF BA M3 SC
    obtain ⟨T3, hT3⟩ : ∃ x, x = 3 * A := ⟨_, rfl⟩
    rw [← hT3] at M3 SC
    obtain ⟨F, hF⟩ : ∃ x, x = decide (Z < 0) := ⟨_, rfl⟩
    rw [← hF] at SF
    obtain ⟨c, hc⟩ : ∃ X, X = 128 - blen d := ⟨_, rfl⟩
    rw [← hc] at SN
    obtain ⟨Q, hQ⟩ : ∃ X, X = n / d := ⟨_, rfl⟩
    rw [← hQ] at DV SS hless
    obtain ⟨R, hR⟩ : ∃ X, X = n % d := ⟨_, rfl⟩
    rw [← hR] at DV
    obtain ⟨LS, hLS⟩ : ∃ X, X = subN NU Q := ⟨_, rfl⟩
    rw [← hLS] at SS hless
    obtain ⟨b9, hb9⟩ : ∃ b, b = decide (NU < Q) := ⟨_, rfl⟩
    rw [← hb9] at SS
    have HLS := Lib.hid hless
    have hr1 : Int.tmod (t : Int) 65 = ((t % 65 : Nat) : Int) := by rw [Int.tmod_eq_emod_of_nonneg (by omega)]; omega
    have hr4 : (t : Int) % 65 = ((t % 65 : Nat) : Int) := by omega
    have hw0 : IntKind.i64.wrap (1 + ((t % 65 : Nat) : Int)) = (k : Int) := by rw [IntWalk.i64_in _ (by omega)]; omega
    have hr2 : IntKind.u8.wrap ((t % 65 : Nat) : Int) = ((t % 65 : Nat) : Int) := by simp [IntKind.wrap, IntKind.bits, IntKind.signed]; omega
    have hr3 : IntKind.i64.wrap ((t % 65 : Nat) : Int) = ((t % 65 : Nat) : Int) := IntWalk.i64_in _ (by omega)
    obtain ⟨t2, ht2⟩ : ∃ x, x = t % 65 := ⟨_, rfl⟩
    rw [← ht2] at hr1 hr2 hr3 hr4 hw0
    have hw1 : IntKind.i64.wrap (65 - (k : Int)) = 65 - (k : Int) := IntWalk.i64_in _ (by omega)
    have hw2 : IntKind.i64.wrap (2 * (65 - (k : Int))) = 2 * (65 - (k : Int)) := IntWalk.i64_in _ (by omega)
    have hw3 : IntKind.i64.wrap (1 + 2 * (65 - (k : Int))) = 1 + 2 * (65 - (k : Int)) := IntWalk.i64_in _ (by omega)
    have hz1 : isZ 1 = false := isZ_no (lit_ltM 1 (by decide)) (by decide)
    have E1 : (#[.int .u64 1, .int .u64 0, .int .u64 0, .int .u64 0, .int .u64 0, .int .u64 0, .int .u64 0, .int .u64 0] : Array Value) = wcells 1 := lit_cells 1 (by decide)
    clear hn hd hs1 hs2 hk hk65 hk1 hm hL g1 g2 g3 SF0 hnum hless r1 r2 r3 hsm hZ hZM hqM hD hNU hX hXM h3 hSB hC hS hA hT3 hF hc hQ hR hLS hb9 ht2
    go_enter Tryd.func8, Tryd.ntmps8
    have HB := Lib.hid (Below.refl w.heap.size w)
    replace KL := Lib.hid (KL.out.older (below_al (Below.refl (w).heap.size (w)) (.cells (wcells n) 24)))
    have Gn := Lib.hid (alloc_new (w) (.cells (wcells n) 24))
    replace HB := Lib.hid (below_al HB.out (.cells (wcells n) 24))
    replace KL := Lib.hid (KL.out.older (below_al (Below.refl ((w).alloc (.cells (wcells n) 24)).heap.size ((w).alloc (.cells (wcells n) 24))) (.cells (wcells d) 24)))
    replace Gn := Lib.hid (keepAl (o' := .cells (wcells d) 24) Gn.out)
    have Gd := Lib.hid (alloc_new' (w := (w).alloc (.cells (wcells n) 24)) (n := w.heap.size + 1) (.cells (wcells d) 24) (by simp))
    replace HB := Lib.hid (below_al HB.out (.cells (wcells d) 24))
    have cGn := cell_row Gn.out
    have cGd := cell_row Gd.out
    go_wp2_with fail
    clear cGn cGd
    refine (SD.out _ KL.out).mono ?_
    rintro e w2 ⟨va, rfl, hr, hb⟩
    replace HB := Lib.hid (below_then HB.out hb)
    replace Gn := Lib.hid ((hb.block _ (lt_of_heap Gn.out)).trans Gn.out)
    replace Gd := Lib.hid ((hb.block _ (lt_of_heap Gd.out)).trans Gd.out)
    replace KL := Lib.hid (KL.out.older hb)
    have Ka := Lib.hid hr
    obtain ⟨ad, cap, rfl, hcap, hx⟩ := hr
    rw [HDL.out] at hcap hx Ka ⊢
    obtain ⟨bb, oo, rfl, hbl, hcell⟩ := hx (by decide)
    have HCL := Lib.hid hcell; have HBL := Lib.hid hbl
    have BD := Lib.hid (Below.refl w2.heap.size w2)
    clear hb hcap hx hbl hcell SD
    go_wp2
    go_loopw [10] (fun s10 wr => ∃ i : Nat, s10 = .int .i64 (i : Int) ∧ i ≤ 65 ∧ wr = w2) (fun s10 _ => 65 - (intOf s10).toNat)
    case atStart => exact ⟨0, rfl, by omega, rfl⟩
    case round =>
      obtain ⟨i, rfl, hi, rfl⟩ := hrel
      by_cases hlt : i < 65
      · obtain ⟨z, hz⟩ : ∃ z, D[i]? = some z := ⟨D[i]'(by have := HDL.out; omega), List.getElem?_eq_getElem _⟩
        have c0 := HCL.out i z hz
        have hzr := HD.out i z hz
        have d1 : decide (z < -2) = false := decide_eq_false (by omega)
        have d2 : decide (2 < z) = false := decide_eq_false (by omega)
        have e1 : (i : Int) < 65 := by omega
        have e0 : (0 : Int) ≤ (i : Int) := Int.natCast_nonneg _
        have HLT := Lib.hid hlt
        clear hz hzr hlt hi
        go_wp2
        go_roundw
        case rel => exact ⟨i + 1, by go_num, HLT.out, by first | trivial | rfl⟩
        case measure => have := HLT.out; simp [intOf]; omega
      · obtain rfl : i = 65 := by omega
        clear hlt hi HD HCL HBL BD
        have cGn := cell_row Gn.out
        have cGd := cell_row Gd.out
        go_wp2_with fail
        refine (SF.out _ KL.out).mono ?_
        rintro e w4 ⟨rfl, hb⟩
        clear cGn cGd
        replace HB := Lib.hid (below_then HB.out hb)
        replace Gn := Lib.hid ((hb.block _ (lt_of_heap Gn.out)).trans Gn.out)
        replace Gd := Lib.hid ((hb.block _ (lt_of_heap Gd.out)).trans Gd.out)
        replace Ka := Lib.hid (Ka.out.older hb)
        replace KL := Lib.hid (KL.out.older hb)
        clear hb
        replace Gn := Lib.hid (keepAl (o' := .cells (wcells A) 24) Gn.out)
        replace Gd := Lib.hid (keepAl (o' := .cells (wcells A) 24) Gd.out)
        replace Ka := Lib.hid (Ka.out.older (below_al (Below.refl (w4).heap.size (w4)) (.cells (wcells A) 24)))
        replace KL := Lib.hid (KL.out.older (below_al (Below.refl (w4).heap.size (w4)) (.cells (wcells A) 24)))
        have Ga := Lib.hid (alloc_new (w4) (.cells (wcells A) 24))
        replace HB := Lib.hid (below_al HB.out (.cells (wcells A) 24))
        have cGn := cell_row Gn.out
        have cGd := cell_row Gd.out
        have cGa := cell_row Ga.out
        go_wp2_with fail
        refine (SN.out _).mono ?_
        rintro e w5 ⟨rfl, hb⟩
        clear cGn cGd cGa
        replace HB := Lib.hid (below_then HB.out hb)
        replace Gn := Lib.hid ((hb.block _ (lt_of_heap Gn.out)).trans Gn.out)
        replace Gd := Lib.hid ((hb.block _ (lt_of_heap Gd.out)).trans Gd.out)
        replace Ka := Lib.hid (Ka.out.older hb)
        replace KL := Lib.hid (KL.out.older hb)
        replace Ga := Lib.hid ((hb.block _ (lt_of_heap Ga.out)).trans Ga.out)
        clear hb
        replace Gn := Lib.hid (keepAl (o' := .cells (wcells X) 24) Gn.out)
        replace Gd := Lib.hid (keepAl (o' := .cells (wcells X) 24) Gd.out)
        replace Ka := Lib.hid (Ka.out.older (below_al (Below.refl (w5).heap.size (w5)) (.cells (wcells X) 24)))
        replace KL := Lib.hid (KL.out.older (below_al (Below.refl (w5).heap.size (w5)) (.cells (wcells X) 24)))
        replace Ga := Lib.hid (keepAl (o' := .cells (wcells X) 24) Ga.out)
        have Gx := Lib.hid (alloc_new (w5) (.cells (wcells X) 24))
        replace HB := Lib.hid (below_al HB.out (.cells (wcells X) 24))
        have cGn := cell_row Gn.out
        have cGd := cell_row Gd.out
        have cGa := cell_row Ga.out
        have cGx := cell_row Gx.out
        go_upto_region 14 with fail
        clear cGn cGd cGa cGx
        obtain ⟨wA, hw⟩ : ∃ wx, wx = (w5).alloc (.cells (wcells X) 24) := ⟨_, rfl⟩
        rw [← hw] at Gn Gd Ka KL Ga Gx HB ⊢
        clear hw
        have xGn := ext_row (B := wA.heap.size) Gn.out (lt_of_heap Gn.out)
        have xGd := ext_row (B := wA.heap.size) Gd.out (lt_of_heap Gd.out)
        have xGa := ext_row (B := wA.heap.size) Ga.out (lt_of_heap Ga.out)
        have xGx := ext_row (B := wA.heap.size) Gx.out (lt_of_heap Gx.out)
        apply wp_region_loose (looseR [_, _, _, _, _, _, _, _, _, _, _, _, _]) (pureL [])
        · kernel_rfl
        · kernel_rfl
        · kernel_rfl
        · exact allocs_ok [] rfl (by intro T hT; cases hT)
        · exact looseR_st _
        · change wpL _ _ _ _ _ _ _ 13 0 _ _
          refine wpL_call (Lft.big 3) (big_some w _) rfl rfl rfl rfl (by first | rfl | go_simp) rfl (fun w' hC hF => ?_) (fun v0 hv0 => ?_)
          · obtain ⟨x, rfl⟩ := hC
            go_simp
            go_at_call 16
            exact gives_loose (O3.out _)
          refine wpL_calm wA rfl rfl rfl rfl (fun K hK K0 hK0 => ?_)
          go_simp
          first | refine hK _ _ rfl rfl ?_ | refine hK0 _ rfl ?_
          clear hK hK0 K K0
          refine wpL_call (Lft.big A) (big_some w _) rfl rfl rfl rfl (by first | rfl | go_simp) rfl (fun w' hC hF => ?_) (fun v2 hv2 => ?_)
          · obtain ⟨x, rfl⟩ := hC
            go_simp
            go_at_call 10
            exact gives_loose (BA.out _)
          refine wpL_call (Lft.big T3) (big_some w _) rfl rfl rfl rfl (by first | rfl | go_simp) rfl (fun w' hC hF => ?_) (fun v3 hv3 => ?_)
          · obtain ⟨x, rfl⟩ := hC
            go_simp
            go_at_call 34
            exact gives_loose (M3.out _ _ _ (hF 0 _ 87 rfl rfl rfl rfl (by decide)) (hF 2 _ 89 rfl rfl rfl rfl (by decide)))
          refine wpL_calm wA rfl rfl rfl rfl (fun K hK K0 hK0 => ?_)
          go_simp
          first | refine hK _ _ rfl rfl ?_ | refine hK0 _ rfl ?_
          clear hK hK0 K K0
          refine wpL_call (Lft.big X) (big_some w _) rfl rfl rfl rfl (by first | rfl | go_simp) rfl (fun w' hC hF => ?_) (fun v5 hv5 => ?_)
          · obtain ⟨x, rfl⟩ := hC
            go_simp
            go_at_call 10
            exact gives_loose (BX.out _)
          refine wpL_calm wA rfl rfl rfl rfl (fun K hK K0 hK0 => ?_)
          go_simp
          first | refine hK _ _ rfl rfl ?_ | refine hK0 _ rfl ?_
          clear hK hK0 K K0
          refine wpL_calm wA rfl rfl rfl rfl (fun K hK K0 hK0 => ?_)
          go_simp
          first | refine hK _ _ rfl rfl ?_ | refine hK0 _ rfl ?_
          clear hK hK0 K K0
          refine wpL_calm wA rfl rfl rfl rfl (fun K hK K0 hK0 => ?_)
          go_simp
          first | refine hK _ _ rfl rfl ?_ | refine hK0 _ rfl ?_
          clear hK hK0 K K0
          refine wpL_calm wA rfl rfl rfl rfl (fun K hK K0 hK0 => ?_)
          go_simp
          first | refine hK _ _ rfl rfl ?_ | refine hK0 _ rfl ?_
          clear hK hK0 K K0
          refine wpL_call (Lft.big S) (big_some w _) rfl rfl rfl rfl (by first | rfl | go_simp) rfl (fun w' hC hF => ?_) (fun v10 hv10 => ?_)
          · obtain ⟨x, rfl⟩ := hC
            go_simp
            go_at_call 14
            exact gives_loose (SH.out _ _ (hF 5 _ 92 rfl rfl rfl rfl (by decide)))
          refine wpL_call (Lft.val (.int .i64 C)) (val_some wA _) rfl rfl rfl rfl (by first | rfl | go_simp) rfl (fun w' hC hF => ?_) (fun v11 hv11 => ?_)
          · obtain ⟨x, rfl⟩ := hC
            go_simp
            go_at_call 15
            exact val_loose (SC.out _ _ _ (hF 3 _ 90 rfl rfl rfl rfl (by decide)) (hF 10 _ 97 rfl rfl rfl rfl (by decide)))
          obtain ⟨_, rfl⟩ := hv11
          refine wpL_calm wA rfl rfl rfl rfl (fun K hK K0 hK0 => ?_)
          go_simp
          first | refine hK _ _ rfl rfl ?_ | refine hK0 _ rfl ?_
          clear hK hK0 K K0
          refine wpL_nil (endL [] rfl (by intro q hq; cases hq) (fun w6 hb hst hap hfin => ?_))
          replace HB := Lib.hid (below_then HB.out hb)
          replace Gn := Lib.hid ((hb.block _ (lt_of_heap Gn.out)).trans Gn.out)
          replace Gd := Lib.hid ((hb.block _ (lt_of_heap Gd.out)).trans Gd.out)
          replace Ka := Lib.hid (Ka.out.older hb)
          replace KL := Lib.hid (KL.out.older hb)
          replace Ga := Lib.hid ((hb.block _ (lt_of_heap Ga.out)).trans Ga.out)
          replace Gx := Lib.hid ((hb.block _ (lt_of_heap Gx.out)).trans Gx.out)
          clear hb hst hap hfin xGn xGd xGa xGx
          have cGn := cell_row Gn.out
          have cGd := cell_row Gd.out
          have cGa := cell_row Ga.out
          have cGx := cell_row Gx.out
          go_wp2_with fail
          refine (DV.out _).mono ?_
          rintro e w7 ⟨rfl, hb⟩
          clear cGn cGd cGa cGx
          replace HB := Lib.hid (below_then HB.out hb)
          replace Gn := Lib.hid ((hb.block _ (lt_of_heap Gn.out)).trans Gn.out)
          replace Gd := Lib.hid ((hb.block _ (lt_of_heap Gd.out)).trans Gd.out)
          replace Ka := Lib.hid (Ka.out.older hb)
          replace KL := Lib.hid (KL.out.older hb)
          replace Ga := Lib.hid ((hb.block _ (lt_of_heap Ga.out)).trans Ga.out)
          replace Gx := Lib.hid ((hb.block _ (lt_of_heap Gx.out)).trans Gx.out)
          clear hb
          replace Gn := Lib.hid (keepAl (o' := .cells (wcells Q) 24) Gn.out)
          replace Gd := Lib.hid (keepAl (o' := .cells (wcells Q) 24) Gd.out)
          replace Ka := Lib.hid (Ka.out.older (below_al (Below.refl (w7).heap.size (w7)) (.cells (wcells Q) 24)))
          replace KL := Lib.hid (KL.out.older (below_al (Below.refl (w7).heap.size (w7)) (.cells (wcells Q) 24)))
          replace Ga := Lib.hid (keepAl (o' := .cells (wcells Q) 24) Ga.out)
          replace Gx := Lib.hid (keepAl (o' := .cells (wcells Q) 24) Gx.out)
          have Gq := Lib.hid (alloc_new (w7) (.cells (wcells Q) 24))
          replace HB := Lib.hid (below_al HB.out (.cells (wcells Q) 24))
          replace Gn := Lib.hid (keepAl (o' := .cells (wcells R) 24) Gn.out)
          replace Gd := Lib.hid (keepAl (o' := .cells (wcells R) 24) Gd.out)
          replace Ka := Lib.hid (Ka.out.older (below_al (Below.refl ((w7).alloc (.cells (wcells Q) 24)).heap.size ((w7).alloc (.cells (wcells Q) 24))) (.cells (wcells R) 24)))
          replace KL := Lib.hid (KL.out.older (below_al (Below.refl ((w7).alloc (.cells (wcells Q) 24)).heap.size ((w7).alloc (.cells (wcells Q) 24))) (.cells (wcells R) 24)))
          replace Ga := Lib.hid (keepAl (o' := .cells (wcells R) 24) Ga.out)
          replace Gx := Lib.hid (keepAl (o' := .cells (wcells R) 24) Gx.out)
          replace Gq := Lib.hid (keepAl (o' := .cells (wcells R) 24) Gq.out)
          have Gr := Lib.hid (alloc_new' (w := (w7).alloc (.cells (wcells Q) 24)) (n := w7.heap.size + 1) (.cells (wcells R) 24) (by simp))
          replace HB := Lib.hid (below_al HB.out (.cells (wcells R) 24))
          have cGn := cell_row Gn.out
          have cGd := cell_row Gd.out
          have cGa := cell_row Ga.out
          have cGx := cell_row Gx.out
          have cGq := cell_row Gq.out
          have cGr := cell_row Gr.out
          go_wp2_with fail
          refine (CV.out _ _ Ka.out).mono ?_
          rintro e w8 ⟨rfl, hb⟩
          clear cGn cGd cGa cGx cGq cGr
          replace HB := Lib.hid (below_then HB.out hb)
          replace Gn := Lib.hid ((hb.block _ (lt_of_heap Gn.out)).trans Gn.out)
          replace Gd := Lib.hid ((hb.block _ (lt_of_heap Gd.out)).trans Gd.out)
          replace Ka := Lib.hid (Ka.out.older hb)
          replace KL := Lib.hid (KL.out.older hb)
          replace Ga := Lib.hid ((hb.block _ (lt_of_heap Ga.out)).trans Ga.out)
          replace Gx := Lib.hid ((hb.block _ (lt_of_heap Gx.out)).trans Gx.out)
          replace Gq := Lib.hid ((hb.block _ (lt_of_heap Gq.out)).trans Gq.out)
          replace Gr := Lib.hid ((hb.block _ (lt_of_heap Gr.out)).trans Gr.out)
          clear hb
          replace Gn := Lib.hid (keepAl (o' := .cells (wcells NU) 24) Gn.out)
          replace Gd := Lib.hid (keepAl (o' := .cells (wcells NU) 24) Gd.out)
          replace Ka := Lib.hid (Ka.out.older (below_al (Below.refl (w8).heap.size (w8)) (.cells (wcells NU) 24)))
          replace KL := Lib.hid (KL.out.older (below_al (Below.refl (w8).heap.size (w8)) (.cells (wcells NU) 24)))
          replace Ga := Lib.hid (keepAl (o' := .cells (wcells NU) 24) Ga.out)
          replace Gx := Lib.hid (keepAl (o' := .cells (wcells NU) 24) Gx.out)
          replace Gq := Lib.hid (keepAl (o' := .cells (wcells NU) 24) Gq.out)
          replace Gr := Lib.hid (keepAl (o' := .cells (wcells NU) 24) Gr.out)
          have Gu := Lib.hid (alloc_new (w8) (.cells (wcells NU) 24))
          replace HB := Lib.hid (below_al HB.out (.cells (wcells NU) 24))
          have cGn := cell_row Gn.out
          have cGd := cell_row Gd.out
          have cGa := cell_row Ga.out
          have cGx := cell_row Gx.out
          have cGq := cell_row Gq.out
          have cGr := cell_row Gr.out
          have cGu := cell_row Gu.out
          go_wp2_with fail
          refine (SS.out _).mono ?_
          rintro e w9 ⟨rfl, hb⟩
          clear cGn cGd cGa cGx cGq cGr cGu
          replace HB := Lib.hid (below_then HB.out hb)
          replace Gn := Lib.hid ((hb.block _ (lt_of_heap Gn.out)).trans Gn.out)
          replace Gd := Lib.hid ((hb.block _ (lt_of_heap Gd.out)).trans Gd.out)
          replace Ka := Lib.hid (Ka.out.older hb)
          replace KL := Lib.hid (KL.out.older hb)
          replace Ga := Lib.hid ((hb.block _ (lt_of_heap Ga.out)).trans Ga.out)
          replace Gx := Lib.hid ((hb.block _ (lt_of_heap Gx.out)).trans Gx.out)
          replace Gq := Lib.hid ((hb.block _ (lt_of_heap Gq.out)).trans Gq.out)
          replace Gr := Lib.hid ((hb.block _ (lt_of_heap Gr.out)).trans Gr.out)
          replace Gu := Lib.hid ((hb.block _ (lt_of_heap Gu.out)).trans Gu.out)
          clear hb
          rcases HLS.out with rfl | rfl
          · skip
            replace Gn := Lib.hid (keepAl (o' := .cells (wcells 0) 24) Gn.out)
            replace Gd := Lib.hid (keepAl (o' := .cells (wcells 0) 24) Gd.out)
            replace Ka := Lib.hid (Ka.out.older (below_al (Below.refl (w9).heap.size (w9)) (.cells (wcells 0) 24)))
            replace KL := Lib.hid (KL.out.older (below_al (Below.refl (w9).heap.size (w9)) (.cells (wcells 0) 24)))
            replace Ga := Lib.hid (keepAl (o' := .cells (wcells 0) 24) Ga.out)
            replace Gx := Lib.hid (keepAl (o' := .cells (wcells 0) 24) Gx.out)
            replace Gq := Lib.hid (keepAl (o' := .cells (wcells 0) 24) Gq.out)
            replace Gr := Lib.hid (keepAl (o' := .cells (wcells 0) 24) Gr.out)
            replace Gu := Lib.hid (keepAl (o' := .cells (wcells 0) 24) Gu.out)
            have Gv := Lib.hid (alloc_new (w9) (.cells (wcells 0) 24))
            replace HB := Lib.hid (below_al HB.out (.cells (wcells 0) 24))
            have cGn := cell_row Gn.out
            have cGd := cell_row Gd.out
            have cGa := cell_row Ga.out
            have cGx := cell_row Gx.out
            have cGq := cell_row Gq.out
            have cGr := cell_row Gr.out
            have cGu := cell_row Gu.out
            have cGv := cell_row Gv.out
            go_wp2_with fail
            refine (SA.out _ KL.out).mono ?_
            rintro e w10 ⟨rfl, hb⟩
            clear cGn cGd cGa cGx cGq cGr cGu cGv
            replace HB := Lib.hid (below_then HB.out hb)
            replace Gn := Lib.hid ((hb.block _ (lt_of_heap Gn.out)).trans Gn.out)
            replace Gd := Lib.hid ((hb.block _ (lt_of_heap Gd.out)).trans Gd.out)
            replace Ka := Lib.hid (Ka.out.older hb)
            replace KL := Lib.hid (KL.out.older hb)
            replace Ga := Lib.hid ((hb.block _ (lt_of_heap Ga.out)).trans Ga.out)
            replace Gx := Lib.hid ((hb.block _ (lt_of_heap Gx.out)).trans Gx.out)
            replace Gq := Lib.hid ((hb.block _ (lt_of_heap Gq.out)).trans Gq.out)
            replace Gr := Lib.hid ((hb.block _ (lt_of_heap Gr.out)).trans Gr.out)
            replace Gu := Lib.hid ((hb.block _ (lt_of_heap Gu.out)).trans Gu.out)
            replace Gv := Lib.hid ((hb.block _ (lt_of_heap Gv.out)).trans Gv.out)
            clear hb
            have cGn := cell_row Gn.out
            have cGd := cell_row Gd.out
            have cGa := cell_row Ga.out
            have cGx := cell_row Gx.out
            have cGq := cell_row Gq.out
            have cGr := cell_row Gr.out
            have cGu := cell_row Gu.out
            have cGv := cell_row Gv.out
            go_wp2
            go_ret
            exact ⟨rfl, HB.out⟩
          · skip
            replace Gn := Lib.hid (keepAl (o' := .cells (wcells 1) 24) Gn.out)
            replace Gd := Lib.hid (keepAl (o' := .cells (wcells 1) 24) Gd.out)
            replace Ka := Lib.hid (Ka.out.older (below_al (Below.refl (w9).heap.size (w9)) (.cells (wcells 1) 24)))
            replace KL := Lib.hid (KL.out.older (below_al (Below.refl (w9).heap.size (w9)) (.cells (wcells 1) 24)))
            replace Ga := Lib.hid (keepAl (o' := .cells (wcells 1) 24) Ga.out)
            replace Gx := Lib.hid (keepAl (o' := .cells (wcells 1) 24) Gx.out)
            replace Gq := Lib.hid (keepAl (o' := .cells (wcells 1) 24) Gq.out)
            replace Gr := Lib.hid (keepAl (o' := .cells (wcells 1) 24) Gr.out)
            replace Gu := Lib.hid (keepAl (o' := .cells (wcells 1) 24) Gu.out)
            have Gv := Lib.hid (alloc_new (w9) (.cells (wcells 1) 24))
            replace HB := Lib.hid (below_al HB.out (.cells (wcells 1) 24))
            have cGn := cell_row Gn.out
            have cGd := cell_row Gd.out
            have cGa := cell_row Ga.out
            have cGx := cell_row Gx.out
            have cGq := cell_row Gq.out
            have cGr := cell_row Gr.out
            have cGu := cell_row Gu.out
            have cGv := cell_row Gv.out
            go_wp2_with fail
            refine (SA.out _ KL.out).mono ?_
            rintro e w11 ⟨rfl, hb⟩
            clear cGn cGd cGa cGx cGq cGr cGu cGv
            replace HB := Lib.hid (below_then HB.out hb)
            replace Gn := Lib.hid ((hb.block _ (lt_of_heap Gn.out)).trans Gn.out)
            replace Gd := Lib.hid ((hb.block _ (lt_of_heap Gd.out)).trans Gd.out)
            replace Ka := Lib.hid (Ka.out.older hb)
            replace KL := Lib.hid (KL.out.older hb)
            replace Ga := Lib.hid ((hb.block _ (lt_of_heap Ga.out)).trans Ga.out)
            replace Gx := Lib.hid ((hb.block _ (lt_of_heap Gx.out)).trans Gx.out)
            replace Gq := Lib.hid ((hb.block _ (lt_of_heap Gq.out)).trans Gq.out)
            replace Gr := Lib.hid ((hb.block _ (lt_of_heap Gr.out)).trans Gr.out)
            replace Gu := Lib.hid ((hb.block _ (lt_of_heap Gu.out)).trans Gu.out)
            replace Gv := Lib.hid ((hb.block _ (lt_of_heap Gv.out)).trans Gv.out)
            clear hb
            have cGn := cell_row Gn.out
            have cGd := cell_row Gd.out
            have cGa := cell_row Ga.out
            have cGx := cell_row Gx.out
            have cGq := cell_row Gq.out
            have cGr := cell_row Gr.out
            have cGu := cell_row Gu.out
            have cGv := cell_row Gv.out
            go_wp2
            go_ret
            exact ⟨rfl, HB.out⟩
end Go.Proofs.YtffengboblekpaaDoor
