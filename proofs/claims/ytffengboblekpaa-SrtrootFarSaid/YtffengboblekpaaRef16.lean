/- THE WALKS of the reference of srtroot: a number shifted up; the digits of so many steps, and the root so far. -/
import Derived.Test.YtffengboblekpaaK21
import Derived.Test.YtffengboblekpaaK19
import Derived.Test.YtffengboblekpaaK18
import Derived.Test.YtffengboblekpaaInts
namespace Go.Proofs.Ytffengboblekpaa
open Go Go.RowKit

/-- A list of the function's own, in a world. -/
def OwnI (base : Nat) (zs : List Int) (w : World) (v : Value) : Prop := w.ownsRow base 3 1 v zs.length (zs.map fun z => .int .i64 z)
theorem OwnI.older {base : Nat} {zs : List Int} {w w' : World} {v : Value} (h : OwnI base zs w v) (hb : Below w.heap.size w w') : OwnI base zs w' v :=
  ownsRow_but h (But.of_below (S := fun _ => False) hb) (fun _ _ hf => hf)
/-- The root so far, as a number without a sign. -/
def rpN (U i : Nat) : Nat := (rP U i).toNat
theorem rpN_eq {U : Nat} (h1 : P2 254 ≤ U) (h2 : U < P2 256) {i : Nat} (hi : i ≤ 64) : rP U i = (rpN U i : Int) ∧ rpN U i ≤ P2 128 := by
  have h := rP_keep h1 h2 i hi
  have hlow := h.low h1
  have htop := h.top
  have := P2_pos 122
  unfold rpN
  omega
attribute [local go_sem ↓] Go.wp_at_zero Go.wp_at_succ
set_option maxRecDepth 100000 in
set_option maxHeartbeats 1000000 in
theorem norm16_any (n : Nat) (h0 : n ≠ 0) (hm : n < P2 256) (w : World) :
    Calls Try.prog 20 #[wv n] w fun e w' => ∃ v, e = .returned (.tuple #[v, .int .i64 (nrmN n : Nat)]) ∧ IsBig w' v (upN n) ∧ Below w.heap.size w w' := by
  have hnM : n < M := Nat.lt_trans hm (by rw [M_eq]; exact P2_lt (by omega))
  have hl : blen n ≤ 256 := blen_le_of hm
  have hp := blen_pos h0
  have hbl : ∀ c, c ≤ 300 → n * P2 c < P2 700 ∧ blen (n * P2 c) = blen n + c := fun c hc => by
    have g1 := Nat.mul_lt_mul_of_pos_right (blen_lt n) (P2_pos c)
    have g2 := Nat.mul_le_mul_right (P2 c) (blen_le h0)
    rw [← P2_add] at g1 g2
    refine ⟨Nat.lt_of_lt_of_le g1 (P2_le (by omega)), blen_eq g1 fun _ => ?_⟩
    rw [show blen n + c - 1 = blen n - 1 + c by omega]
    exact g2
  have S1 := Lib.hid (fun w' => big_any n hnM w')
  have S2 := Lib.hid (fun c v w' (hc : c ≤ 300) h => rlen_any v (n * P2 c) w' (small_of (hbl c hc).1 (by omega)) h)
  have S3 := Lib.hid (fun c v w' (hc : c ≤ 300) h => rshl_any v (n * P2 c) 2 w' (small_of (hbl c hc).1 (by omega)) (by omega) h)
  have HBL := Lib.hid hbl
  obtain ⟨l, hle⟩ : ∃ l, l = blen n := ⟨_, rfl⟩
  have HL := Lib.hid (show 1 ≤ l ∧ l ≤ 256 by omega)
  have HLE := Lib.hid hle
  obtain ⟨K, hK⟩ : ∃ K, K = (256 - l) / 2 := ⟨_, rfl⟩
  have HK := Lib.hid hK
  have HR : Hid (nrmN n = 2 * K) := Lib.hid (by unfold nrmN; rw [hK, hle]; omega)
  have HU : Hid (upN n = n * P2 (2 * K)) := Lib.hid (by unfold upN; rw [HR.out])
  rw [HR.out, HU.out]
  clear h0 hm hnM hl hp hbl hle hK
  go_enter Try.func20, Try.ntmps20
  have HB := Lib.hid (Below.refl w.heap.size w)
  have Gn := Lib.hid (alloc_new (w) (.cells (wcells n) 24))
  replace HB := Lib.hid (below_al HB.out (.cells (wcells n) 24))
  have cGn := cell_row Gn.out
  go_wp2_with fail
  refine (S1.out _).mono ?_
  rintro e w1 ⟨rb, rfl, hr, hb⟩
  clear cGn
  replace HB := Lib.hid (below_then HB.out hb)
  replace Gn := Lib.hid ((hb.block _ (lt_of_heap Gn.out)).trans Gn.out)
  have Rb := Lib.hid hr
  clear hr hb
  go_wp2
  go_loopw [4, 5] (fun s4 s5 wr => ∃ k : Nat, s5 = .int .i64 ((2 * k : Nat) : Int) ∧ k ≤ K ∧ Hid (IsBig wr s4 (n * P2 (2 * k))) ∧ Hid (Below w.heap.size w wr)) (fun _ s5 _ => 2 * K - (intOf s5).toNat)
  case atStart => exact ⟨0, rfl, by omega, Lib.hid (by rw [Nat.mul_zero, P2_0, Nat.mul_one]; exact Rb.out), HB⟩
  case round =>
    clear HB Rb Gn
    obtain ⟨k, rfl, hk, RB, HB⟩ := hrel
    have hK := HK.out
    have hl := HL.out
    have T2 := Lib.hid (fun v w' h => S2.out (2 * k) v w' (by omega) h)
    rw [(HBL.out (2 * k) (by omega)).2, ← HLE.out] at T2
    by_cases hlt : k < K
    · have T3 := Lib.hid (fun v w' h => S3.out (2 * k) v w' (by omega) h)
      rw [Nat.mul_assoc, ← P2_add, show 2 * k + 2 = 2 * (k + 1) by omega] at T3
      have e1 : ((l + 2 * k : Nat) : Int) < 255 := by omega
      have e2 : IntKind.i64.wrap (((2 * k : Nat) : Int) + 2) = ((2 * (k + 1) : Nat) : Int) := by rw [IntWalk.i64_in _ (by omega)]; omega
      obtain ⟨L2, hL2⟩ : ∃ x, x = l + 2 * k := ⟨_, rfl⟩
      rw [← hL2] at T2 e1
      obtain ⟨c, hc⟩ : ∃ x, x = 2 * k := ⟨_, rfl⟩
      have HC := Lib.hid hc
      rw [← hc] at RB T2 T3 e2 ⊢
      obtain ⟨c2, hc2⟩ : ∃ x, x = 2 * (k + 1) := ⟨_, rfl⟩
      have HC2 := Lib.hid hc2
      rw [← hc2] at T3 e2
      have HLT := Lib.hid hlt
      clear hK hl hlt hk hL2 hc hc2
      go_wp2_with fail
      refine (T2.out _ _ RB.out).mono ?_
      rintro e w2 ⟨rfl, hb⟩
      replace HB := Lib.hid (below_then HB.out hb)
      replace RB := Lib.hid (RB.out.below hb)
      clear hb
      go_wp2_with fail
      refine (T3.out _ _ RB.out).mono ?_
      rintro e w3 ⟨rs, rfl, hr, hb⟩
      replace HB := Lib.hid (below_then HB.out hb)
      replace RB := Lib.hid (RB.out.below hb)
      have Rs := Lib.hid hr
      clear hr hb
      go_wp2
      go_roundw
      case rel => exact ⟨k + 1, by rw [← HC2.out], HLT.out, by rw [← HC2.out]; exact Rs, HB⟩
      case measure => have := HLT.out; have := HC.out; have := HC2.out; simp [intOf]; omega
    · obtain rfl : k = K := by omega
      have e1 : ¬ ((l + 2 * k : Nat) : Int) < 255 := by omega
      obtain ⟨L2, hL2⟩ : ∃ x, x = l + 2 * k := ⟨_, rfl⟩
      rw [← hL2] at T2 e1
      obtain ⟨c, hc⟩ : ∃ x, x = 2 * k := ⟨_, rfl⟩
      have HC3 := Lib.hid hc
      rw [← hc] at RB T2 ⊢
      clear hK hl hlt hk hL2 hc
      go_wp2_with fail
      refine (T2.out _ _ RB.out).mono ?_
      rintro e w4 ⟨rfl, hb⟩
      replace HB := Lib.hid (below_then HB.out hb)
      replace RB := Lib.hid (RB.out.below hb)
      clear hb
      go_wp2
      go_ret2
      have hc3 := HC3.out
      subst hc3
      exact ⟨_, rfl, RB.out, HB.out⟩
set_option maxRecDepth 100000 in
set_option maxHeartbeats 4000000 in
theorem run16_any (n K : Nat) (h0 : n ≠ 0) (hm : n < P2 256) (hK : K ≤ 64) (w : World) :
    Calls Try.prog 16 #[wv n, .int .i64 (K : Int)] w fun e w' => ∃ va vb, e = .returned (.tuple #[va, vb]) ∧ IsIntsN w' va (rDigs (upN n) K) ∧ IsBig w' vb (rpN (upN n) K) ∧ Below w.heap.size w w' := by
  obtain ⟨u1, u2, u3⟩ := up_range h0 hm
  have SN := Lib.hid (fun w' => norm16_any n h0 hm w')
  have SP := Lib.hid (fun w' => power_any 128 (by omega) w')
  obtain ⟨U, hU⟩ : ∃ x, x = upN n := ⟨_, rfl⟩
  rw [← hU] at SN u1 u2 ⊢
  obtain ⟨c, hc⟩ : ∃ x, x = nrmN n := ⟨_, rfl⟩
  rw [← hc] at SN
  have HU1 := Lib.hid u1; have HU2 := Lib.hid u2; have HK := Lib.hid hK
  have HP0 : Hid (rpN U 0 = P2 128) := Lib.hid rfl
  clear h0 hm u1 u2 u3 hU hc hK
  go_enter Try.func16, Try.ntmps16
  have HB := Lib.hid (Below.refl w.heap.size w)
  have Gn := Lib.hid (alloc_new (w) (.cells (wcells n) 24))
  replace HB := Lib.hid (below_al HB.out (.cells (wcells n) 24))
  have cGn := cell_row Gn.out
  go_wp2_with fail
  clear cGn
  refine (SN.out _).mono ?_
  rintro e w2 ⟨vu, rfl, hr, hb⟩
  obtain ⟨ua, uL, uc, rfl⟩ := hr.slice
  replace HB := Lib.hid (below_then HB.out hb)
  have Ru := Lib.hid hr
  clear hr hb Gn
  go_wp2_with fail
  refine (SP.out _).mono ?_
  rintro e w5 ⟨rp, rfl, hr, hb⟩
  replace HB := Lib.hid (below_then HB.out hb)
  replace Ru := Lib.hid (Ru.out.below hb)
  have Rp := Lib.hid hr
  clear hr hb
  go_wp2
  go_loopw [8, 9, 10] (fun s8 s9 s10 wr => ∃ i : Nat, s10 = .int .i64 (i : Int) ∧ i ≤ K ∧ Hid (IsBig wr s8 (rpN U i)) ∧ Hid (OwnI w.heap.size (rDigs U i) wr s9) ∧ Hid (IsBig wr (.slice ua uL uc) U) ∧ Hid (Below w.heap.size w wr)) (fun _ _ s10 _ => K - (intOf s10).toNat)
  case atStart => exact ⟨0, rfl, Nat.zero_le _, Lib.hid (by rw [HP0.out]; exact Rp.out), Lib.hid (World.ownsRow_nil _ _ _ _), Ru, HB⟩
  case round =>
    clear HB Rp Ru
    obtain ⟨i, rfl, hi, RP, KO, Ru, HB⟩ := hrel
    by_cases hlt : i < K
    · have hK := HK.out
      obtain ⟨p, s, y, hs⟩ := rstep_of (U := U) (j := i) (by omega) HU1.out HU2.out
      obtain ⟨pe, pl⟩ := rpN_eq HU1.out HU2.out (i := i) (by omega)
      obtain ⟨pe2, pl2⟩ := rpN_eq HU1.out HU2.out (i := i + 1) (by omega)
      have epp : rpN U i = p := by have := hs.hp; omega
      rw [epp] at RP pl
      have hd := rDig_range U i
      have ed := rDig_of hs
      have e128 : P2 128 < P2 130 := P2_lt (by omega)
      have hpB : p < BIG := small_of hs.pl (by omega)
      have hpp : p * p < P2 260 := by have := Nat.mul_lt_mul'' hs.pl hs.pl; rwa [← P2_add] at this
      have hUl : U < P2 800 := Nat.lt_trans HU2.out (P2_lt (by omega))
      have hZ : rL U i = (U : Int) - ((p * p : Nat) : Int) := by unfold rL; rw [hs.hp, Int.natCast_mul]
      have hZa : (rL U i).natAbs < P2 800 := by
        have : P2 260 < P2 800 := P2_lt (by omega)
        rw [hZ]; omega
      have hppa : ((p * p : Nat) : Int).natAbs < P2 800 := by
        have : P2 260 < P2 800 := P2_lt (by omega)
        omega
      have T1 := Lib.hid (fun v v2 w' h h' => mul_any v v2 p p w' hpB hpB h h')
      have T2 : Hid (∀ (v v2 : Value) (w' : World), IsBig w' v U → IsBig w' v2 (p * p) → Calls Try.prog 53 #[.agg #[v, .bool false], .agg #[v2, .bool false]] w' fun e w'' => ∃ r, e = .returned r ∧ IsSgn w'' r (rL U i) ∧ Below w'.heap.size w' w'') := Lib.hid fun v v2 w' h h' => by
        rw [hZ]
        exact sub15_any _ _ (U : Int) ((p * p : Nat) : Int) w' (by omega) hppa (isSgn_of h (by omega) (by rw [decide_eq_false (by omega)])) (isSgn_of h' (by omega) (by rw [decide_eq_false (by omega)]))
      have T3 : Hid (∀ (v : Value) (w' : World), IsBig w' v p → Calls Try.prog 54 #[v, .int .i64 122] w' (GivesBig s w')) := Lib.hid fun v w' h => by
        have := rshr_any v p 122 w' hpB (by omega) h
        rw [hs.hs] at this
        exact this
      have s1 := hs.s1; have s2 := hs.s2; have y1 := hs.y1; have y2 := hs.y2
      have T4 := Lib.hid (fun w' => refRootBounds_any (i : Int) (s : Int) w' (by omega) (by omega) (by omega) (by omega))
      have hyq : (rL U i).natAbs / P2 (248 - 2 * i) ≤ 2147483647 := by
        have hP := P2_pos (248 - 2 * i)
        have h1 := hs.hy
        have h2 := Int.ediv_mul_le (rL U i) (show ((P2 (248 - 2 * i) : Nat) : Int) ≠ 0 by omega)
        have h3 := Int.lt_ediv_add_one_mul_self (rL U i) (show (0 : Int) < ((P2 (248 - 2 * i) : Nat) : Int) by omega)
        rw [h1] at h2 h3
        have h4 : (rL U i).natAbs ≤ 1001 * P2 (248 - 2 * i) := by
          have g1 : -1001 * ((P2 (248 - 2 * i) : Nat) : Int) ≤ y * ((P2 (248 - 2 * i) : Nat) : Int) := Int.mul_le_mul_of_nonneg_right (by omega) (by omega)
          have g2 : (y + 1) * ((P2 (248 - 2 * i) : Nat) : Int) ≤ 1001 * ((P2 (248 - 2 * i) : Nat) : Int) := Int.mul_le_mul_of_nonneg_right (by omega) (by omega)
          omega
        exact Nat.le_trans (Nat.div_le_of_le_mul (by rw [Nat.mul_comm]; exact h4)) (by decide)
      have T5 : Hid (∀ (v : Value) (w' : World), IsSgn w' v (rL U i) → Calls Try.prog 57 #[v, .int .i64 (248 - 2 * (i : Int))] w' fun e w'' => e = .returned (.int .i64 y) ∧ Below w'.heap.size w' w'') := Lib.hid fun v w' h => by
        have := down15_any v (rL U i) (248 - 2 * i) w' hZa (by omega) hyq h
        rw [hs.hy, show ((248 - 2 * i : Nat) : Int) = 248 - 2 * (i : Int) by omega] at this
        exact this
      have T6 := Lib.hid (fun w' => refDigit_any (3 * (s : Int) + sq (i : Int) 9) ((s : Int) + sq (i : Int) 1) (-(s : Int) + sq (i : Int) 1) (-3 * (s : Int) + sq (i : Int) 9) y w')
      rw [← ed] at T6
      obtain ⟨k, hk⟩ := Int.eq_ofNat_of_zero_le (show 0 ≤ max (rDig U i) (-rDig U i) by omega)
      have T7 := Lib.hid (fun w' => small_any k w' (by omega))
      have T8 : Hid (∀ w' : World, Calls Try.prog 25 #[.int .i64 (126 - 2 * (i : Int))] w' (GivesBig (P2 (2 * (63 - i))) w')) := Lib.hid fun w' => by
        have := power_any (2 * (63 - i)) (by omega) w'
        rwa [show ((2 * (63 - i) : Nat) : Int) = 126 - 2 * (i : Int) by omega] at this
      have hWl : P2 (2 * (63 - i)) < BIG := P2_small (by omega)
      have T9 := Lib.hid (fun v v2 w' h h' => mul_any v v2 k (P2 (2 * (63 - i))) w' (small_of (show k < P2 64 by rw [P2_64]; omega) (by omega)) hWl h h')
      have hnx := rP_succ U i
      rw [pe2, pe, epp] at hnx
      have hkW : ((k * P2 (2 * (63 - i)) : Nat) : Int) = (k : Int) * ((P2 (2 * (63 - i)) : Nat) : Int) := Int.natCast_mul _ _
      have TS : Hid (rDig U i < 0 → ∀ (v v2 : Value) (w' : World), IsBig w' v p → IsBig w' v2 (k * P2 (2 * (63 - i))) → Calls Try.prog 28 #[v, v2] w' (GivesBig (rpN U (i + 1)) w')) := Lib.hid fun hneg v v2 w' h h' => by
        have hsum : k * P2 (2 * (63 - i)) + rpN U (i + 1) = p := by
          rw [show rDig U i = -(k : Int) by omega, Int.neg_mul, ← hkW] at hnx
          omega
        exact sub_any v v2 (k * P2 (2 * (63 - i))) (rpN U (i + 1)) w' (by omega) (by rw [hsum]; exact h) h'
      have TA : Hid (¬ rDig U i < 0 → ∀ (v v2 : Value) (w' : World), IsBig w' v p → IsBig w' v2 (k * P2 (2 * (63 - i))) → Calls Try.prog 26 #[v, v2] w' (GivesBig (rpN U (i + 1)) w')) := Lib.hid fun hneg v v2 w' h h' => by
        have hsum : p + k * P2 (2 * (63 - i)) = rpN U (i + 1) := by
          rw [show rDig U i = (k : Int) by omega, ← hkW] at hnx
          omega
        have hqB : rpN U (i + 1) < BIG := small_of (show _ < P2 130 by omega) (by omega)
        have := add_any v v2 p (k * P2 (2 * (63 - i))) w' hpB (by omega) h h'
        rwa [hsum] at this
      have hw1 : IntKind.i64.wrap (s : Int) = (s : Int) := IntWalk.i64_in _ (by omega)
      have hw2 : IntKind.i64.wrap (2 * (i : Int)) = 2 * (i : Int) := IntWalk.i64_in _ (by omega)
      have hw3 : IntKind.i64.wrap (248 - 2 * (i : Int)) = 248 - 2 * (i : Int) := IntWalk.i64_in _ (by omega)
      have hw4 : IntKind.i64.wrap (126 - 2 * (i : Int)) = 126 - 2 * (i : Int) := IntWalk.i64_in _ (by omega)
      have hw5 : IntKind.i64.wrap (-rDig U i) = -rDig U i := IntWalk.i64_in _ (by omega)
      have hw6 : IntKind.u64.wrap (k : Int) = (k : Int) := by rw [u64wrap]; omega
      have HS32 := Lib.hid (show 0 < s ∧ s < P2 32 by rw [P2_32]; omega)
      have HDS := Lib.hid (rDigs_succ U i)
      have HDL := Lib.hid (rDigs_len U i)
      have HLT := Lib.hid hlt; have HI64 := Lib.hid (show i < 64 by omega)
      obtain ⟨PP, hPP⟩ : ∃ x, x = p * p := ⟨_, rfl⟩
      rw [← hPP] at T1 T2
      obtain ⟨Z, hZe⟩ : ∃ x, x = rL U i := ⟨_, rfl⟩
      rw [← hZe] at T2 T5
      obtain ⟨d, hde⟩ : ∃ d, d = rDig U i := ⟨_, rfl⟩
      rw [← hde] at T6 TS TA hk hw5 HDS
      obtain ⟨Wn, hWn⟩ : ∃ x, x = P2 (2 * (63 - i)) := ⟨_, rfl⟩
      rw [← hWn] at T8 T9 TS TA
      obtain ⟨SO, hSO⟩ : ∃ x, x = k * Wn := ⟨_, rfl⟩
      rw [← hSO] at T9 TS TA
      have e0 : (0 : Int) ≤ (i : Int) := Int.natCast_nonneg _
      have e1 : (i : Int) < (K : Int) := by omega
      have e2 : (i : Int) ≤ 63 := by omega
      clear hK hs pe pl pe2 pl2 epp hd ed e128 hpB hpp hppa hUl hZ hZa s1 s2 y1 y2 hyq hWl hnx hkW hPP hZe hde hWn hSO hlt hi
      go_wp2_with fail
      refine (T1.out _ _ _ RP.out RP.out).mono ?_
      rintro e w6 ⟨rm, rfl, hr, hb⟩
      replace HB := Lib.hid (below_then HB.out hb)
      replace RP := Lib.hid (RP.out.below hb)
      replace Ru := Lib.hid (Ru.out.below hb)
      replace KO := Lib.hid (KO.out.older hb)
      have Rm := Lib.hid hr
      clear hr hb
      obtain ⟨ma, mL, mc, rfl⟩ := Rm.out.slice
      go_wp2_with fail
      refine (T2.out _ _ _ Ru.out Rm.out).mono ?_
      rintro e w7 ⟨rl, rfl, hr, hb⟩
      replace HB := Lib.hid (below_then HB.out hb)
      replace RP := Lib.hid (RP.out.below hb)
      replace Ru := Lib.hid (Ru.out.below hb)
      replace KO := Lib.hid (KO.out.older hb)
      replace Rm := Lib.hid (Rm.out.below hb)
      have Kl := Lib.hid hr
      clear hr hb
      obtain ⟨la, lL, lc, rfl, hlb⟩ := Kl.out
      clear hlb
      obtain ⟨F, hF⟩ : ∃ F, F = decide (Z < 0) := ⟨_, rfl⟩
      rw [← hF] at Kl ⊢
      clear hF
      replace RP := Lib.hid (RP.out.below (below_al (Below.refl (w7).heap.size (w7)) (.cells #[.slice la lL lc, .bool F] 76)))
      replace Ru := Lib.hid (Ru.out.below (below_al (Below.refl (w7).heap.size (w7)) (.cells #[.slice la lL lc, .bool F] 76)))
      replace KO := Lib.hid (KO.out.older (below_al (Below.refl (w7).heap.size (w7)) (.cells #[.slice la lL lc, .bool F] 76)))
      replace Rm := Lib.hid (Rm.out.below (below_al (Below.refl (w7).heap.size (w7)) (.cells #[.slice la lL lc, .bool F] 76)))
      replace Kl := Lib.hid (Kl.out.older (below_al (Below.refl (w7).heap.size (w7)) (.cells #[.slice la lL lc, .bool F] 76)))
      have Gl := Lib.hid (alloc_new (w7) (.cells #[.slice la lL lc, .bool F] 76))
      replace HB := Lib.hid (below_al HB.out (.cells #[.slice la lL lc, .bool F] 76))
      have cGl := cell_row Gl.out
      go_wp2_with fail
      refine (T3.out _ _ RP.out).mono ?_
      rintro e w8 ⟨rh, rfl, hr, hb⟩
      clear cGl
      replace HB := Lib.hid (below_then HB.out hb)
      replace RP := Lib.hid (RP.out.below hb)
      replace Ru := Lib.hid (Ru.out.below hb)
      replace KO := Lib.hid (KO.out.older hb)
      replace Rm := Lib.hid (Rm.out.below hb)
      replace Kl := Lib.hid (Kl.out.older hb)
      replace Gl := Lib.hid ((hb.block _ (lt_of_heap Gl.out)).trans Gl.out)
      have Rh := Lib.hid hr
      clear hr hb
      obtain ⟨hb1, ho1, hc1, rfl, hl1, ch⟩ := Rh.out.lone HS32.out.1 HS32.out.2
      clear hl1
      have cGl := cell_row Gl.out
      go_upto_region 9 with fail
      clear cGl
      clear ch
      have KX : ∀ x : Ext (w8).heap.size (w8), IsSgn x.val (.agg #[.slice la lL lc, .bool F]) Z := fun x => Kl.out.older x.property
      have xGl := ext_row (B := w8.heap.size) Gl.out (lt_of_heap Gl.out)
      refine wp_region_ext w8.heap.size (by kernel_rfl) (by kernel_rfl) ?_
      repeat (go_big_quiet_step (first | (go_at_call 56; with_reducible exact Calls.quiet_ext (Nat.le_refl _) (T4.out _)) | (go_at_call 57; with_reducible exact Calls.quiet_ext (Nat.le_refl _) (T5.out _ _ (KX _))) | (go_at_call 55; with_reducible exact Calls.quiet_ext (Nat.le_refl _) (T6.out _))))
      refine wpQuiet_nil ?_
      intro w9 hb
      clear xGl
      replace HB := Lib.hid (below_then HB.out hb)
      replace RP := Lib.hid (RP.out.below hb)
      replace Ru := Lib.hid (Ru.out.below hb)
      replace KO := Lib.hid (KO.out.older hb)
      replace Rm := Lib.hid (Rm.out.below hb)
      replace Kl := Lib.hid (Kl.out.older hb)
      replace Gl := Lib.hid ((hb.block _ (lt_of_heap Gl.out)).trans Gl.out)
      replace Rh := Lib.hid (Rh.out.below hb)
      clear hb
      have HO := Lib.hid (show World.ownsRow _ _ _ _ _ _ _ from KO.out)
      obtain ⟨w7, hw7⟩ : ∃ wx, wx = w9 := ⟨_, rfl⟩
      rw [← hw7] at HO HB RP Ru ⊢
      clear hw7 KX KO Kl Rm Gl Rh
      go_wp2_with (at_builtin; obtain ⟨i0, hi, hz0, hz1, hz2⟩ := info_parts infoInt; refine wpList_append_own _ rfl _ _ 31 rfl w.heap.size 3 i0 (.int .i64 0) 1 8 Try.underlying31 hi hz0 hz1 hz2 rfl (by decide) _ _ _ rfl (HO.out.alloc _) ⟨w7.heap.size, 0, none⟩ 1 1 [.int .i64 d] rfl rfl ?c1 ?c2 ?c3 ?c4 ?c5 ?_)
      case c1 =>
        intro j u hj
        match j, hj with
        | 0, hj => simp at hj; subst hj; simp [Addr.add]
      case c2 => intro u hu; simp at hu; subst hu; rfl
      case c3 => have := HDL.out; have := HI64.out; unfold maxLen; omega
      case c4 => have := HDL.out; have := HI64.out; omega
      case c5 => have := HB.out.size; simp; omega
      intro v' w3 hown3 hgrow _
      have KO : Hid (OwnI w.heap.size (rDigs U (i + 1)) w3 v') := Lib.hid (by
        unfold OwnI
        rw [HDS.out, List.map_append, List.length_append]
        exact hown3)
      replace RP := Lib.hid ((RP.out.below (below_al (Below.refl _ _) _)).grown (HO.out.alloc _) hgrow)
      replace Ru := Lib.hid ((Ru.out.below (below_al (Below.refl _ _) _)).grown (HO.out.alloc _) hgrow)
      replace HB := Lib.hid (below_append HO.out HB.out HB.out.size hgrow)
      clear hown3 hgrow HO
      by_cases hneg : d < 0
      · have TQ := Lib.hid (TS.out hneg)
        clear TS TA
        go_wp2_with fail
        refine (T7.out _).mono ?_
        rintro e w10 ⟨ra, rfl, hr, hb⟩
        replace HB := Lib.hid (below_then HB.out hb)
        replace RP := Lib.hid (RP.out.below hb)
        replace Ru := Lib.hid (Ru.out.below hb)
        replace KO := Lib.hid (KO.out.older hb)
        have Ra := Lib.hid hr
        clear hr hb
        go_wp2_with fail
        refine (T8.out _).mono ?_
        rintro e w11 ⟨rb, rfl, hr, hb⟩
        replace HB := Lib.hid (below_then HB.out hb)
        replace RP := Lib.hid (RP.out.below hb)
        replace Ru := Lib.hid (Ru.out.below hb)
        replace KO := Lib.hid (KO.out.older hb)
        replace Ra := Lib.hid (Ra.out.below hb)
        have Rb := Lib.hid hr
        clear hr hb
        go_wp2_with fail
        refine (T9.out _ _ _ Ra.out Rb.out).mono ?_
        rintro e w12 ⟨rc, rfl, hr, hb⟩
        replace HB := Lib.hid (below_then HB.out hb)
        replace RP := Lib.hid (RP.out.below hb)
        replace Ru := Lib.hid (Ru.out.below hb)
        replace KO := Lib.hid (KO.out.older hb)
        replace Ra := Lib.hid (Ra.out.below hb)
        replace Rb := Lib.hid (Rb.out.below hb)
        have Rc := Lib.hid hr
        clear hr hb
        go_wp2_with fail
        refine (TQ.out _ _ _ RP.out Rc.out).mono ?_
        rintro e w13 ⟨rq, rfl, hr, hb⟩
        replace HB := Lib.hid (below_then HB.out hb)
        replace RP := Lib.hid (RP.out.below hb)
        replace Ru := Lib.hid (Ru.out.below hb)
        replace KO := Lib.hid (KO.out.older hb)
        replace Ra := Lib.hid (Ra.out.below hb)
        replace Rb := Lib.hid (Rb.out.below hb)
        replace Rc := Lib.hid (Rc.out.below hb)
        have Rq := Lib.hid hr
        clear hr hb
        go_wp2
        go_roundw
        case rel => exact ⟨i + 1, by go_num, HLT.out, Rq, KO, Ru, HB⟩
        case measure => have := HLT.out; simp [intOf]; omega
      · have TQ := Lib.hid (TA.out (by omega))
        clear TS TA
        go_wp2_with fail
        refine (T7.out _).mono ?_
        rintro e w14 ⟨ra, rfl, hr, hb⟩
        replace HB := Lib.hid (below_then HB.out hb)
        replace RP := Lib.hid (RP.out.below hb)
        replace Ru := Lib.hid (Ru.out.below hb)
        replace KO := Lib.hid (KO.out.older hb)
        have Ra := Lib.hid hr
        clear hr hb
        go_wp2_with fail
        refine (T8.out _).mono ?_
        rintro e w15 ⟨rb, rfl, hr, hb⟩
        replace HB := Lib.hid (below_then HB.out hb)
        replace RP := Lib.hid (RP.out.below hb)
        replace Ru := Lib.hid (Ru.out.below hb)
        replace KO := Lib.hid (KO.out.older hb)
        replace Ra := Lib.hid (Ra.out.below hb)
        have Rb := Lib.hid hr
        clear hr hb
        go_wp2_with fail
        refine (T9.out _ _ _ Ra.out Rb.out).mono ?_
        rintro e w16 ⟨rc, rfl, hr, hb⟩
        replace HB := Lib.hid (below_then HB.out hb)
        replace RP := Lib.hid (RP.out.below hb)
        replace Ru := Lib.hid (Ru.out.below hb)
        replace KO := Lib.hid (KO.out.older hb)
        replace Ra := Lib.hid (Ra.out.below hb)
        replace Rb := Lib.hid (Rb.out.below hb)
        have Rc := Lib.hid hr
        clear hr hb
        go_wp2_with fail
        refine (TQ.out _ _ _ RP.out Rc.out).mono ?_
        rintro e w17 ⟨rq, rfl, hr, hb⟩
        replace HB := Lib.hid (below_then HB.out hb)
        replace RP := Lib.hid (RP.out.below hb)
        replace Ru := Lib.hid (Ru.out.below hb)
        replace KO := Lib.hid (KO.out.older hb)
        replace Ra := Lib.hid (Ra.out.below hb)
        replace Rb := Lib.hid (Rb.out.below hb)
        replace Rc := Lib.hid (Rc.out.below hb)
        have Rq := Lib.hid hr
        clear hr hb
        go_wp2
        go_roundw
        case rel => exact ⟨i + 1, by go_num, HLT.out, Rq, KO, Ru, HB⟩
        case measure => have := HLT.out; simp [intOf]; omega
    · obtain rfl : i = K := by omega
      have HI := Lib.hid (ints_of_own (by rfl) KO.out)
      clear hlt hi
      go_wp2
      go_ret2
      exact ⟨_, _, rfl, HI.out, RP.out, HB.out⟩
end Go.Proofs.Ytffengboblekpaa
