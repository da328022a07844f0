/- SEVERAL TEXTS of the seat, one behind the other: each says at its head what it proves. -/
import Derived.Test.YtegmmaaapdgocaaGreatK11
import Derived.Test.YtegmmaaapdgocaaGreatK4
import Derived.Deep.DeepCutAuto
import Derived.Test.YtegmmaaapdgocaaGreatK6
import Derived.Test.YtegmmaaapdgocaaGreatShift
/- THE WALKS of package prod: a limb put into a product. -/
namespace Go.Proofs.YtegmmaaapdgocaaGreat
open Go Go.RowKit

attribute [local go_sem ↓] Go.wp_at_zero Go.wp_at_succ
set_option maxHeartbeats 2000000 in
/-- A limb x is added at place i. -/
theorem put_any (g i n x : Nat) (w : World) (hg : w.heap[g]? = some (.cells (kcells 17 n) 157 (0, 0))) (hi : i < 17) (hn : n + x * P2 (64 * i) < P2 (64 * 17)) (hx : x < P2 64) :
    Calls Tryz.prog 139 #[.pointer (some ⟨g, 0, none⟩), .int .i64 i, .int .u64 x] w fun e w' => e = .returned (.tuple #[]) ∧ w'.heap[g]? = some (.cells (kcells 17 (n + x * P2 (64 * i))) 157 (0, 0)) ∧ But (· = g) w w' := by
  have e1 : (i : Int) < 17 := by omega
  have e0 : (0 : Int) ≤ (i : Int) := by omega
  have ea : w.drew.cell? ⟨g, i, none⟩ = some (.int .u64 (limb n i : Nat)) := by
    show w.cell? ⟨g, i, none⟩ = _
    rw [cell_row hg, kcells_get _ _ _ hi]
  have G := Lib.hid hg
  have S : Hid (∀ w' : World, Calls Tryz.prog 143 #[.int .u64 (limb n i), .int .u64 x, .int .u64 0] w' fun e w'' => e = .returned (.tuple #[.int .u64 ((limb n i + x) % P2 64 : Nat), .int .u64 ((limb n i + x) / P2 64 : Nat)]) ∧ Below w'.heap.size w' w'') := Lib.hid fun w' => limbAdd_any (limb n i) x 0 (by omega) w'
  have hc1 : (limb n i + x) / P2 64 ≤ 1 := by
    have := limb_lt n i
    refine Nat.le_of_lt_succ ?_
    rw [Nat.div_lt_iff_lt_mul (P2_pos _)]
    omega
  have hnlt : n < P2 (64 * 17) := by omega
  have hset := setL_lt n i ((limb n i + x) % P2 64) 17 hnlt hi (Nat.mod_lt _ (P2_pos _))
  have hadd := add_setL n i x
  have hks := kcells_set 17 n i ((limb n i + x) % P2 64) hi (Nat.mod_lt _ (P2_pos _))
  obtain ⟨X, hX⟩ : ∃ X, X = (limb n i + x) % P2 64 := ⟨_, rfl⟩
  obtain ⟨c, hc⟩ : ∃ c, c = (limb n i + x) / P2 64 := ⟨_, rfl⟩
  rw [← hX, ← hc] at S hadd
  rw [← hX] at hset hks
  rw [← hc] at hc1
  obtain ⟨N0, hN0⟩ : ∃ N, N = setL n i X := ⟨_, rfl⟩
  rw [← hN0] at hset hadd hks
  obtain ⟨T, hT⟩ : ∃ T, T = n + x * P2 (64 * i) := ⟨_, rfl⟩
  rw [← hT] at hn hadd ⊢
  have HADD := Lib.hid hadd; have HN := Lib.hid hn; have HSET := Lib.hid hset; have HKS := Lib.hid hks; have HC1 := Lib.hid hc1
  have HG := Lib.hid (kcells_get 17 n i hi)
  clear hg hX hc hn hx hadd hset hks hN0 hT hnlt hc1
  go_enter Tryz.func139, Tryz.ntmps139
  go_upto_region 1 with fail
  go_cut [6] (fun s6 wx => s6 = .int .u64 c ∧ wx.heap[g]? = some (.cells (kcells 17 N0) 157 (0, 0)) ∧ But (· = g) w wx)
  case first =>
    go_region_with (
      refine (S.out _).mono ?_
      rintro e w2 ⟨rfl, hb2⟩
      have G2 := Lib.hid ((hb2.block _ (lt_of_heap G.out)).trans G.out)
      have HB2 := Lib.hid ((But.refl (· = g) w).drew.trans (But.of_below hb2))
      have cs := cell_row G2.out i
      have fs := free_row G2.out i
      rw [HG.out] at cs
      clear hb2)
    all_goals
      go_wp2
      go_meet
      refine ⟨rfl, ?_, HB2.out.set rfl _ _⟩
      rw [set_row G2.out, HKS.out]
  case rest =>
    obtain ⟨rfl, hg, hbut⟩ := hcut
    have HB := Lib.hid hbut; have G := Lib.hid hg
    clear hg hbut ea
    have HI := Lib.hid hi
    clear hi S
    go_wp2
    obtain ⟨wo, hwo⟩ : ∃ wo : World, wo = wc := ⟨_, rfl⟩
    rw [← hwo] at HB G ⊢
    clear hwo
    go_loopw [1, 6] (fun s1 s6 wr => ∃ j c N : Nat, s1 = .int .i64 j ∧ s6 = .int .u64 c ∧ j ≤ 17 ∧ c ≤ 1 ∧ Hid (N < P2 (64 * 17)) ∧ Hid (N + c * P2 (64 * j) = T) ∧ wr.heap[g]? = some (.cells (kcells 17 N) 157 (0, 0)) ∧ But (· = g) w wr) (fun s1 _ _ => 17 - (intOf s1).toNat)
    case atStart => exact ⟨i + 1, c, N0, by go_num, rfl, by have := HI.out; omega, HC1.out, HSET, HADD, G.out, HB.out⟩
    case round =>
      obtain ⟨j, c, N, rfl, rfl, hj, hc, HNL, HS, hg, hbut⟩ := hrel
      have G := Lib.hid hg; have HB := Lib.hid hbut
      clear hg hbut
      rcases (show c = 0 ∨ c = 1 by omega) with rfl | rfl
      · go_wp2
        go_end0
        refine ⟨rfl, ?_, HB.out⟩
        have := HS.out
        rw [Nat.zero_mul, Nat.add_zero] at this
        rw [← this]
        exact G.out
      · by_cases hj7 : j < 17
        · have e1 : (j : Int) < 17 := by omega
          have e2 : (j : Int) ≤ 16 := by omega
          have e0 : (0 : Int) ≤ (j : Int) := by omega
          have ea : wr.drew.cell? ⟨g, j, none⟩ = some (.int .u64 (limb N j : Nat)) := by
            show wr.cell? ⟨g, j, none⟩ = _
            rw [cell_row G.out, kcells_get _ _ _ hj7]
          have S : Hid (∀ w' : World, Calls Tryz.prog 143 #[.int .u64 (limb N j), .int .u64 0, .int .u64 ((1 : Nat) : Int)] w' fun e w'' => e = .returned (.tuple #[.int .u64 ((limb N j + 1) % P2 64 : Nat), .int .u64 ((limb N j + 1) / P2 64 : Nat)]) ∧ Below w'.heap.size w' w'') := Lib.hid fun w' => by
            have := limbAdd_any (limb N j) 0 1 (by omega) w'
            rwa [Nat.add_zero] at this
          have hc1 : (limb N j + 1) / P2 64 ≤ 1 := by
            have := limb_lt N j
            refine Nat.le_of_lt_succ ?_
            rw [Nat.div_lt_iff_lt_mul (P2_pos _)]
            omega
          have hset := setL_lt N j ((limb N j + 1) % P2 64) 17 HNL.out hj7 (Nat.mod_lt _ (P2_pos _))
          have hadd := add_setL N j 1
          have hks := kcells_set 17 N j ((limb N j + 1) % P2 64) hj7 (Nat.mod_lt _ (P2_pos _))
          have HG := Lib.hid (kcells_get 17 N j hj7)
          obtain ⟨X, hX⟩ : ∃ X, X = (limb N j + 1) % P2 64 := ⟨_, rfl⟩
          obtain ⟨c2, hc2⟩ : ∃ c, c = (limb N j + 1) / P2 64 := ⟨_, rfl⟩
          rw [← hX, ← hc2] at S hadd
          rw [← hX] at hset hks
          rw [← hc2] at hc1
          obtain ⟨N2, hN2⟩ : ∃ M, M = setL N j X := ⟨_, rfl⟩
          rw [← hN2] at hset hadd hks
          have HADD2 := Lib.hid (hadd.trans HS.out); have HSET2 := Lib.hid hset; have HKS := Lib.hid hks; have HC2 := Lib.hid hc1
          have HJ := Lib.hid hj7
          clear hX hc2 hadd hset hks hN2 hc1 hj7 hj
          go_wp2_with fail
          go_region_with (
            refine (S.out _).mono ?_
            rintro e w2 ⟨rfl, hb2⟩
            have G2 := Lib.hid ((hb2.block _ (lt_of_heap G.out)).trans G.out)
            have HB2 := Lib.hid (HB.out.drew.trans (But.of_below hb2))
            have cs := cell_row G2.out j
            have fs := free_row G2.out j
            rw [HG.out] at cs
            clear hb2)
          all_goals
            go_wp2
            go_roundw
            case rel =>
              refine ⟨j + 1, c2, N2, by go_num, rfl, HJ.out, HC2.out, HSET2, HADD2, ?_, HB2.out.set rfl _ _⟩
              rw [set_row G2.out, HKS.out]
            case measure => have := HJ.out; simp [intOf]; omega
        · obtain rfl : j = 17 := by omega
          have h1 := HS.out
          have h2 := HN.out
          exact absurd h1 (by omega)
end Go.Proofs.YtegmmaaapdgocaaGreat

/- THE WALKS of package prod, going on: the sum of limbs' products. -/
namespace Go.Proofs.YtegmmaaapdgocaaGreat
open Go Go.RowKit

theorem index_w (a i : Nat) (hi : i < 8) (w : World) : (Instr.index 24 (.agg (wcells a)) (.int .i64 i)).run Tryz.prog w = .ok (.int .u64 (limb a i : Nat)) w := by
  rcases i with _ | _ | _ | _ | _ | _ | _ | _ | i
  all_goals first | omega | kernel_rfl
/-- A function value that tells of each place whether it isn't below m, in whatever world comes of w. -/
def Since (P : Program) (f : FuncId) (caps : Array Value) (w : World) (m : Nat) : Prop :=
  ∀ (s : Nat) (w' : World), s < 15 → Below w.heap.size w w' → Calls P f (#[.int .i64 s] ++ caps) w' fun e w'' => e = .returned (.bool (decide (m ≤ s))) ∧ Below w'.heap.size w' w''

/-- What a round of the walk keeps: the operands, the result's own block, and the product so far. -/
structure Whole (w wr : World) (a b n : Nat) : Prop where
  below : Below w.heap.size w wr
  ga : wr.heap[w.heap.size]? = some (.cells (wcells a) 24 (0, 0))
  gb : wr.heap[w.heap.size + 1]? = some (.cells (wcells b) 24 (0, 0))
  gz : wr.heap[w.heap.size + 2]? = some (.cells (kcells 17 0) 157 (0, 0))
  gp : wr.heap[w.heap.size + 3]? = some (.cells (kcells 17 n) 157 (0, 0))
theorem Whole.then {w wr w2 : World} {a b n : Nat} (h : Whole w wr a b n) (hb : Below wr.heap.size wr w2) : Whole w w2 a b n :=
  ⟨below_then h.below hb, (hb.block _ (lt_of_heap h.ga)).trans h.ga, (hb.block _ (lt_of_heap h.gb)).trans h.gb, (hb.block _ (lt_of_heap h.gz)).trans h.gz, (hb.block _ (lt_of_heap h.gp)).trans h.gp⟩
theorem Whole.put {w wr w2 : World} {a b n n2 : Nat} (h : Whole w wr a b n) (hb : But (· = w.heap.size + 3) wr w2) (hg : w2.heap[w.heap.size + 3]? = some (.cells (kcells 17 n2) 157 (0, 0))) : Whole w w2 a b n2 :=
  ⟨hb.below h.below h.below.size (fun i hi e => by omega), hb.heap h.ga (by omega), hb.heap h.gb (by omega), hb.heap h.gz (by omega), hg⟩

attribute [local go_sem ↓] Go.wp_at_zero Go.wp_at_succ
set_option maxHeartbeats 2000000 in
theorem pwhole_any (f : FuncId) (caps : Array Value) (a b m : Nat) (w : World) (ha : a < M) (hb : b < M) (hcall : Enters Tryz.prog f) (hT : Since Tryz.prog f caps w m) :
    Calls Tryz.prog 123 #[wv a, wv b, .func (.func f) #[] caps] w fun e w' => e = .returned (.agg (kcells 17 (colN a b m 8))) ∧ Below w.heap.size w w' := by
  unfold Enters at hcall
  have HT := Lib.hid hT; have HA := Lib.hid ha; have HBB := Lib.hid hb
  clear hT ha hb
  go_enter Tryz.func123, Tryz.ntmps123
  go_wp2
  go_loopw [15] (fun s wr => ∃ i : Nat, s = .int .i64 i ∧ i ≤ 8 ∧ Hid (Whole w wr a b (colN a b m i))) (fun s _ => 8 - (intOf s).toNat)
  case atStart =>
    refine ⟨0, rfl, by omega, Lib.hid ⟨below_al (below_al (below_al (below_al (Below.refl _ _) _) _) _) _, ?_, ?_, ?_, ?_⟩⟩
    · rw [alloc_old _ _ _ (by simp <;> omega), alloc_old _ _ _ (by simp <;> omega), alloc_old _ _ _ (by simp), alloc_new]
    · rw [alloc_old _ _ _ (by simp <;> omega), alloc_old _ _ _ (by simp), alloc_new' _ (by simp)]
    · rw [alloc_old _ _ _ (by simp), alloc_new' _ (by simp)]
    · rw [alloc_new']; · rfl
      simp
  case round =>
    obtain ⟨i, rfl, hi, HW⟩ := hrel
    by_cases hlt : i < 8
    · have cb := cell_row HW.out.gb
      have hix := index_w a i hlt
      have e1 : (i : Int) < 8 := by omega
      go_wp2
      obtain ⟨wo, hwo⟩ : ∃ wo : World, wo = wr := ⟨_, rfl⟩
      rw [← hwo] at HW ⊢
      clear hwo cb hix
      go_loopw [20] (fun s wr => ∃ k : Nat, s = .int .i64 k ∧ k ≤ 8 ∧ Hid (Whole w wr a b (colN a b m i + rowN a b m i k))) (fun s _ => 8 - (intOf s).toNat)
      case atStart => exact ⟨0, rfl, by omega, HW⟩
      case round =>
        obtain ⟨k, rfl, hk, HW⟩ := hrel
        by_cases hkl : k < 8
        · have hix := index_w b k hkl
          have e2 : (k : Int) < 8 := by omega
          have SI : Hid (Calls Tryz.prog f (#[.int .i64 ((i : Int) + (k : Int))] ++ caps) wr fun e w'' => e = .returned (.bool (decide (m ≤ i + k))) ∧ Below wr.heap.size wr w'') := Lib.hid (by
            have := HT.out (i + k) wr (by omega) HW.out.below
            rwa [Int.natCast_add] at this)
          have hplt := part_lt (m := m) (i := i) (k := k + 1) HA.out HBB.out
          have hmh := mul_halves (limb a i) (limb b k) (i + k)
          have h1617 : P2 (64 * 16) ≤ P2 (64 * 17) := P2_le (by omega)
          have hl1 := limb_lt a i
          have hl2 := limb_lt b k
          by_cases hm : m ≤ i + k
          · rw [decide_eq_true hm] at SI
            have hrow : rowN a b m i (k + 1) = rowN a b m i k + limb a i * limb b k * P2 (64 * (i + k)) := by rw [rowN, if_pos hm]
            have SM := Lib.hid (fun w' => limbMul_any (limb a i) (limb b k) hl1 hl2 w')
            have hhi := mul_high_lt hl1 hl2
            have hlo := Nat.mod_lt (limb a i * limb b k) (P2_pos 64)
            obtain ⟨hiV, hhV⟩ : ∃ x, x = limb a i * limb b k / P2 64 := ⟨_, rfl⟩
            obtain ⟨loV, hlV⟩ : ∃ x, x = limb a i * limb b k % P2 64 := ⟨_, rfl⟩
            rw [← hhV, ← hlV] at SM hmh
            rw [← hhV] at hhi
            rw [← hlV] at hlo
            have hsum : colN a b m i + rowN a b m i (k + 1) = colN a b m i + rowN a b m i k + loV * P2 (64 * (i + k)) + hiV * P2 (64 * (i + k + 1)) := by rw [hrow]; omega
            obtain ⟨N, hN⟩ : ∃ x, x = colN a b m i + rowN a b m i k := ⟨_, rfl⟩
            rw [← hN] at HW hsum
            have SP1 : Hid (∀ w' : World, w'.heap[w.heap.size + 3]? = some (.cells (kcells 17 N) 157 (0, 0)) → Calls Tryz.prog 139 #[.pointer (some ⟨w.heap.size + 3, 0, none⟩), .int .i64 ((i : Int) + (k : Int)), .int .u64 (loV : Nat)] w' fun e w'' => e = .returned (.tuple #[]) ∧ w''.heap[w.heap.size + 3]? = some (.cells (kcells 17 (N + loV * P2 (64 * (i + k)))) 157 (0, 0)) ∧ But (· = w.heap.size + 3) w' w'') := Lib.hid fun w' h => by
              have := put_any _ (i + k) N loV w' h (by omega) (by omega) hlo
              rwa [Int.natCast_add] at this
            have SP2 : Hid (∀ w' : World, w'.heap[w.heap.size + 3]? = some (.cells (kcells 17 (N + loV * P2 (64 * (i + k)))) 157 (0, 0)) → Calls Tryz.prog 139 #[.pointer (some ⟨w.heap.size + 3, 0, none⟩), .int .i64 ((i : Int) + (k : Int) + 1), .int .u64 (hiV : Nat)] w' fun e w'' => e = .returned (.tuple #[]) ∧ w''.heap[w.heap.size + 3]? = some (.cells (kcells 17 (colN a b m i + rowN a b m i (k + 1))) 157 (0, 0)) ∧ But (· = w.heap.size + 3) w' w'') := Lib.hid fun w' h => by
              have := put_any _ (i + k + 1) (N + loV * P2 (64 * (i + k))) hiV w' h (by omega) (by omega) hhi
              rw [hsum]
              rwa [Int.natCast_add, Int.natCast_add] at this
            have HK := Lib.hid hkl; have HI := Lib.hid hlt
            clear hplt hmh h1617 hl1 hl2 hm hrow hhi hlo hhV hlV hsum hN hk hi hkl hlt
            go_wp2_with fail
            refine SI.out.mono ?_
            rintro e w1 ⟨rfl, hb1⟩
            have HW1 := Lib.hid (HW.out.then hb1)
            clear hb1
            go_wp2_with fail
            refine (SM.out _).mono ?_
            rintro e w2 ⟨rfl, rfl⟩
            go_wp2_with fail
            refine (SP1.out _ HW1.out.gp).mono ?_
            rintro e w3 ⟨rfl, hg3, hb3⟩
            have HW3 := Lib.hid (HW1.out.put hb3 hg3)
            clear hg3 hb3
            go_wp2_with fail
            refine (SP2.out _ HW3.out.gp).mono ?_
            rintro e w4 ⟨rfl, hg4, hb4⟩
            have HW4 := Lib.hid (HW3.out.put hb4 hg4)
            clear hg4 hb4
            go_wp2
            go_roundw
            case rel => exact ⟨k + 1, by go_num, HK.out, HW4⟩
            case measure => have := HK.out; simp [intOf]; omega
          · rw [decide_eq_false hm] at SI
            have hrow : rowN a b m i (k + 1) = rowN a b m i k := by rw [rowN, if_neg hm]; rfl
            have HK := Lib.hid hkl; have HI := Lib.hid hlt
            have HR := Lib.hid hrow
            clear hplt hmh h1617 hl1 hl2 hm hrow hk hi hkl hlt
            go_wp2_with fail
            refine SI.out.mono ?_
            rintro e w1 ⟨rfl, hb1⟩
            have HW1 := Lib.hid (HW.out.then hb1)
            clear hb1
            go_wp2
            go_roundw
            case rel => exact ⟨k + 1, by go_num, HK.out, by rw [HR.out]; exact HW1⟩
            case measure => have := HK.out; simp [intOf]; omega
        · obtain rfl : k = 8 := by omega
          have HK := Lib.hid hlt
          clear hlt hi hk hkl
          go_wp2
          go_roundw
          case rel => exact ⟨i + 1, by go_num, HK.out, HW⟩
          case measure => have := HK.out; simp [intOf]; omega
    · obtain rfl : i = 8 := by omega
      have ld : ∀ j, wr.cell? ⟨w.heap.size + 1 + 1 + 1, j, none⟩ = (kcells 17 (colN a b m 8))[j]? := cell_row HW.out.gp
      have st : Sem.run Tryz.prog (storeCells ⟨w.heap.size + 1 + 1, 0, none⟩ (kcells 17 (colN a b m 8)).toList) wr = .ok () (wr.setRow (w.heap.size + 1 + 1) (kcells 17 (colN a b m 8))) := st_k HW.out.gz (kcells_size _ _) (colN a b m 8)
      clear HT
      go_wp2
      exact bodyPost_ret (v := .agg (kcells 17 (colN a b m 8))) (results_cell_row rfl _ _ (w.heap.size + 2) _ _ _ _ rfl (setRow_heap _ _ _ _ _ _ HW.out.gz) Tryz.underlying157 rfl (by rw [kcells_size]; kernel_rfl)) rfl ⟨rfl, below_setRow' HW.out.below (by omega) _⟩
end Go.Proofs.YtegmmaaapdgocaaGreat

/- THE WALKS of package prod, going on: products, squares, products with a limb. -/
namespace Go.Proofs.YtegmmaaapdgocaaGreat
open Go Go.RowKit

theorem isLimbs_k {w : World} {p K n o L cap : Nat} {t : TypeId} (h : w.heap[p]? = some (.cells (kcells K n) t (0, 0))) (hoL : o + L ≤ K) (hc : L ≤ cap) : IsLimbs w (.slice (some ⟨p, o, none⟩) L cap) (n / P2 (64 * o) % P2 (64 * L)) L :=
  ⟨⟨some ⟨p, o, none⟩, cap, rfl, hc, fun _ => ⟨p, o, rfl, lt_of_heap h, fun i hi => by
    rw [cell_row h, kcells_get _ _ _ (by omega), limb_modK _ _ _ hi]
    congr 2
    unfold limb
    rw [Nat.div_div_eq_div_mul, ← P2_mono_mul]⟩⟩, Nat.mod_lt _ (P2_pos _)⟩
theorem since_all (w : World) : Since Tryz.prog 124 #[] w 0 := by
  intro s w' _ _
  rw [decide_eq_true (Nat.zero_le s)]
  show Calls Tryz.prog 124 #[.int .i64 (s : Int)] w' _
  go_enter Tryz.func124, Tryz.ntmps124
  go_wp2
  go_ret
  exact ⟨rfl, Below.refl _ _⟩
theorem enters_all : Enters Tryz.prog 124 := fun args w => by simp [go_sem]
theorem whole_all (a b : Nat) (ha : a < M) (hb : b < M) (w : World) :
    Calls Tryz.prog 123 #[wv a, wv b, .func (.func 124) #[] #[]] w fun e w' => e = .returned (.agg (kcells 17 (a * b))) ∧ Below w.heap.size w w' := by
  have := pwhole_any 124 #[] a b 0 w ha hb enters_all (since_all w)
  rwa [col_all ha hb] at this
theorem M_512 : P2 (64 * 8) = M := M_eq.symm
theorem fits_eq (x : Nat) : (((blen (x / M) : Nat) : Int) == 0) = decide (x < M) := by
  by_cases h : x < M
  · rw [Nat.div_eq_of_lt h, blen_zero, decide_eq_true h]; rfl
  · have h1 : x / M ≠ 0 := by
      have := Nat.div_pos (show M ≤ x by omega) M_pos
      omega
    have := blen_pos h1
    rw [decide_eq_false h]
    simp; omega

theorem ext_block {B : Nat} {w : World} {p : Nat} {o : Obj} (h : w.heap[p]? = some o) (hp : p < B) (x : Ext B w) : x.val.heap[p]? = some o := (x.property.block p hp).trans h

attribute [local go_sem ↓] Go.wp_at_zero Go.wp_at_succ
set_option maxHeartbeats 2000000 in
theorem mul_w (a b : Nat) (ha : a < M) (hb : b < M) (w : World) :
    Calls Tryz.prog 96 #[wv a, wv b] w fun e w' => e = .returned (.tuple #[wv (a * b % M), .bool (decide (a * b < M))]) ∧ Below w.heap.size w w' := by
  have SW := Lib.hid (fun w' => whole_all a b ha hb w')
  have hlt : a * b < P2 (64 * 17) := Nat.lt_of_lt_of_le (prod_lt ha hb) (P2_le (by omega))
  obtain ⟨p, hp⟩ : ∃ p, p = a * b := ⟨_, rfl⟩
  rw [← hp] at SW hlt ⊢
  have SO : Hid (∀ (w' : World) (g : Nat), w'.heap[g]? = some (.cells (kcells 17 p) 157 (0, 0)) → Calls Tryz.prog 106 #[.slice (some ⟨g, 0, none⟩) 8 17] w' fun e w'' => e = .returned (wv (p % M)) ∧ Below w'.heap.size w' w'') := Lib.hid fun w' g h => by
    have := of_w _ _ 8 w' (isLimbs_k h (o := 0) (L := 8) (cap := 17) (by omega) (by omega))
    rwa [P2_00, Nat.div_one, M_512, Nat.mod_mod] at this
  have SL : Hid (∀ (w' : World) (g : Nat), w'.heap[g]? = some (.cells (kcells 17 p) 157 (0, 0)) → Calls Tryz.prog 103 #[.slice (some ⟨g, 8, none⟩) 9 9] w' fun e w'' => e = .returned (.int .i64 (blen (p / M) : Nat)) ∧ Below w'.heap.size w' w'') := Lib.hid fun w' g h => by
    have h1 := isLimbs_k h (o := 8) (L := 9) (cap := 9) (by omega) (by omega)
    have e : p / P2 (64 * 8) % P2 (64 * 9) = p / M := by
      rw [M_512]
      refine Nat.mod_eq_of_lt ?_
      rw [Nat.div_lt_iff_lt_mul M_pos, ← M_512, ← P2_add]
      exact hlt
    rw [e] at h1
    exact (limbLen_any _ _ 9 w' (by omega) h1).mono fun _ _ ⟨h2, h3⟩ => ⟨h2, by rw [h3]; exact Below.refl _ _⟩
  have HF := Lib.hid (fits_eq p)
  obtain ⟨q, hq⟩ : ∃ q, q = p % M := ⟨_, rfl⟩
  obtain ⟨l, hl⟩ : ∃ l, l = blen (p / M) := ⟨_, rfl⟩
  obtain ⟨f, hf⟩ : ∃ f, f = decide (p < M) := ⟨_, rfl⟩
  rw [← hq] at SO ⊢
  rw [← hl] at SL HF
  rw [← hf] at HF ⊢
  clear ha hb hp hlt hq hl hf
  go_enter Tryz.func96, Tryz.ntmps96
  go_wp2_with fail
  have Gz : Hid ((((w.alloc (.cells (wcells a) 24)).alloc (.cells (wcells b) 24)).alloc (.cells (wcells 0) 24)).heap[w.heap.size + 2]? = some (.cells (wcells 0) 24 (0, 0))) := Lib.hid (by rw [alloc_new' _ (by simp)])
  have HB := Lib.hid (below_al (below_al (below_al (Below.refl w.heap.size w) (.cells (wcells a) 24)) (.cells (wcells b) 24)) (.cells (wcells 0) 24))
  refine (SW.out _).mono ?_
  rintro e w1 ⟨rfl, hb⟩
  replace HB := Lib.hid (below_then HB.out hb)
  replace Gz := Lib.hid ((hb.block _ (lt_of_heap Gz.out)).trans Gz.out)
  clear hb
  have HZ := Lib.hid (lt_of_heap Gz.out)
  replace Gz := Lib.hid (keepAl (o' := .cells (kcells 17 p) 157) Gz.out)
  have Gp := Lib.hid (alloc_new (w1) (.cells (kcells 17 p) 157))
  replace HB := Lib.hid (below_al HB.out (.cells (kcells 17 p) 157))
  go_upto_region 2 with fail
  obtain ⟨w2, hw⟩ : ∃ wx, wx = (w1).alloc (.cells (kcells 17 p) 157) := ⟨_, rfl⟩
  rw [← hw] at Gz Gp HB ⊢
  clear hw
  have hfit := HF.out
  refine wp_region_store [⟨w.heap.size + 2, 24, .tmp 11⟩] (by kernel_rfl) (by kernel_rfl) (by kernel_rfl) rfl (List.pairwise_singleton _ _) ?_ ?_
  · intro r hr
    simp only [List.mem_cons, List.not_mem_nil, or_false] at hr
    subst hr
    exact ⟨_, Gz.out, by kernel_rfl⟩
  have xGp := extR_row (B := w2.heap.size) (R := [⟨w.heap.size + 2, 24, .tmp 11⟩]) Gp.out (lt_of_heap Gp.out) (by intro r hr; simp only [List.mem_cons, List.not_mem_nil, or_false] at hr; subst hr <;> dsimp only <;> (have := HZ.out; omega))
  repeat (refine wpCalm_step (fun K hK => ?_); go_simp; first | (refine hK _ ?_; clear hK K) | (apply Exists.intro; refine ⟨fun _ => ?_, hK _ ?_⟩; (first | with_reducible exact SO.out _ _ (extR_block _ Gp.out (lt_of_heap Gp.out) (by simp only [List.mem_singleton, forall_eq]; have := HZ.out; omega)) | with_reducible exact SL.out _ _ (extR_block _ Gp.out (lt_of_heap Gp.out) (by simp only [List.mem_singleton, forall_eq]; have := HZ.out; omega)) | exact SO.out _ _ (extR_block _ Gp.out (lt_of_heap Gp.out) (by simp only [List.mem_singleton, forall_eq]; have := HZ.out; omega)) | exact SL.out _ _ (extR_block _ Gp.out (lt_of_heap Gp.out) (by simp only [List.mem_singleton, forall_eq]; have := HZ.out; omega))); clear hK K))
  refine wpCalm_nil ⟨?_, fun x hx => ?_⟩
  · intro r hr
    simp only [List.mem_cons, List.not_mem_nil, or_false] at hr
    subst hr <;> exact fits_wv (by kernel_rfl) _
  replace Gz : Hid (x.val.heap[w.heap.size + 2]? = some (.cells (wcells (q)) 24 (0, 0))) := Lib.hid (hx ⟨w.heap.size + 2, 24, .tmp 11⟩ (by simp))
  replace Gp := Lib.hid (extR_block x Gp.out (lt_of_heap Gp.out) (by intro r hr; simp only [List.mem_cons, List.not_mem_nil, or_false] at hr; subst hr <;> dsimp only <;> (have := HZ.out; omega)))
  replace HB := Lib.hid (extR_below x HB.out HB.out.size (by intro r hr; simp only [List.mem_cons, List.not_mem_nil, or_false] at hr; subst hr <;> dsimp only <;> (have := HZ.out; omega)))
  clear hx xGp
  obtain ⟨w3, hw⟩ : ∃ wx, wx = x.val := ⟨_, rfl⟩
  rw [← hw] at Gz Gp HB ⊢
  clear hw x
  have c1 := cell_row Gz.out
  go_wp2
  exact bodyPost_ret (v := .tuple #[wv q, .bool f]) (by simp [results, Tryz.results96, go_sem, c1]) rfl ⟨rfl, HB.out⟩
end Go.Proofs.YtegmmaaapdgocaaGreat
