/- THE WALKS of package prod: a limb put into a product. -/
import Derived.Test.YtbjofgoimkmbfaaBits2
import Derived.Test.YtbjofgoimkmbfaaWide4
import Derived.Deep.DeepCutAuto
namespace Go.Proofs.Ytbjofgoimkmbfaa
open Go Go.RowKit

attribute [local go_sem ↓] Go.wp_at_zero Go.wp_at_succ
set_option maxHeartbeats 2000000 in
/-- A limb x is added at place i. -/
theorem put_any (g i n x : Nat) (w : World) (hg : w.heap[g]? = some (.cells (kcells 17 n) 169 (0, 0))) (hi : i < 17) (hn : n + x * P2 (64 * i) < P2 (64 * 17)) (hx : x < P2 64) :
    Calls Try.prog 191 #[.pointer (some ⟨g, 0, none⟩), .int .i64 i, .int .u64 x] w fun e w' => e = .returned (.tuple #[]) ∧ w'.heap[g]? = some (.cells (kcells 17 (n + x * P2 (64 * i))) 169 (0, 0)) ∧ But (· = g) w w' := by
  have e1 : (i : Int) < 17 := by omega
  have e0 : (0 : Int) ≤ (i : Int) := by omega
  have ea : w.drew.cell? ⟨g, i, none⟩ = some (.int .u64 (limb n i : Nat)) := by
    show w.cell? ⟨g, i, none⟩ = _
    rw [cell_row hg, kcells_get _ _ _ hi]
  have G := Lib.hid hg
  have S : Hid (∀ w' : World, Calls Try.prog 148 #[.int .u64 (limb n i), .int .u64 x, .int .u64 0] w' fun e w'' => e = .returned (.tuple #[.int .u64 ((limb n i + x) % P2 64 : Nat), .int .u64 ((limb n i + x) / P2 64 : Nat)]) ∧ Below w'.heap.size w' w'') := Lib.hid fun w' => limbAdd_any (limb n i) x 0 (by omega) w'
  have hc1 : (limb n i + x) / P2 64 ≤ 1 := by
    have := limb_lt n i
    refine Nat.le_of_lt_succ ?_
    rw [Nat.div_lt_iff_lt_mul (P2_pos _)]
    omega
  have hnlt : n < P2 (64 * 17) := by omega
  have hset := setL_lt n i ((limb n i + x) % P2 64) 17 hnlt hi (Nat.mod_lt _ (P2_pos _))
  have hadd := add_setL n i x
  have hks := kcells_set 17 n i ((limb n i + x) % P2 64) hi (Nat.mod_lt _ (P2_pos _))
  obtain ⟨X, hX⟩ : ∃ X, X = (limb n i + x) % P2 64 := ⟨_, rfl⟩
  obtain ⟨c, hc⟩ : ∃ c, c = (limb n i + x) / P2 64 := ⟨_, rfl⟩
  rw [← hX, ← hc] at S hadd
  rw [← hX] at hset hks
  rw [← hc] at hc1
  obtain ⟨N0, hN0⟩ : ∃ N, N = setL n i X := ⟨_, rfl⟩
  rw [← hN0] at hset hadd hks
  obtain ⟨T, hT⟩ : ∃ T, T = n + x * P2 (64 * i) := ⟨_, rfl⟩
  rw [← hT] at hn hadd ⊢
  have HADD := Lib.hid hadd; have HN := Lib.hid hn; have HSET := Lib.hid hset; have HKS := Lib.hid hks; have HC1 := Lib.hid hc1
  have HG := Lib.hid (kcells_get 17 n i hi)
  clear hg hX hc hn hx hadd hset hks hN0 hT hnlt hc1
  go_enter Try.func191, Try.ntmps191
  go_upto_region 1 with fail
  go_cut [6] (fun s6 wx => s6 = .int .u64 c ∧ wx.heap[g]? = some (.cells (kcells 17 N0) 169 (0, 0)) ∧ But (· = g) w wx)
  case first =>
    go_region_with (
      refine (S.out _).mono ?_
      rintro e w2 ⟨rfl, hb2⟩
      have G2 := Lib.hid ((hb2.block _ (lt_of_heap G.out)).trans G.out)
      have HB2 := Lib.hid ((But.refl (· = g) w).drew.trans (But.of_below hb2))
      have cs := cell_row G2.out i
      have fs := free_row G2.out i
      rw [HG.out] at cs
      clear hb2)
    all_goals
      go_wp2
      go_meet
      refine ⟨rfl, ?_, HB2.out.set rfl _ _⟩
      rw [set_row G2.out, HKS.out]
  case rest =>
    obtain ⟨rfl, hg, hbut⟩ := hcut
    have HB := Lib.hid hbut; have G := Lib.hid hg
    clear hg hbut ea
    have HI := Lib.hid hi
    clear hi S
    go_wp2
    obtain ⟨wo, hwo⟩ : ∃ wo : World, wo = wc := ⟨_, rfl⟩
    rw [← hwo] at HB G ⊢
    clear hwo
    go_loopw [1, 6] (fun s1 s6 wr => ∃ j c N : Nat, s1 = .int .i64 j ∧ s6 = .int .u64 c ∧ j ≤ 17 ∧ c ≤ 1 ∧ Hid (N < P2 (64 * 17)) ∧ Hid (N + c * P2 (64 * j) = T) ∧ wr.heap[g]? = some (.cells (kcells 17 N) 169 (0, 0)) ∧ But (· = g) w wr) (fun s1 _ _ => 17 - (intOf s1).toNat)
    case atStart => exact ⟨i + 1, c, N0, by go_num, rfl, by have := HI.out; omega, HC1.out, HSET, HADD, G.out, HB.out⟩
    case round =>
      obtain ⟨j, c, N, rfl, rfl, hj, hc, HNL, HS, hg, hbut⟩ := hrel
      have G := Lib.hid hg; have HB := Lib.hid hbut
      clear hg hbut
      rcases (show c = 0 ∨ c = 1 by omega) with rfl | rfl
      · go_wp2
        go_end0
        refine ⟨rfl, ?_, HB.out⟩
        have := HS.out
        rw [Nat.zero_mul, Nat.add_zero] at this
        rw [← this]
        exact G.out
      · by_cases hj7 : j < 17
        · have e1 : (j : Int) < 17 := by omega
          have e2 : (j : Int) ≤ 16 := by omega
          have e0 : (0 : Int) ≤ (j : Int) := by omega
          have ea : wr.drew.cell? ⟨g, j, none⟩ = some (.int .u64 (limb N j : Nat)) := by
            show wr.cell? ⟨g, j, none⟩ = _
            rw [cell_row G.out, kcells_get _ _ _ hj7]
          have S : Hid (∀ w' : World, Calls Try.prog 148 #[.int .u64 (limb N j), .int .u64 0, .int .u64 ((1 : Nat) : Int)] w' fun e w'' => e = .returned (.tuple #[.int .u64 ((limb N j + 1) % P2 64 : Nat), .int .u64 ((limb N j + 1) / P2 64 : Nat)]) ∧ Below w'.heap.size w' w'') := Lib.hid fun w' => by
            have := limbAdd_any (limb N j) 0 1 (by omega) w'
            rwa [Nat.add_zero] at this
          have hc1 : (limb N j + 1) / P2 64 ≤ 1 := by
            have := limb_lt N j
            refine Nat.le_of_lt_succ ?_
            rw [Nat.div_lt_iff_lt_mul (P2_pos _)]
            omega
          have hset := setL_lt N j ((limb N j + 1) % P2 64) 17 HNL.out hj7 (Nat.mod_lt _ (P2_pos _))
          have hadd := add_setL N j 1
          have hks := kcells_set 17 N j ((limb N j + 1) % P2 64) hj7 (Nat.mod_lt _ (P2_pos _))
          have HG := Lib.hid (kcells_get 17 N j hj7)
          obtain ⟨X, hX⟩ : ∃ X, X = (limb N j + 1) % P2 64 := ⟨_, rfl⟩
          obtain ⟨c2, hc2⟩ : ∃ c, c = (limb N j + 1) / P2 64 := ⟨_, rfl⟩
          rw [← hX, ← hc2] at S hadd
          rw [← hX] at hset hks
          rw [← hc2] at hc1
          obtain ⟨N2, hN2⟩ : ∃ M, M = setL N j X := ⟨_, rfl⟩
          rw [← hN2] at hset hadd hks
          have HADD2 := Lib.hid (hadd.trans HS.out); have HSET2 := Lib.hid hset; have HKS := Lib.hid hks; have HC2 := Lib.hid hc1
          have HJ := Lib.hid hj7
          clear hX hc2 hadd hset hks hN2 hc1 hj7 hj
          go_wp2_with fail
          go_region_with (
            refine (S.out _).mono ?_
            rintro e w2 ⟨rfl, hb2⟩
            have G2 := Lib.hid ((hb2.block _ (lt_of_heap G.out)).trans G.out)
            have HB2 := Lib.hid (HB.out.drew.trans (But.of_below hb2))
            have cs := cell_row G2.out j
            have fs := free_row G2.out j
            rw [HG.out] at cs
            clear hb2)
          all_goals
            go_wp2
            go_roundw
            case rel =>
              refine ⟨j + 1, c2, N2, by go_num, rfl, HJ.out, HC2.out, HSET2, HADD2, ?_, HB2.out.set rfl _ _⟩
              rw [set_row G2.out, HKS.out]
            case measure => have := HJ.out; simp [intOf]; omega
        · obtain rfl : j = 17 := by omega
          have h1 := HS.out
          have h2 := HN.out
          exact absurd h1 (by omega)
end Go.Proofs.Ytbjofgoimkmbfaa
