/- SEVERAL TEXTS of the seat, one behind the other: each says at its head what it proves. -/
import Derived.Test.YtegmmaaapdgocaaGreatK24
import Derived.Test.YtegmmaaapdgocaaGreatK14
/- THE WALKS of the reference of rom; of the laws on rom: the document's example, what each table has of any place. -/
namespace Go.Proofs.YtegmmaaapdgocaaGreat
open Go Go.RowKit

attribute [local go_sem ↓] Go.wp_at_zero Go.wp_at_succ
theorem rrecip_any (i : Int) (w : World) : Calls Tryz.prog 79 #[.int .i64 i] w fun e w' => e = .returned (.tuple #[.int .u64 (recipV i : Nat), .bool (recipB i)]) ∧ Below w.heap.size w w' := by
  have HB := Lib.hid (Below.refl w.heap.size w)
  by_cases h0 : i < 0
  · rw [show recipV i = 0 by unfold recipV; rw [if_neg (by omega)], show recipB i = false by unfold recipB; rw [decide_eq_false (show ¬ 0 ≤ i by omega)]; rfl]
    go_enter Tryz.func79, Tryz.ntmps79
    go_wp2
    go_ret2
    exact ⟨rfl, HB.out⟩
  by_cases h1 : 63 < i
  · rw [show recipV i = 0 by unfold recipV; rw [if_neg (by omega)], show recipB i = false by unfold recipB; rw [decide_eq_false (show ¬ i < 64 by omega), Bool.and_false]]
    go_enter Tryz.func79, Tryz.ntmps79
    go_wp2
    go_ret2
    exact ⟨rfl, HB.out⟩
  · obtain ⟨k, rfl⟩ := Int.eq_ofNat_of_zero_le (show 0 ≤ i by omega)
    have hk : k < 64 := by omega
    have e1 : recipV (k : Int) = rcpN k := by unfold recipV; rw [if_pos (by omega)]; rfl
    have e2 : recipB (k : Int) = true := by unfold recipB; rw [decide_eq_true (show (0 : Int) ≤ (k : Int) by omega), decide_eq_true (show (k : Int) < 64 by omega)]; rfl
    rw [e1, e2]
    have hv : (131072 : Int) / (129 + 2 * (k : Int)) = ((rcpN k : Nat) : Int) := by unfold rcpN; rw [Int.natCast_ediv, show ((129 + 2 * k : Nat) : Int) = 129 + 2 * (k : Int) by omega]; rfl
    have hle : rcpN k ≤ 131072 := by unfold rcpN; exact Nat.div_le_self _ _
    obtain ⟨v, hve⟩ : ∃ v, v = rcpN k := ⟨_, rfl⟩
    rw [← hve] at hv hle ⊢
    have hw : IntKind.u64.wrap (v : Int) = (v : Int) := by rw [u64wrap]; omega
    have hki : (k : Int) < 64 := by omega
    clear e1 e2 hve hle hk
    go_enter Tryz.func79, Tryz.ntmps79
    go_wp2
    go_ret2
    exact ⟨rfl, HB.out⟩
theorem half_step (rt q j K : Nat) (hq : ∀ k, k ≤ rt ↔ k * k ≤ q) (hK : K = P2 j) :
    rt / P2 j * P2 j = if (rt / P2 (j + 1) * P2 (j + 1) + K) * (rt / P2 (j + 1) * P2 (j + 1) + K) ≤ q then rt / P2 (j + 1) * P2 (j + 1) + K else rt / P2 (j + 1) * P2 (j + 1) := by
  have hg := greedy rt j
  rw [hg, hK]
  by_cases h : rt / P2 (j + 1) * P2 (j + 1) + P2 j ≤ rt
  · rw [if_pos h, if_pos ((hq _).1 h)]
  · rw [if_neg h, if_neg (fun hh => h ((hq _).2 hh))]
set_option maxRecDepth 100000 in
set_option maxHeartbeats 1000000 in
theorem rroot17_any (i : Int) (w : World) : Calls Tryz.prog 72 #[.int .i64 i] w fun e w' => e = .returned (.tuple #[.int .u64 (rootV i : Nat), .bool (rootB i)]) ∧ Below w.heap.size w w' := by
  have HB := Lib.hid (Below.refl w.heap.size w)
  by_cases h0 : i < 32
  · rw [show rootV i = 0 by unfold rootV; rw [if_neg (by omega)], show rootB i = false by unfold rootB; rw [decide_eq_false (show ¬ 32 ≤ i by omega)]; rfl]
    go_enter Tryz.func72, Tryz.ntmps72
    go_wp2
    go_ret2
    exact ⟨rfl, HB.out⟩
  by_cases h1 : 127 < i
  · rw [show rootV i = 0 by unfold rootV; rw [if_neg (by omega)], show rootB i = false by unfold rootB; rw [decide_eq_false (show ¬ i < 128 by omega), Bool.and_false]]
    go_enter Tryz.func72, Tryz.ntmps72
    go_wp2
    go_ret2
    exact ⟨rfl, HB.out⟩
  · obtain ⟨k, hk⟩ : ∃ k : Nat, k = (i - 32).toNat := ⟨_, rfl⟩
    have e1 : rootV i = rtgN k := by unfold rootV; rw [if_pos (by omega), hk]
    have e2 : rootB i = true := by unfold rootB; rw [decide_eq_true (show (32 : Int) ≤ i by omega), decide_eq_true (show i < 128 by omega)]; rfl
    rw [e1, e2]
    have hq : 67108864 / (2 * (k + 32) + 1) ≤ 1100000 := by
      have := Nat.div_le_div_left (show 65 ≤ 2 * (k + 32) + 1 by omega) (by decide) (a := 67108864)
      omega
    have hv : (67108864 : Int) / (2 * i + 1) = ((67108864 / (2 * (k + 32) + 1) : Nat) : Int) := by rw [Int.natCast_ediv, show ((2 * (k + 32) + 1 : Nat) : Int) = 2 * i + 1 by omega]; rfl
    unfold rtgN
    have hrs := rt_small hq
    obtain ⟨q, hqe⟩ : ∃ q, q = 67108864 / (2 * (k + 32) + 1) := ⟨_, rfl⟩
    rw [← hqe] at hq hv hrs ⊢
    have HQ := Lib.hid (fun k => sq_le q k)
    obtain ⟨r, hr⟩ : ∃ r, r = rtN 2 q := ⟨_, rfl⟩
    rw [← hr] at HQ hrs ⊢
    have HRS := Lib.hid hrs
    have HV0 := Lib.hid hv
    have hii : i < 128 := by omega
    have hi0 : 32 ≤ i := by omega
    have h13 : r / P2 13 * P2 13 = 0 := by rw [Nat.div_eq_of_lt (show r < P2 13 by rw [show P2 13 = 8192 by rw [P2_eq]]; omega), Nat.zero_mul]
    have H13 := Lib.hid h13
    clear hk e1 e2 hq hqe hr hrs h13 hv
    go_enter Tryz.func72, Tryz.ntmps72
    go_upto_region 3 with fail
    have hv := HV0.out
    go_wp2
    go_loop [5, 6] (fun s5 s6 => ∃ (j K : Nat), s6 = .int .i64 (K : Int) ∧ Hid (j ≤ 13) ∧ Hid ((j = 0 → K = 0) ∧ (1 ≤ j → K = P2 (j - 1))) ∧ s5 = .int .i64 ((r / P2 j * P2 j : Nat) : Int)) (fun _ s6 => (intOf s6).toNat)
    case atStart => exact ⟨13, 4096, rfl, Lib.hid (Nat.le_refl _), Lib.hid ⟨(fun h => by cases h), (fun _ => by rw [P2_eq])⟩, by rw [H13.out]; rfl⟩
    case round =>
      obtain ⟨j, K, rfl, HJ, HK, rfl⟩ := hrel
      have hs : r / P2 j * P2 j ≤ r := Nat.div_mul_le_self _ _
      rcases j with _ | j
      · have hK0 := HK.out.1 rfl
        subst hK0
        have hr0 : r / P2 0 * P2 0 = r := by rw [P2_0, Nat.div_one, Nat.mul_one]
        rw [hr0]
        have hri : (r : Int) ≤ 1100 := by have := HRS.out; omega
        have hw : IntKind.u64.wrap (r : Int) = (r : Int) := by rw [u64wrap]; omega
        clear hs hr0 HK HJ
        go_wp2
        go_ret2
        exact ⟨rfl, HB.out⟩
      · have hKj := HK.out.2 (by omega)
        rw [Nat.add_sub_cancel] at hKj
        have hKl : K ≤ 4096 := by rw [hKj, show (4096 : Nat) = P2 12 by rw [P2_eq]]; exact P2_le (by have := HJ.out; omega)
        have hKp : 0 < K := by rw [hKj]; exact P2_pos _
        have HST := Lib.hid (half_step r q j K HQ.out hKj)
        obtain ⟨s, hse⟩ : ∃ s, s = r / P2 (j + 1) * P2 (j + 1) := ⟨_, rfl⟩
        rw [← hse] at HST hs ⊢
        have hK2 : Hid ((j = 0 → K / 2 = 0) ∧ (1 ≤ j → K / 2 = P2 (j - 1))) := Lib.hid ⟨(fun h => by rw [hKj, h, P2_0]), fun h => by
          obtain ⟨i, rfl⟩ : ∃ i, j = i + 1 := ⟨j - 1, by omega⟩
          rw [hKj, P2_twice, Nat.add_sub_cancel]
          exact Nat.mul_div_cancel _ (by decide)⟩
        have hP : (s + K) * (s + K) ≤ 5196 * 5196 := Nat.mul_le_mul (by have := HRS.out; omega) (by have := HRS.out; omega)
        obtain ⟨p, hp⟩ : ∃ p : Nat, p = (s + K) * (s + K) := ⟨_, rfl⟩
        rw [← hp] at HST hP
        have hpi : ((s : Int) + (K : Int)) * ((s : Int) + (K : Int)) = (p : Int) := by rw [hp]; push_cast; rfl
        have hsi : (s : Int) ≤ 1100 := by have := HRS.out; omega
        have hKi : (K : Int) ≤ 4096 := by omega
        have hKi0 : (0 : Int) < (K : Int) := by omega
        have hsi0 : (0 : Int) ≤ (s : Int) := Int.natCast_nonneg _
        have hpi2 : (p : Int) ≤ 30000000 := by omega
        have HJ2 : Hid (j ≤ 13) := Lib.hid (by have := HJ.out; omega)
        have HKP := Lib.hid hKp
        by_cases hlt : p ≤ q
        · have HV : Hid (r / P2 j * P2 j = s + K) := Lib.hid (by rw [HST.out, if_pos hlt])
          have hli : (p : Int) ≤ (q : Int) := by omega
          clear hp hP hlt hse hs hKj hKl hKp HK HJ HST
          go_wp2
          go_round
          case rel => exact ⟨j, K / 2, by go_num, HJ2, hK2, by rw [HV.out]; go_num⟩
          case measure => have := HKP.out; simp [intOf]; omega
        · have HV : Hid (r / P2 j * P2 j = s) := Lib.hid (by rw [HST.out, if_neg hlt])
          have hli : ¬ (p : Int) ≤ (q : Int) := by omega
          clear hp hP hlt hse hs hKj hKl hKp HK HJ HST
          go_wp2
          go_round
          case rel => exact ⟨j, K / 2, by go_num, HJ2, hK2, by rw [HV.out]⟩
          case measure => have := HKP.out; simp [intOf]; omega
end Go.Proofs.YtegmmaaapdgocaaGreat

/- THE WALKS of the laws on rom: the document's example; what each table has of any place. -/
namespace Go.Proofs.YtegmmaaapdgocaaGreat
open Go Go.RowKit

theorem rtg_0 : rtgN 0 = 1016 := by
  unfold rtgN
  exact rt_unique (by decide) (by decide)
theorem rootV_32 : rootV 32 = 1016 := by
  unfold rootV
  rw [if_pos (by decide), show ((32 : Int) - 32).toNat = 0 from rfl, rtg_0]
attribute [local go_sem ↓] Go.wp_at_zero Go.wp_at_succ
end Go.Proofs.YtegmmaaapdgocaaGreat
