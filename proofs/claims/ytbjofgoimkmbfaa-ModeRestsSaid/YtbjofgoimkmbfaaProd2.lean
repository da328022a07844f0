/- THE WALKS of package prod, going on: the sum of limbs' products. -/
import Derived.Test.YtbjofgoimkmbfaaProd
namespace Go.Proofs.Ytbjofgoimkmbfaa
open Go Go.RowKit

theorem index_w (a i : Nat) (hi : i < 8) (w : World) : (Instr.index 31 (.agg (wcells a)) (.int .i64 i)).run Try.prog w = .ok (.int .u64 (limb a i : Nat)) w := by
  rcases i with _ | _ | _ | _ | _ | _ | _ | _ | i
  all_goals first | omega | kernel_rfl
/-- A function value that tells of each place whether it isn't below m, in whatever world comes of w. -/
def Since (P : Program) (f : FuncId) (caps : Array Value) (w : World) (m : Nat) : Prop :=
  ∀ (s : Nat) (w' : World), s < 15 → Below w.heap.size w w' → Calls P f (#[.int .i64 s] ++ caps) w' fun e w'' => e = .returned (.bool (decide (m ≤ s))) ∧ Below w'.heap.size w' w''

/-- What a round of the walk keeps: the operands, the result's own block, and the product so far. -/
structure Whole (w wr : World) (a b n : Nat) : Prop where
  below : Below w.heap.size w wr
  ga : wr.heap[w.heap.size]? = some (.cells (wcells a) 31 (0, 0))
  gb : wr.heap[w.heap.size + 1]? = some (.cells (wcells b) 31 (0, 0))
  gz : wr.heap[w.heap.size + 2]? = some (.cells (kcells 17 0) 169 (0, 0))
  gp : wr.heap[w.heap.size + 3]? = some (.cells (kcells 17 n) 169 (0, 0))
theorem Whole.then {w wr w2 : World} {a b n : Nat} (h : Whole w wr a b n) (hb : Below wr.heap.size wr w2) : Whole w w2 a b n :=
  ⟨below_then h.below hb, (hb.block _ (lt_of_heap h.ga)).trans h.ga, (hb.block _ (lt_of_heap h.gb)).trans h.gb, (hb.block _ (lt_of_heap h.gz)).trans h.gz, (hb.block _ (lt_of_heap h.gp)).trans h.gp⟩
theorem Whole.put {w wr w2 : World} {a b n n2 : Nat} (h : Whole w wr a b n) (hb : But (· = w.heap.size + 3) wr w2) (hg : w2.heap[w.heap.size + 3]? = some (.cells (kcells 17 n2) 169 (0, 0))) : Whole w w2 a b n2 :=
  ⟨hb.below h.below h.below.size (fun i hi e => by omega), hb.heap h.ga (by omega), hb.heap h.gb (by omega), hb.heap h.gz (by omega), hg⟩

attribute [local go_sem ↓] Go.wp_at_zero Go.wp_at_succ
set_option maxHeartbeats 2000000 in
theorem pwhole_any (f : FuncId) (caps : Array Value) (a b m : Nat) (w : World) (ha : a < M) (hb : b < M) (hcall : Enters Try.prog f) (hT : Since Try.prog f caps w m) :
    Calls Try.prog 151 #[wv a, wv b, .func (.func f) #[] caps] w fun e w' => e = .returned (.agg (kcells 17 (colN a b m 8))) ∧ Below w.heap.size w w' := by
  unfold Enters at hcall
  have HT := Lib.hid hT; have HA := Lib.hid ha; have HBB := Lib.hid hb
  clear hT ha hb
  go_enter Try.func151, Try.ntmps151
  go_wp2
  go_loopw [15] (fun s wr => ∃ i : Nat, s = .int .i64 i ∧ i ≤ 8 ∧ Hid (Whole w wr a b (colN a b m i))) (fun s _ => 8 - (intOf s).toNat)
  case atStart =>
    refine ⟨0, rfl, by omega, Lib.hid ⟨below_al (below_al (below_al (below_al (Below.refl _ _) _) _) _) _, ?_, ?_, ?_, ?_⟩⟩
    · rw [alloc_old _ _ _ (by simp <;> omega), alloc_old _ _ _ (by simp <;> omega), alloc_old _ _ _ (by simp), alloc_new]
    · rw [alloc_old _ _ _ (by simp <;> omega), alloc_old _ _ _ (by simp), alloc_new' _ (by simp)]
    · rw [alloc_old _ _ _ (by simp), alloc_new' _ (by simp)]
    · rw [alloc_new']; · rfl
      simp
  case round =>
    obtain ⟨i, rfl, hi, HW⟩ := hrel
    by_cases hlt : i < 8
    · have cb := cell_row HW.out.gb
      have hix := index_w a i hlt
      have e1 : (i : Int) < 8 := by omega
      go_wp2
      obtain ⟨wo, hwo⟩ : ∃ wo : World, wo = wr := ⟨_, rfl⟩
      rw [← hwo] at HW ⊢
      clear hwo cb hix
      go_loopw [20] (fun s wr => ∃ k : Nat, s = .int .i64 k ∧ k ≤ 8 ∧ Hid (Whole w wr a b (colN a b m i + rowN a b m i k))) (fun s _ => 8 - (intOf s).toNat)
      case atStart => exact ⟨0, rfl, by omega, HW⟩
      case round =>
        obtain ⟨k, rfl, hk, HW⟩ := hrel
        by_cases hkl : k < 8
        · have hix := index_w b k hkl
          have e2 : (k : Int) < 8 := by omega
          have SI : Hid (Calls Try.prog f (#[.int .i64 ((i : Int) + (k : Int))] ++ caps) wr fun e w'' => e = .returned (.bool (decide (m ≤ i + k))) ∧ Below wr.heap.size wr w'') := Lib.hid (by
            have := HT.out (i + k) wr (by omega) HW.out.below
            rwa [Int.natCast_add] at this)
          have hplt := part_lt (m := m) (i := i) (k := k + 1) HA.out HBB.out
          have hmh := mul_halves (limb a i) (limb b k) (i + k)
          have h1617 : P2 (64 * 16) ≤ P2 (64 * 17) := P2_le (by omega)
          have hl1 := limb_lt a i
          have hl2 := limb_lt b k
          by_cases hm : m ≤ i + k
          · rw [decide_eq_true hm] at SI
            have hrow : rowN a b m i (k + 1) = rowN a b m i k + limb a i * limb b k * P2 (64 * (i + k)) := by rw [rowN, if_pos hm]
            have SM := Lib.hid (fun w' => limbMul_any (limb a i) (limb b k) hl1 hl2 w')
            have hhi := mul_high_lt hl1 hl2
            have hlo := Nat.mod_lt (limb a i * limb b k) (P2_pos 64)
            obtain ⟨hiV, hhV⟩ : ∃ x, x = limb a i * limb b k / P2 64 := ⟨_, rfl⟩
            obtain ⟨loV, hlV⟩ : ∃ x, x = limb a i * limb b k % P2 64 := ⟨_, rfl⟩
            rw [← hhV, ← hlV] at SM hmh
            rw [← hhV] at hhi
            rw [← hlV] at hlo
            have hsum : colN a b m i + rowN a b m i (k + 1) = colN a b m i + rowN a b m i k + loV * P2 (64 * (i + k)) + hiV * P2 (64 * (i + k + 1)) := by rw [hrow]; omega
            obtain ⟨N, hN⟩ : ∃ x, x = colN a b m i + rowN a b m i k := ⟨_, rfl⟩
            rw [← hN] at HW hsum
            have SP1 : Hid (∀ w' : World, w'.heap[w.heap.size + 3]? = some (.cells (kcells 17 N) 169 (0, 0)) → Calls Try.prog 191 #[.pointer (some ⟨w.heap.size + 3, 0, none⟩), .int .i64 ((i : Int) + (k : Int)), .int .u64 (loV : Nat)] w' fun e w'' => e = .returned (.tuple #[]) ∧ w''.heap[w.heap.size + 3]? = some (.cells (kcells 17 (N + loV * P2 (64 * (i + k)))) 169 (0, 0)) ∧ But (· = w.heap.size + 3) w' w'') := Lib.hid fun w' h => by
              have := put_any _ (i + k) N loV w' h (by omega) (by omega) hlo
              rwa [Int.natCast_add] at this
            have SP2 : Hid (∀ w' : World, w'.heap[w.heap.size + 3]? = some (.cells (kcells 17 (N + loV * P2 (64 * (i + k)))) 169 (0, 0)) → Calls Try.prog 191 #[.pointer (some ⟨w.heap.size + 3, 0, none⟩), .int .i64 ((i : Int) + (k : Int) + 1), .int .u64 (hiV : Nat)] w' fun e w'' => e = .returned (.tuple #[]) ∧ w''.heap[w.heap.size + 3]? = some (.cells (kcells 17 (colN a b m i + rowN a b m i (k + 1))) 169 (0, 0)) ∧ But (· = w.heap.size + 3) w' w'') := Lib.hid fun w' h => by
              have := put_any _ (i + k + 1) (N + loV * P2 (64 * (i + k))) hiV w' h (by omega) (by omega) hhi
              rw [hsum]
              rwa [Int.natCast_add, Int.natCast_add] at this
            have HK := Lib.hid hkl; have HI := Lib.hid hlt
            clear hplt hmh h1617 hl1 hl2 hm hrow hhi hlo hhV hlV hsum hN hk hi hkl hlt
            go_wp2_with fail
            refine SI.out.mono ?_
            rintro e w1 ⟨rfl, hb1⟩
            have HW1 := Lib.hid (HW.out.then hb1)
            clear hb1
            go_wp2_with fail
            refine (SM.out _).mono ?_
            rintro e w2 ⟨rfl, rfl⟩
            go_wp2_with fail
            refine (SP1.out _ HW1.out.gp).mono ?_
            rintro e w3 ⟨rfl, hg3, hb3⟩
            have HW3 := Lib.hid (HW1.out.put hb3 hg3)
            clear hg3 hb3
            go_wp2_with fail
            refine (SP2.out _ HW3.out.gp).mono ?_
            rintro e w4 ⟨rfl, hg4, hb4⟩
            have HW4 := Lib.hid (HW3.out.put hb4 hg4)
            clear hg4 hb4
            go_wp2
            go_roundw
            case rel => exact ⟨k + 1, by go_num, HK.out, HW4⟩
            case measure => have := HK.out; simp [intOf]; omega
          · rw [decide_eq_false hm] at SI
            have hrow : rowN a b m i (k + 1) = rowN a b m i k := by rw [rowN, if_neg hm]; rfl
            have HK := Lib.hid hkl; have HI := Lib.hid hlt
            have HR := Lib.hid hrow
            clear hplt hmh h1617 hl1 hl2 hm hrow hk hi hkl hlt
            go_wp2_with fail
            refine SI.out.mono ?_
            rintro e w1 ⟨rfl, hb1⟩
            have HW1 := Lib.hid (HW.out.then hb1)
            clear hb1
            go_wp2
            go_roundw
            case rel => exact ⟨k + 1, by go_num, HK.out, by rw [HR.out]; exact HW1⟩
            case measure => have := HK.out; simp [intOf]; omega
        · obtain rfl : k = 8 := by omega
          have HK := Lib.hid hlt
          clear hlt hi hk hkl
          go_wp2
          go_roundw
          case rel => exact ⟨i + 1, by go_num, HK.out, HW⟩
          case measure => have := HK.out; simp [intOf]; omega
    · obtain rfl : i = 8 := by omega
      have ld : ∀ j, wr.cell? ⟨w.heap.size + 1 + 1 + 1, j, none⟩ = (kcells 17 (colN a b m 8))[j]? := cell_row HW.out.gp
      have st : Sem.run Try.prog (storeCells ⟨w.heap.size + 1 + 1, 0, none⟩ (kcells 17 (colN a b m 8)).toList) wr = .ok () (wr.setRow (w.heap.size + 1 + 1) (kcells 17 (colN a b m 8))) := st_k HW.out.gz (kcells_size _ _) (colN a b m 8)
      clear HT
      go_wp2
      exact bodyPost_ret (v := .agg (kcells 17 (colN a b m 8))) (results_cell_row rfl _ _ (w.heap.size + 2) _ _ _ _ rfl (setRow_heap _ _ _ _ _ _ HW.out.gz) Try.underlying169 rfl (by rw [kcells_size]; kernel_rfl)) rfl ⟨rfl, below_setRow' HW.out.below (by omega) _⟩
end Go.Proofs.Ytbjofgoimkmbfaa
