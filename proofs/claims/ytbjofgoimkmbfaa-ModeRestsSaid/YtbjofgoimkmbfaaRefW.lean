/- THE WALKS of the reference's numbers of wides: package radicandref02. -/
import Derived.Test.YtbjofgoimkmbfaaRef6
import Derived.Test.YtbjofgoimkmbfaaWide2
namespace Go.Proofs.Ytbjofgoimkmbfaa
open Go Go.RowKit

theorem isBig_nil (w : World) (a : Option Addr) (c : Nat) : IsBig w (.slice a 0 c) 0 :=
  ⟨0, ⟨⟨a, c, rfl, Nat.zero_le _, fun h => absurd h (by omega)⟩, P2_pos _⟩, fun h => absurd rfl h⟩
theorem GivesBig.mono' {n : Nat} {W w w' : World} {e : Ending} (hb : Below W.heap.size W w) (h : GivesBig n w e w') : GivesBig n W e w' := by
  obtain ⟨r, h1, h2, h3⟩ := h
  exact ⟨r, h1, h2, below_then hb h3⟩
/-- One limb more. -/
theorem limb_step (a i : Nat) : a % P2 (64 * i) + limb a i * P2 (64 * i) = a % P2 (64 * (i + 1)) := by
  unfold limb
  have e : P2 (64 * (i + 1)) = P2 (64 * i) * P2 64 := by rw [← P2_add]; congr 1
  rw [e, Nat.mod_mul, Nat.mul_comm (P2 (64 * i))]
theorem mod_small (a i : Nat) (ha : a < M) : a % P2 (64 * i) < BIG := small_M (Nat.lt_of_le_of_lt (Nat.mod_le _ _) ha)
theorem limb_small (a i : Nat) : limb a i < BIG := small_of (limb_lt a i) (by omega)
theorem limb_shl_small (a i : Nat) (hi : i ≤ 8) : limb a i * P2 (64 * i) < BIG := by
  have h : limb a i * P2 (64 * i) < P2 64 * P2 (64 * i) := Nat.mul_lt_mul_of_pos_right (limb_lt a i) (P2_pos _)
  rw [← P2_add] at h
  exact small_of h (by omega)

set_option maxHeartbeats 1000000 in
theorem big_any (a : Nat) (ha : a < M) (w : World) : Calls Try.prog 44 #[wv a] w (GivesBig a w) := by
  have HA := Lib.hid ha
  clear ha
  go_enter Try.func44, Try.ntmps44
  go_wp2
  go_loopw [3, 4] (fun v s wr => ∃ i : Nat, i ≤ 8 ∧ s = .int .i64 i ∧ IsBig wr v (a % P2 (64 * i)) ∧ wr.heap[w.heap.size]? = some (.cells (wcells a) 31 (0, 0)) ∧ Below w.heap.size w wr) (fun _ s _ => 8 - (intOf s).toNat)
  case atStart =>
    refine ⟨0, by omega, rfl, by rw [show 64 * 0 = 0 from rfl, P2_0, Nat.mod_one]; exact isBig_nil _ _ _, ?_, ((Below.refl _ _).alloc (Nat.le_refl _) _).alloc (by simp) _⟩
    rw [alloc_old _ _ _ (by simp), alloc_new]
  case round =>
    obtain ⟨i, hi, rfl, hr, hg, hbel⟩ := hrel
    by_cases hlt : i < 8
    · have hc := cell_row hg i
      rw [wcells_get a i hlt] at hc
      have hl := limb_le a i
      have HR := Lib.hid hr; have HG := Lib.hid hg; have HB := Lib.hid hbel
      have hz := hbel.size
      have S1 := Lib.hid (fun w' => small_any (limb a i) w' hl)
      have S2 : Hid (∀ (v : Value) (w' : World), IsBig w' v (limb a i) → Calls Try.prog 61 #[v, .int .i64 (64 * (i : Int))] w' (GivesBig (limb a i * P2 (64 * i)) w')) := Lib.hid fun v w' h => by
        have := rshl_any v (limb a i) (64 * i) w' (limb_small a i) (by omega) h
        rw [Int.natCast_mul] at this
        exact this
      have S3 : Hid (∀ (v v2 : Value) (w' : World), IsBig w' v (a % P2 (64 * i)) → IsBig w' v2 (limb a i * P2 (64 * i)) → Calls Try.prog 74 #[v, v2] w' (GivesBig (a % P2 (64 * (i + 1))) w')) := Lib.hid fun v v2 w' h h2 => by
        have := add_any v v2 _ _ w' (mod_small a i HA.out) (limb_shl_small a i hi) h h2
        rwa [limb_step] at this
      clear hr hg hbel
      go_wp2_with fail
      refine (S1.out _).mono ?_
      rintro e w1 ⟨r1, rfl, hr1, hb1⟩
      have HR1 := Lib.hid (HR.out.below hb1)
      have HG1 := Lib.hid ((hb1.block _ (lt_of_heap HG.out)).trans HG.out)
      have HB1 := Lib.hid (below_then HB.out hb1)
      have HV1 := Lib.hid hr1
      clear hr1 hb1
      go_wp2_with fail
      refine (S2.out _ _ HV1.out).mono ?_
      rintro e w2 ⟨r2, rfl, hr2, hb2⟩
      have HR2 := Lib.hid (HR1.out.below hb2)
      have HG2 := Lib.hid ((hb2.block _ (lt_of_heap HG1.out)).trans HG1.out)
      have HB2 := Lib.hid (below_then HB1.out hb2)
      have HV2 := Lib.hid hr2
      clear hr2 hb2
      go_wp2_with fail
      refine (S3.out _ _ _ HR2.out HV2.out).mono ?_
      rintro e w3 ⟨r3, rfl, hr3, hb3⟩
      have HG3 := Lib.hid ((hb3.block _ (lt_of_heap HG2.out)).trans HG2.out)
      have HB3 := Lib.hid (below_then HB2.out hb3)
      have HV3 := Lib.hid hr3
      clear hr3 hb3
      go_wp2
      go_roundw
      case rel => exact ⟨i + 1, by omega, by go_num, HV3.out, HG3.out, HB3.out⟩
      case measure => simp [intOf]; omega
    · obtain rfl : i = 8 := by omega
      have HR := Lib.hid hr; have HB := Lib.hid hbel
      clear hr hg hbel
      go_wp2
      go_ret
      refine ⟨_, rfl, ?_, HB.out⟩
      have h := HR.out
      rw [show 64 * 8 = 512 from rfl, Nat.mod_eq_of_lt (by have := HA.out; rw [M_eq] at this; exact this)] at h
      exact h
end Go.Proofs.Ytbjofgoimkmbfaa
