/- THE WALKS of package wide, going on: shifted down with the sign. -/
import Derived.Test.YtffengboblekpaaDoorK4
import Derived.Test.YtffengboblekpaaDoorK2
namespace Go.Proofs.YtffengboblekpaaDoor
open Go Go.RowKit

/-- Shifted down with a sign. -/
def sarN (a c : Nat) : Nat := a / P2 c + (if P2 511 ≤ a then M - P2 (512 - c) else 0)
theorem M_split {c : Nat} (h : c ≤ 512) : M = P2 c * P2 (512 - c) := by rw [M_eq, ← P2_add]; congr 1; omega
theorem M_half : P2 511 + P2 511 = M := M_half2
theorem sarN_pos {a c : Nat} (h : ¬ P2 511 ≤ a) : sarN a c = a / P2 c := by unfold sarN; rw [if_neg h]; rfl
theorem ones_bit (K j : Nat) : (P2 K - 1).testBit j = decide (j < K) := by rw [P2_eq, Nat.testBit_two_pow_sub_one]
theorem high_bit' (a K e j : Nat) (ha : a < P2 e) : (a + P2 e * K).testBit j = if j < e then a.testBit j else K.testBit (j - e) := by
  rw [P2_eq] at *
  rw [Nat.add_comm, Nat.testBit_two_pow_mul_add _ ha]
theorem high_bit (a K j : Nat) (ha : a < M) : (a + M * K).testBit j = if j < 512 then a.testBit j else K.testBit (j - 512) := by
  rw [M_eq] at *
  exact high_bit' a K 512 j ha
theorem sar_limb (a c i : Nat) (ha : a < M) (hn : P2 511 ≤ a) (hc : c ≤ 512) (hi : i < 8) : shrN a ((c : Int) / 64) ((c : Int) % 64) i (P2 64 - 1) = limb (sarN a c) i := by
  have h := shrN_limb a (a + M * (P2 640 - 1)) (c / 64) (c % 64) i (P2 64 - 1) (by omega) hi (fun x hx => by rw [high_bit _ _ _ ha, if_pos hx])
    (fun x h1 h2 => by
      rw [high_bit _ _ _ ha, if_neg (by omega), ones_bit, ones_bit]
      have e1 : x - 512 < 640 := by omega
      have e2 : x % 64 < 64 := Nat.mod_lt _ (by decide)
      simp [e1, e2]) (by omega) (by have := P2_pos 64; omega)
  rw [show 64 * (c / 64) + c % 64 = c by omega, show ((c / 64 : Nat) : Int) = (c : Int) / 64 by omega, show ((c % 64 : Nat) : Int) = (c : Int) % 64 by omega] at h
  rw [h, ← limb_mod _ _ hi, ← limb_mod (sarN a c) _ hi]
  congr 1
  unfold sarN
  rw [if_pos hn]
  have hm := M_split hc
  have hpc := P2_pos c
  have h1 : (a + M * (P2 640 - 1)) / P2 c = a / P2 c + P2 (512 - c) * (P2 640 - 1) := by
    have : M * (P2 640 - 1) = P2 c * (P2 (512 - c) * (P2 640 - 1)) := by rw [← Nat.mul_assoc, ← hm]
    rw [this, Nat.add_mul_div_left _ _ hpc]
  have h2 : P2 (512 - c) * P2 640 = M * P2 (640 - c) := by rw [M_eq, ← P2_add, ← P2_add]; congr 1; omega
  have h3 : P2 (512 - c) ≤ M := by rw [M_eq]; exact P2_le (by omega)
  have h4 : P2 (512 - c) * (P2 640 - 1) = (M - P2 (512 - c)) + M * (P2 (640 - c) - 1) := by
    have hp := P2_pos (640 - c)
    have hp2 := P2_pos 640
    rw [Nat.mul_sub, Nat.mul_one, h2, Nat.mul_sub, Nat.mul_one]
    have h5 : M ≤ M * P2 (640 - c) := Nat.le_mul_of_pos_right _ hp
    omega
  rw [h1, h4, ← Nat.add_assoc, Nat.add_mul_mod_self_left]

set_option maxHeartbeats 1000000 in
theorem sar_w (a : Nat) (ha : a < M) (n : Int) (w : World) (h1 : -9223372036854775808 ≤ n) (h2 : n ≤ 9223372036854775807) :
    Calls Tryd.prog 84 #[wv a, .int .i64 n] w fun e w' => e = .returned (wv (sarN a (clampN n))) ∧ Below w.heap.size w w' := by
  have hc := clampN_le n
  have S0 := Lib.hid (fun w' => minus_w a ha w')
  have S1 := Lib.hid (fun w' => clamp_any n w' h1 h2)
  have hB0 : Below w.heap.size w ((w.alloc (.cells (wcells a) 24)).alloc (.cells (wcells 0) 24)) := below_al (below_al (Below.refl _ _) _) _
  have G0 : Hid (((w.alloc (.cells (wcells a) 24)).alloc (.cells (wcells 0) 24)).heap[w.heap.size]? = some (.cells (wcells a) 24 (0, 0))) := Lib.hid (by rw [alloc_old _ _ _ (by simp), alloc_new])
  have G1 : Hid (((w.alloc (.cells (wcells a) 24)).alloc (.cells (wcells 0) 24)).heap[w.heap.size + 1]? = some (.cells (wcells 0) 24 (0, 0))) := Lib.hid (by rw [alloc_new' _ (by simp)])
  have HB0 := Lib.hid hB0
  clear hB0
  by_cases hneg : P2 511 ≤ a
  · have hd : decide (P2 511 ≤ a) = true := decide_eq_true hneg
    rw [hd] at S0
    have S2 : Hid (∀ w' : World, Calls Tryd.prog 75 #[wv a, .int .i64 (clampN n : Nat), .int .u64 18446744073709551615] w' fun e w'' => e = .returned (wv (sarN a (clampN n))) ∧ Below w'.heap.size w' w'') := Lib.hid fun w' => by
      have := down_any a (clampN n) (P2 64 - 1) (sarN a (clampN n)) hc (by have := P2_pos 64; omega) (fun i hi => sar_limb a _ i ha hneg hc hi) w'
      rw [P2_64] at this
      exact this
    clear ha hneg hd
    go_enter Tryd.func84, Tryd.ntmps84
    go_wp2_with fail
    refine (S0.out _).mono ?_
    rintro e w1 ⟨rfl, hb⟩
    have HB1 := Lib.hid (below_then HB0.out hb)
    have G0 := Lib.hid ((hb.block _ (lt_of_heap G0.out)).trans G0.out)
    have G1 := Lib.hid ((hb.block _ (lt_of_heap G1.out)).trans G1.out)
    clear hb
    have hz := lt_of_heap G1.out
    go_wp2_with fail
    refine wp_region_store [⟨w.heap.size + 1, 24, .tmp 10⟩] (by kernel_rfl) (by kernel_rfl) (by kernel_rfl) rfl (by simp) ?_ ?_
    · intro r hr
      simp only [List.mem_singleton] at hr
      subst hr
      exact ⟨_, G1.out, by kernel_rfl⟩
    have e0 := extR_row (B := w1.heap.size) (R := [⟨w.heap.size + 1, 24, .tmp 10⟩]) G0.out (lt_of_heap G0.out) (by simp)
    repeat (refine wpCalm_step (fun K hK => ?_); go_simp; first | (refine hK _ ?_; clear hK K) | (apply Exists.intro; refine ⟨fun _ => ?_, hK _ ?_⟩; (first | exact S1.out _ | exact S2.out _); clear hK K))
    refine wpCalm_nil ⟨?_, fun x hx => ?_⟩
    · intro r hr
      simp only [List.mem_singleton] at hr
      subst hr
      exact fits_wv (by kernel_rfl) _
    have gx : x.val.heap[w.heap.size + 1]? = some (.cells (wcells (sarN a (clampN n))) 24 (0, 0)) := hx ⟨w.heap.size + 1, 24, .tmp 10⟩ (List.mem_singleton.2 rfl)
    have hBx := Lib.hid (extR_below x HB1.out (by omega) (by simp))
    have GX := Lib.hid gx
    clear gx hx e0
    go_wp2
    exact bodyPost_ret (v := wv _) (results_cell_row rfl _ _ (w.heap.size + 1) _ _ _ _ rfl GX.out Tryd.underlying24 rfl (by kernel_rfl)) rfl ⟨rfl, hBx.out⟩
  · have hd : decide (P2 511 ≤ a) = false := decide_eq_false hneg
    rw [hd] at S0
    have S2 : Hid (∀ w' : World, Calls Tryd.prog 75 #[wv a, .int .i64 (clampN n : Nat), .int .u64 0] w' fun e w'' => e = .returned (wv (sarN a (clampN n))) ∧ Below w'.heap.size w' w'') := Lib.hid fun w' => by
      rw [sarN_pos hneg]
      exact down_any a (clampN n) 0 (a / P2 (clampN n)) hc (P2_pos _) (fun i hi => shrN_zero a (clampN n) i ha hc hi) w'
    clear ha hneg hd
    go_enter Tryd.func84, Tryd.ntmps84
    go_wp2_with fail
    refine (S0.out _).mono ?_
    rintro e w1 ⟨rfl, hb⟩
    have HB1 := Lib.hid (below_then HB0.out hb)
    have G0 := Lib.hid ((hb.block _ (lt_of_heap G0.out)).trans G0.out)
    have G1 := Lib.hid ((hb.block _ (lt_of_heap G1.out)).trans G1.out)
    clear hb
    have hz := lt_of_heap G1.out
    go_wp2_with fail
    refine wp_region_store [⟨w.heap.size + 1, 24, .tmp 14⟩] (by kernel_rfl) (by kernel_rfl) (by kernel_rfl) rfl (by simp) ?_ ?_
    · intro r hr
      simp only [List.mem_singleton] at hr
      subst hr
      exact ⟨_, G1.out, by kernel_rfl⟩
    have e0 := extR_row (B := w1.heap.size) (R := [⟨w.heap.size + 1, 24, .tmp 14⟩]) G0.out (lt_of_heap G0.out) (by simp)
    repeat (refine wpCalm_step (fun K hK => ?_); go_simp; first | (refine hK _ ?_; clear hK K) | (apply Exists.intro; refine ⟨fun _ => ?_, hK _ ?_⟩; (first | exact S1.out _ | exact S2.out _); clear hK K))
    refine wpCalm_nil ⟨?_, fun x hx => ?_⟩
    · intro r hr
      simp only [List.mem_singleton] at hr
      subst hr
      exact fits_wv (by kernel_rfl) _
    have gx : x.val.heap[w.heap.size + 1]? = some (.cells (wcells (sarN a (clampN n))) 24 (0, 0)) := hx ⟨w.heap.size + 1, 24, .tmp 14⟩ (List.mem_singleton.2 rfl)
    have hBx := Lib.hid (extR_below x HB1.out (by omega) (by simp))
    have GX := Lib.hid gx
    clear gx hx e0
    go_wp2
    exact bodyPost_ret (v := wv _) (results_cell_row rfl _ _ (w.heap.size + 1) _ _ _ _ rfl GX.out Tryd.underlying24 rfl (by kernel_rfl)) rfl ⟨rfl, hBx.out⟩
end Go.Proofs.YtffengboblekpaaDoor
