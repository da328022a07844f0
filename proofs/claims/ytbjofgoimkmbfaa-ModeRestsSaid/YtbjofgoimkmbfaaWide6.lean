/- THE WALKS of package wide, going on: a digit, the sign, shifted down with it. -/
import Derived.Test.YtbjofgoimkmbfaaWide5
namespace Go.Proofs.Ytbjofgoimkmbfaa
open Go Go.RowKit

theorem M_half2 : P2 511 + P2 511 = M := by rw [M_eq, show 512 = 511 + 1 from rfl, P2_add, show P2 1 = 2 by rw [P2_eq]]; omega
def limbAtN (n : Nat) (i : Int) : Nat := if i < 0 then 0 else limb n i.toNat
set_option maxHeartbeats 400000 in
theorem limbAt_any (v : Value) (n L : Nat) (i : Int) (w : World) (h1 : -9223372036854775808 ≤ i) (h2 : i ≤ 9223372036854775807) (hv : IsLimbs w v n L) :
    Calls Try.prog 184 #[v, .int .i64 i] w fun e w' => e = .returned (.int .u64 (limbAtN n i : Nat)) ∧ w' = w := by
  obtain ⟨⟨a, cap, rfl, hc, hx⟩, hl⟩ := hv
  by_cases hi : i < 0
  · clear hx hl
    go_enter Try.func184, Try.ntmps184
    go_wp2
    go_ret
    exact ⟨ret_int (by unfold limbAtN; rw [if_pos hi]; rfl), rfl⟩
  obtain ⟨k, rfl⟩ := Int.eq_ofNat_of_zero_le (by omega : 0 ≤ i)
  have he : limbAtN n (k : Int) = limb n k := by unfold limbAtN; rw [if_neg hi]; rfl
  by_cases hk : L ≤ k
  · have hd := limb_gone n k L hl hk
    have HD := Lib.hid hd; have HE := Lib.hid he
    clear hx hl hd he
    go_enter Try.func184, Try.ntmps184
    go_wp2
    all_goals (go_ret; exact ⟨ret_int (by rw [HE.out, HD.out]; rfl), rfl⟩)
  · obtain ⟨b, o, rfl, hb, hcell⟩ := hx (by omega)
    have hk' : k < L := by omega
    have hg := hcell k hk'
    have hle := limb_le n k
    have HE := Lib.hid he
    clear hx hl hcell he
    go_enter Try.func184, Try.ntmps184
    go_wp2
    go_ret
    exact ⟨ret_int (by rw [HE.out]), rfl⟩

def bitN (n : Nat) (i : Int) : Bool := if i < 0 then false else n.testBit i.toNat
theorem and_one (x : Nat) (hx : x < P2 64) : bits .and .u64 (x : Int) 1 = ((x % 2 : Nat) : Int) := by
  have := u64_and_nat x 1 (by rw [P2_64] at hx; exact hx) (by decide)
  rw [Nat.and_one_is_mod] at this
  exact this
theorem bit_of_limb (n k : Nat) : (bits .and .u64 ((limb n (k / 64) : Int) / 2 ^ (k % 64)) 1 == 1) = n.testBit k := by
  have h := limb_bit n (k / 64) (k % 64)
  rw [show 64 * (k / 64) + k % 64 = k by omega] at h
  rw [div_u64, and_one _ (div_lt (limb_lt _ _))]
  have h64 : k % 64 < 64 := Nat.mod_lt _ (by decide)
  simp only [h64, decide_true, Bool.true_and] at h
  rw [← h, ← Nat.add_zero (k % 64), ← bit_div, Nat.testBit_zero, Nat.add_zero]
  by_cases h1 : limb n (k / 64) / P2 (k % 64) % 2 = 1
  · rw [h1]; rfl
  · have h2 : limb n (k / 64) / P2 (k % 64) % 2 = 0 := by omega
    rw [h2]; rfl
set_option maxHeartbeats 400000 in
theorem limbBit_any (v : Value) (n L : Nat) (i : Int) (w : World) (h1 : -9223372036854775808 ≤ i) (h2 : i ≤ 9223372036854775807) (hv : IsLimbs w v n L) :
    Calls Try.prog 135 #[v, .int .i64 i] w fun e w' => e = .returned (.bool (bitN n i)) ∧ w' = w := by
  by_cases hi : i < 0
  · obtain ⟨⟨a, cap, rfl, hc, hx⟩, hl⟩ := hv
    clear hx hl
    go_enter Try.func135, Try.ntmps135
    go_wp2
    go_ret
    exact ⟨ret_bool (by unfold bitN; rw [if_pos hi]), rfl⟩
  obtain ⟨k, rfl⟩ := Int.eq_ofNat_of_zero_le (by omega : 0 ≤ i)
  have hA := limbAt_any v n L ((k / 64 : Nat) : Int) w (by omega) (by omega) hv
  rw [show limbAtN n ((k / 64 : Nat) : Int) = limb n (k / 64) by unfold limbAtN; rw [if_neg (by omega)]; rfl, show (((k / 64 : Nat)) : Int) = (k : Int) / 64 by omega] at hA
  have HA := Lib.hid hA
  obtain ⟨⟨a, cap, rfl, hc, hx⟩, hl⟩ := hv
  have hle := limb_le n (k / 64)
  clear hx hl hA
  go_enter Try.func135, Try.ntmps135
  go_wp2_with fail
  refine HA.out.mono ?_
  rintro e w1 ⟨rfl, rfl⟩
  go_wp2_with fail
  go_ret
  refine ⟨ret_bool ?_, rfl⟩
  rw [bit_of_limb]
  unfold bitN
  rw [if_neg (by omega)]
  rfl

/-- The whole of a wide, as a slice. -/
theorem isLimbs_w {w : World} {p : Nat} {a : Nat} (ha : a < M) {t : TypeId} (h : w.heap[p]? = some (.cells (wcells a) t (0, 0))) : IsLimbs w (.slice (some ⟨p, 0, none⟩) 8 8) a 8 :=
  ⟨⟨_, _, rfl, Nat.le_refl _, fun _ => ⟨p, 0, rfl, lt_of_heap h, fun i hi => by rw [Nat.zero_add, cell_row h, wcells_get _ _ hi]⟩⟩, by rw [M_eq] at ha; exact ha⟩

set_option maxHeartbeats 400000 in
theorem bit_w (a : Nat) (ha : a < M) (i : Int) (w : World) (h1 : -9223372036854775808 ≤ i) (h2 : i ≤ 9223372036854775807) :
    Calls Try.prog 53 #[wv a, .int .i64 i] w fun e w' => e = .returned (.bool (bitN a i)) ∧ Below w.heap.size w w' := by
  have S : Hid (∀ w' p, w'.heap[p]? = some (.cells (wcells a) 31 (0, 0)) → Calls Try.prog 135 #[.slice (some ⟨p, 0, none⟩) 8 8, .int .i64 i] w' fun e w'' => e = .returned (.bool (bitN a i)) ∧ w'' = w') :=
    Lib.hid fun w' p h => limbBit_any _ a 8 i w' h1 h2 (isLimbs_w ha h)
  clear ha
  go_enter Try.func53, Try.ntmps53
  go_wp2_with fail
  refine (S.out _ _ (alloc_new w _)).mono ?_
  rintro e w1 ⟨rfl, rfl⟩
  go_wp2_with fail
  go_ret
  exact ⟨rfl, below_al (Below.refl _ _) _⟩

theorem bit_511 {a : Nat} (ha : a < M) : bitN a 511 = decide (P2 511 ≤ a) := by
  unfold bitN
  rw [if_neg (by decide), show (511 : Int).toNat = 511 from rfl]
  have h := M_half2
  by_cases h1 : P2 511 ≤ a
  · have h2 : a / P2 511 = 1 := by
      have := P2_pos 511
      rw [Nat.div_eq_iff this]; omega
    have h3 := bit_div a 511 0
    rw [Nat.add_zero] at h3
    rw [← h3, h2, decide_eq_true h1]; rfl
  · have h3 := bit_div a 511 0
    rw [Nat.add_zero] at h3
    rw [← h3, Nat.div_eq_of_lt (by omega), decide_eq_false h1]; rfl

set_option maxHeartbeats 400000 in
theorem minus_w (a : Nat) (ha : a < M) (w : World) : Calls Try.prog 54 #[wv a] w fun e w' => e = .returned (.bool (decide (P2 511 ≤ a))) ∧ Below w.heap.size w w' := by
  have S := Lib.hid (fun w' => bit_w a ha 511 w' (by omega) (by omega))
  rw [bit_511 ha] at S
  clear ha
  go_enter Try.func54, Try.ntmps54
  go_wp2_with fail
  refine (S.out _).mono ?_
  rintro e w1 ⟨rfl, hb⟩
  have HB1 := Lib.hid (below_then (below_al (Below.refl w.heap.size w) _) hb)
  clear hb
  go_wp2_with fail
  go_ret
  exact ⟨rfl, HB1.out⟩
end Go.Proofs.Ytbjofgoimkmbfaa
