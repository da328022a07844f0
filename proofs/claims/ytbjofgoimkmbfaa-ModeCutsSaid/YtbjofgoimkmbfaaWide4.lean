/- THE WALKS of package wide, going on: sums and differences by their limbs; 0 without a number; masks. -/
import Derived.Test.YtbjofgoimkmbfaaWide3
namespace Go.Proofs.Ytbjofgoimkmbfaa
open Go Go.RowKit

/-! ### Sums and differences -/
theorem enters_limbAdd : Enters Try.prog 148 := fun args w => by simp [go_sem]
theorem enters_limbSub : Enters Try.prog 149 := fun args w => by simp [go_sem]
/-- What is carried into limb k of a sum. -/
def cAdd (a b k : Nat) : Nat := (a % P2 (64 * k) + b % P2 (64 * k)) / P2 (64 * k)
/-- What is borrowed by limb k of a difference. -/
def cSub (a b k : Nat) : Nat := if a % P2 (64 * k) < b % P2 (64 * k) then 1 else 0
theorem P2_00 : P2 (64 * 0) = 1 := by rw [P2_eq]
theorem cAdd_zero (a b : Nat) : cAdd a b 0 = 0 := by unfold cAdd; rw [P2_00, Nat.mod_one, Nat.mod_one]
theorem cSub_zero (a b : Nat) : cSub a b 0 = 0 := by unfold cSub; rw [P2_00, Nat.mod_one, Nat.mod_one]; rfl
theorem cAdd_le (a b k : Nat) : cAdd a b k ≤ 1 := by
  unfold cAdd
  have h1 := Nat.mod_lt a (P2_pos (64 * k))
  have h2 := Nat.mod_lt b (P2_pos (64 * k))
  exact Nat.le_of_lt_succ (by rw [Nat.div_lt_iff_lt_mul (P2_pos _)]; omega)
theorem cSub_le (a b k : Nat) : cSub a b k ≤ 1 := by unfold cSub; split <;> omega
/-- The lower limbs, and one more. -/
theorem limb_low (a i : Nat) : a % P2 (64 * (i + 1)) = a % P2 (64 * i) + P2 (64 * i) * limb a i := by
  unfold limb
  have e : P2 (64 * (i + 1)) = P2 (64 * i) * P2 64 := by rw [← P2_add]; congr 1
  rw [e, Nat.mod_mul]
theorem limb_of_low (a i : Nat) : limb a i = a % P2 (64 * (i + 1)) / P2 (64 * i) := by
  rw [limb_low, Nat.add_mul_div_left _ _ (P2_pos _), Nat.div_eq_of_lt (Nat.mod_lt _ (P2_pos _)), Nat.zero_add]
theorem limb_add (a b i : Nat) : limb (a + b) i = (limb a i + limb b i + cAdd a b i) % P2 64 ∧ cAdd a b (i + 1) = (limb a i + limb b i + cAdd a b i) / P2 64 := by
  have e : P2 (64 * (i + 1)) = P2 (64 * i) * P2 64 := by rw [← P2_add]; congr 1
  have hx := P2_pos (64 * i)
  have ha := limb_low a i
  have hb := limb_low b i
  have hs : (a % P2 (64 * (i + 1)) + b % P2 (64 * (i + 1))) / P2 (64 * i) = limb a i + limb b i + cAdd a b i := by
    rw [ha, hb]
    rw [show a % P2 (64 * i) + P2 (64 * i) * limb a i + (b % P2 (64 * i) + P2 (64 * i) * limb b i) = (a % P2 (64 * i) + b % P2 (64 * i)) + P2 (64 * i) * (limb a i + limb b i) by rw [Nat.mul_add]; omega]
    rw [Nat.add_mul_div_left _ _ hx]
    unfold cAdd; omega
  constructor
  · rw [← hs, limb_of_low, Nat.add_mod, e, ← Nat.mod_mul_right_div_self]
  · unfold cAdd at *
    rw [← hs, Nat.div_div_eq_div_mul, ← e]
theorem carries_add (a b : Nat) : Carries Try.prog 148 a b (a + b) (cAdd a b) := by
  intro i w hi
  have := limbAdd_any (limb a i) (limb b i) (cAdd a b i) (cAdd_le a b i) w
  rw [← (limb_add a b i).1, ← (limb_add a b i).2] at this
  exact this
/-- The difference, modulo 2^512. -/
def subN (a b : Nat) : Nat := (a + M - b) % M
theorem subN_lt (a b : Nat) : subN a b < M := Nat.mod_lt _ M_pos
theorem limb_sub (a b i : Nat) (hb : b < M) (hi : i < 8) : limb (subN a b) i = (limb a i + P2 64 - limb b i - cSub a b i) % P2 64 ∧ cSub a b (i + 1) = if limb a i < limb b i + cSub a b i then 1 else 0 := by
  have e : P2 (64 * (i + 1)) = P2 (64 * i) * P2 64 := by rw [← P2_add]; congr 1
  have hx := P2_pos (64 * i)
  have ha := limb_low a i
  have hbl := limb_low b i
  have la := limb_lt a i
  have lb := limb_lt b i
  have ma := Nat.mod_lt a hx
  have mb := Nat.mod_lt b hx
  have cl := cSub_le a b i
  constructor
  · unfold subN
    rw [limb_mod _ _ hi, limb_of_low]
    -- modulo 2^(64(i+1))
    have hM : ∃ q, M = P2 (64 * (i + 1)) * q := ⟨P2 (512 - 64 * (i + 1)), by rw [M_eq, ← P2_add]; congr 1; omega⟩
    obtain ⟨q, hq⟩ := hM
    have hY := P2_pos (64 * (i + 1))
    generalize hYY : P2 (64 * (i + 1)) = Y at *
    have h1 : (a + M - b) % Y = (a % Y + Y - b % Y) % Y := by
      have da := Nat.div_add_mod a Y
      have db := Nat.div_add_mod b Y
      have hbY := Nat.mod_lt b hY
      have hbq : b / Y < q := by rw [Nat.div_lt_iff_lt_mul hY, Nat.mul_comm, ← hq]; exact hb
      have : a + M - b = (a % Y + Y - b % Y) + Y * (a / Y + (q - 1 - b / Y)) := by
        have e1 : Y * (a / Y + (q - 1 - b / Y)) = Y * (a / Y) + Y * (q - 1 - b / Y) := Nat.mul_add _ _ _
        have e2 : Y * q = Y * (q - 1 - b / Y) + Y * (b / Y) + Y := by
          rw [← Nat.mul_add, ← Nat.mul_succ]; congr 1; omega
        omega
      rw [this, Nat.add_mul_mod_self_left]
    rw [h1, ha, hbl, e]
    have h2 : (a % P2 (64 * i) + P2 (64 * i) * limb a i + P2 (64 * i) * P2 64 - (b % P2 (64 * i) + P2 (64 * i) * limb b i)) = (a % P2 (64 * i) + P2 (64 * i) * cSub a b i - b % P2 (64 * i)) + P2 (64 * i) * (limb a i + P2 64 - limb b i - cSub a b i) := by
      have e1 : P2 (64 * i) * (limb a i + P2 64 - limb b i - cSub a b i) + P2 (64 * i) * limb b i + P2 (64 * i) * cSub a b i = P2 (64 * i) * limb a i + P2 (64 * i) * P2 64 := by
        rw [← Nat.mul_add, ← Nat.mul_add, ← Nat.mul_add]; congr 1; omega
      have e2 : b % P2 (64 * i) ≤ a % P2 (64 * i) + P2 (64 * i) * cSub a b i := by
        unfold cSub
        split
        · rw [Nat.mul_one]; omega
        · rw [Nat.mul_zero]; omega
      omega
    have h3 : a % P2 (64 * i) + P2 (64 * i) * cSub a b i - b % P2 (64 * i) < P2 (64 * i) := by
      unfold cSub
      split
      · rw [Nat.mul_one]; omega
      · rw [Nat.mul_zero]; omega
    rw [h2, Nat.mod_mul_right_div_self, Nat.add_mul_div_left _ _ hx, Nat.div_eq_of_lt h3, Nat.zero_add]
  · rw [show cSub a b (i + 1) = if a % P2 (64 * (i + 1)) < b % P2 (64 * (i + 1)) then 1 else 0 from rfl, ha, hbl]
    have key : (a % P2 (64 * i) + P2 (64 * i) * limb a i < b % P2 (64 * i) + P2 (64 * i) * limb b i) ↔ limb a i < limb b i + cSub a b i := by
      unfold cSub
      rcases Nat.lt_trichotomy (limb a i) (limb b i) with h | h | h
      · have h1 : P2 (64 * i) * (limb a i + 1) ≤ P2 (64 * i) * limb b i := Nat.mul_le_mul_left _ h
        rw [Nat.mul_add] at h1
        constructor
        · intro _; split <;> omega
        · intro _; omega
      · rw [h]
        split
        · constructor <;> intro <;> omega
        · constructor <;> intro <;> omega
      · have h1 : P2 (64 * i) * (limb b i + 1) ≤ P2 (64 * i) * limb a i := Nat.mul_le_mul_left _ h
        rw [Nat.mul_add] at h1
        constructor
        · intro _; omega
        · intro h2
          split at h2
          · omega
          · omega
    by_cases h : limb a i < limb b i + cSub a b i
    · rw [if_pos h, if_pos (key.2 h)]
    · rw [if_neg h, if_neg (fun h' => h (key.1 h'))]
theorem carries_sub (a b : Nat) (hb : b < M) : Carries Try.prog 149 a b (subN a b) (cSub a b) := by
  intro i w hi
  have := limbSub_any (limb a i) (limb b i) (cSub a b i) (cSub_le a b i) w
  rw [← (limb_sub a b i hb hi).1, ← (limb_sub a b i hb hi).2] at this
  exact this
theorem cAdd_over {a b : Nat} (ha : a < M) (hb : b < M) : decide (cAdd a b 8 ≠ 0) = decide (M ≤ a + b) := by
  unfold cAdd
  rw [show 64 * 8 = 512 from rfl, ← M_eq, Nat.mod_eq_of_lt ha, Nat.mod_eq_of_lt hb]
  apply decide_eq_decide.2
  rw [ne_eq, Nat.div_eq_zero_iff_lt M_pos]
  omega
theorem cSub_below {a b : Nat} (ha : a < M) (hb : b < M) : decide (cSub a b 8 ≠ 0) = decide (a < b) := by
  unfold cSub
  rw [show 64 * 8 = 512 from rfl, ← M_eq, Nat.mod_eq_of_lt ha, Nat.mod_eq_of_lt hb]
  apply decide_eq_decide.2
  split <;> simp [*]


set_option maxHeartbeats 400000 in
theorem add_w (a b : Nat) (ha : a < M) (hb : b < M) (w : World) : Calls Try.prog 75 #[wv a, wv b] w fun e w' => e = .returned (.tuple #[wv ((a + b) % M), .bool (decide (M ≤ a + b))]) ∧ Below w.heap.size w w' := by
  have S : Hid (∀ w' : World, Calls Try.prog 147 #[wv a, wv b, .func (.func 148) #[] #[]] w' fun e w'' => e = .returned (.tuple #[wv ((a + b) % M), .bool (decide (M ≤ a + b))]) ∧ Below w'.heap.size w' w'') := Lib.hid fun w' => by
    have := both_any 148 a b (a + b) (cAdd a b) (cAdd_zero a b) w' enters_limbAdd (carries_add a b)
    rw [cAdd_over ha hb] at this
    unfold wv at *
    rwa [wcells_mod]
  obtain ⟨s, hs⟩ : ∃ s, s = (a + b) % M := ⟨_, rfl⟩
  obtain ⟨o, ho⟩ : ∃ o, o = decide (M ≤ a + b) := ⟨_, rfl⟩
  rw [← hs, ← ho] at S ⊢
  clear hs ho ha hb
  have G2 : Hid ((((w.alloc (.cells (wcells a) 31)).alloc (.cells (wcells b) 31)).alloc (.cells (wcells 0) 31)).heap[w.heap.size + 2]? = some (.cells (wcells 0) 31 (0, 0))) := Lib.hid (by rw [alloc_new' _ (by simp)])
  go_enter Try.func75, Try.ntmps75
  go_wp2_with fail
  refine (S.out _).mono ?_
  rintro e w1 ⟨rfl, hb⟩
  have HB1 := Lib.hid (below_then (below_al (below_al (below_al (Below.refl w.heap.size w) _) _) _) hb)
  have G2 := Lib.hid ((hb.block _ (lt_of_heap G2.out)).trans G2.out)
  clear hb
  have st := st_row (P := Try.prog) G2.out rfl s
  have c2 := cell_row (setRow_heap w1 _ _ (wcells s) _ _ G2.out)
  go_wp2
  exact bodyPost_ret (v := .tuple #[wv s, .bool o]) (by simp [results, Try.results75, go_sem, c2]) rfl ⟨rfl, below_setRow' HB1.out (by omega) _⟩

set_option maxHeartbeats 400000 in
theorem sub_w (a b : Nat) (ha : a < M) (hb : b < M) (w : World) : Calls Try.prog 76 #[wv a, wv b] w fun e w' => e = .returned (.tuple #[wv (subN a b), .bool (decide (a < b))]) ∧ Below w.heap.size w w' := by
  have S : Hid (∀ w' : World, Calls Try.prog 147 #[wv a, wv b, .func (.func 149) #[] #[]] w' fun e w'' => e = .returned (.tuple #[wv (subN a b), .bool (decide (a < b))]) ∧ Below w'.heap.size w' w'') := Lib.hid fun w' => by
    have := both_any 149 a b (subN a b) (cSub a b) (cSub_zero a b) w' enters_limbSub (carries_sub a b hb)
    rw [cSub_below ha hb] at this

    exact this
  obtain ⟨s, hs⟩ : ∃ s, s = subN a b := ⟨_, rfl⟩
  obtain ⟨o, ho⟩ : ∃ o, o = decide (a < b) := ⟨_, rfl⟩
  rw [← hs, ← ho] at S ⊢
  clear hs ho ha hb
  have G2 : Hid ((((w.alloc (.cells (wcells a) 31)).alloc (.cells (wcells b) 31)).alloc (.cells (wcells 0) 31)).heap[w.heap.size + 2]? = some (.cells (wcells 0) 31 (0, 0))) := Lib.hid (by rw [alloc_new' _ (by simp)])
  go_enter Try.func76, Try.ntmps76
  go_wp2_with fail
  refine (S.out _).mono ?_
  rintro e w1 ⟨rfl, hb⟩
  have HB1 := Lib.hid (below_then (below_al (below_al (below_al (Below.refl w.heap.size w) _) _) _) hb)
  have G2 := Lib.hid ((hb.block _ (lt_of_heap G2.out)).trans G2.out)
  clear hb
  have st := st_row (P := Try.prog) G2.out rfl s
  have c2 := cell_row (setRow_heap w1 _ _ (wcells s) _ _ G2.out)
  go_wp2
  exact bodyPost_ret (v := .tuple #[wv s, .bool o]) (by simp [results, Try.results76, go_sem, c2]) rfl ⟨rfl, below_setRow' HB1.out (by omega) _⟩
end Go.Proofs.Ytbjofgoimkmbfaa
