/- STATES of package fly, as cells: a number and the one below it; whole numbers modulo 2^512. -/
import Derived.Test.YtegmmaaapdgocaaGreatK13
import Derived.Test.YtegmmaaapdgocaaGreatK2
import Derived.Laws.CopyRow
namespace Go.Proofs.YtegmmaaapdgocaaGreat
open Go Go.RowKit

/-- A state's cells. -/
def fc (a b : Nat) : Array Value := #[.int .u64 (limb a 0 : Nat), .int .u64 (limb a 1 : Nat), .int .u64 (limb a 2 : Nat), .int .u64 (limb a 3 : Nat), .int .u64 (limb a 4 : Nat), .int .u64 (limb a 5 : Nat), .int .u64 (limb a 6 : Nat), .int .u64 (limb a 7 : Nat), .int .u64 (limb b 0 : Nat), .int .u64 (limb b 1 : Nat), .int .u64 (limb b 2 : Nat), .int .u64 (limb b 3 : Nat), .int .u64 (limb b 4 : Nat), .int .u64 (limb b 5 : Nat), .int .u64 (limb b 6 : Nat), .int .u64 (limb b 7 : Nat)]
@[go_sem] theorem fc_size (a b : Nat) : (fc a b).size = 16 := rfl
@[go_sem] theorem fc_ne (a b : Nat) : (fc a b = #[]) = False := by unfold fc; simp
@[go_sem] theorem fc_zero : (#[.int .u64 0, .int .u64 0, .int .u64 0, .int .u64 0, .int .u64 0, .int .u64 0, .int .u64 0, .int .u64 0, .int .u64 0, .int .u64 0, .int .u64 0, .int .u64 0, .int .u64 0, .int .u64 0, .int .u64 0, .int .u64 0] : Array Value) = fc 0 0 := by
  unfold fc; simp only [limb_zero]; rfl
@[go_sem] theorem fc_fa (a b n : Nat) : Array.foldl (fun (cs : Array Value) (x : Value × Nat) => cs.setIfInBounds x.snd x.fst) (fc a b) (wcells n).zipIdx 0 8 = fc n b := by kernel_rfl
@[go_sem] theorem fc_fb (a b n : Nat) : Array.foldl (fun (cs : Array Value) (x : Value × Nat) => cs.setIfInBounds (8 + x.snd) x.fst) (fc a b) (wcells n).zipIdx 0 8 = fc a n := by kernel_rfl
@[go_sem] theorem fc_g0 (a b : Nat) : (fc a b)[0]? = some (.int .u64 (limb a 0 : Nat)) := of_eq_true (eq_self _)
@[go_sem] theorem fc_g1 (a b : Nat) : (fc a b)[1]? = some (.int .u64 (limb a 1 : Nat)) := of_eq_true (eq_self _)
@[go_sem] theorem fc_g2 (a b : Nat) : (fc a b)[2]? = some (.int .u64 (limb a 2 : Nat)) := of_eq_true (eq_self _)
@[go_sem] theorem fc_g3 (a b : Nat) : (fc a b)[3]? = some (.int .u64 (limb a 3 : Nat)) := of_eq_true (eq_self _)
@[go_sem] theorem fc_g4 (a b : Nat) : (fc a b)[4]? = some (.int .u64 (limb a 4 : Nat)) := of_eq_true (eq_self _)
@[go_sem] theorem fc_g5 (a b : Nat) : (fc a b)[5]? = some (.int .u64 (limb a 5 : Nat)) := of_eq_true (eq_self _)
@[go_sem] theorem fc_g6 (a b : Nat) : (fc a b)[6]? = some (.int .u64 (limb a 6 : Nat)) := of_eq_true (eq_self _)
@[go_sem] theorem fc_g7 (a b : Nat) : (fc a b)[7]? = some (.int .u64 (limb a 7 : Nat)) := of_eq_true (eq_self _)
@[go_sem] theorem fc_g8 (a b : Nat) : (fc a b)[8]? = some (.int .u64 (limb b 0 : Nat)) := of_eq_true (eq_self _)
@[go_sem] theorem fc_g9 (a b : Nat) : (fc a b)[9]? = some (.int .u64 (limb b 1 : Nat)) := of_eq_true (eq_self _)
@[go_sem] theorem fc_g10 (a b : Nat) : (fc a b)[10]? = some (.int .u64 (limb b 2 : Nat)) := of_eq_true (eq_self _)
@[go_sem] theorem fc_g11 (a b : Nat) : (fc a b)[11]? = some (.int .u64 (limb b 3 : Nat)) := of_eq_true (eq_self _)
@[go_sem] theorem fc_g12 (a b : Nat) : (fc a b)[12]? = some (.int .u64 (limb b 4 : Nat)) := of_eq_true (eq_self _)
@[go_sem] theorem fc_g13 (a b : Nat) : (fc a b)[13]? = some (.int .u64 (limb b 5 : Nat)) := of_eq_true (eq_self _)
@[go_sem] theorem fc_g14 (a b : Nat) : (fc a b)[14]? = some (.int .u64 (limb b 6 : Nat)) := of_eq_true (eq_self _)
@[go_sem] theorem fc_g15 (a b : Nat) : (fc a b)[15]? = some (.int .u64 (limb b 7 : Nat)) := of_eq_true (eq_self _)
@[go_sem] theorem fc_fold (a b : Nat) : (#[.int .u64 (limb a 0 : Nat), .int .u64 (limb a 1 : Nat), .int .u64 (limb a 2 : Nat), .int .u64 (limb a 3 : Nat), .int .u64 (limb a 4 : Nat), .int .u64 (limb a 5 : Nat), .int .u64 (limb a 6 : Nat), .int .u64 (limb a 7 : Nat), .int .u64 (limb b 0 : Nat), .int .u64 (limb b 1 : Nat), .int .u64 (limb b 2 : Nat), .int .u64 (limb b 3 : Nat), .int .u64 (limb b 4 : Nat), .int .u64 (limb b 5 : Nat), .int .u64 (limb b 6 : Nat), .int .u64 (limb b 7 : Nat)] : Array Value) = fc a b := of_eq_true (eq_self _)
@[go_sem] theorem fc_foldg (a b : Nat) : (#[(fc a b)[0]'(by rw [fc_size]; decide), (fc a b)[1]'(by rw [fc_size]; decide), (fc a b)[2]'(by rw [fc_size]; decide), (fc a b)[3]'(by rw [fc_size]; decide), (fc a b)[4]'(by rw [fc_size]; decide), (fc a b)[5]'(by rw [fc_size]; decide), (fc a b)[6]'(by rw [fc_size]; decide), (fc a b)[7]'(by rw [fc_size]; decide), (fc a b)[8]'(by rw [fc_size]; decide), (fc a b)[9]'(by rw [fc_size]; decide), (fc a b)[10]'(by rw [fc_size]; decide), (fc a b)[11]'(by rw [fc_size]; decide), (fc a b)[12]'(by rw [fc_size]; decide), (fc a b)[13]'(by rw [fc_size]; decide), (fc a b)[14]'(by rw [fc_size]; decide), (fc a b)[15]'(by rw [fc_size]; decide)] : Array Value) = fc a b := of_eq_true (eq_self _)
@[go_sem] theorem fc_fold0 (a b : Nat) : (#[(fc a b)[0]'(by rw [fc_size]; decide), (fc a b)[1]'(by rw [fc_size]; decide), (fc a b)[2]'(by rw [fc_size]; decide), (fc a b)[3]'(by rw [fc_size]; decide), (fc a b)[4]'(by rw [fc_size]; decide), (fc a b)[5]'(by rw [fc_size]; decide), (fc a b)[6]'(by rw [fc_size]; decide), (fc a b)[7]'(by rw [fc_size]; decide)] : Array Value) = wcells a := of_eq_true (eq_self _)
@[go_sem] theorem fc_fold8 (a b : Nat) : (#[(fc a b)[8]'(by rw [fc_size]; decide), (fc a b)[9]'(by rw [fc_size]; decide), (fc a b)[10]'(by rw [fc_size]; decide), (fc a b)[11]'(by rw [fc_size]; decide), (fc a b)[12]'(by rw [fc_size]; decide), (fc a b)[13]'(by rw [fc_size]; decide), (fc a b)[14]'(by rw [fc_size]; decide), (fc a b)[15]'(by rw [fc_size]; decide)] : Array Value) = wcells b := of_eq_true (eq_self _)
theorem st_16 {P : Program} {w : World} {g : Nat} {t : TypeId} {old : Array Value} (h : w.heap[g]? = some (.cells old t (0, 0))) (hs : old.size = 16) (a b : Nat) :
    Sem.run P (storeCells ⟨g, 0, none⟩ (fc a b).toList) w = .ok () (w.setRow g (fc a b)) := by
  have := run_storeCells_from (P := P) g t (fc a b).toList 0 old w h (by rw [show (fc a b).toList.length = 16 from rfl, hs]) (by
    intro v hv
    simp only [fc, List.mem_cons, List.not_mem_nil, or_false] at hv
    rcases hv with rfl | rfl | rfl | rfl | rfl | rfl | rfl | rfl | rfl | rfl | rfl | rfl | rfl | rfl | rfl | rfl <;> rfl)
  simpa using this
theorem wcells_one (X : Nat) : ∀ v ∈ (wcells X).toList, v.oneCell' = true := by
  intro v hv
  simp [wcells] at hv
  rcases hv with rfl | rfl | rfl | rfl | rfl | rfl | rfl | rfl <;> rfl
/-- A number stored into the lower half of a pair, into the upper half. -/
theorem st_lo {P : Program} {w : World} {g : Nat} {t : TypeId} {a b : Nat} (h : w.heap[g]? = some (.cells (fc a b) t (0, 0))) (X : Nat) :
    Sem.run P (storeCells ⟨g, 0, none⟩ (wcells X).toList) w = .ok () (w.setRow g (fc X b)) :=
  run_storeCells_at (P := P) g 0 t (wcells X).toList 0 (fc a b) w h (by rw [show (wcells X).toList.length = 8 from rfl, fc_size]; decide) (wcells_one X)
theorem st_hi {P : Program} {w : World} {g : Nat} {t : TypeId} {a b : Nat} (h : w.heap[g]? = some (.cells (fc a b) t (0, 0))) (X : Nat) :
    Sem.run P (storeCells ⟨g, 8, none⟩ (wcells X).toList) w = .ok () (w.setRow g (fc a X)) :=
  run_storeCells_at (P := P) g 8 t (wcells X).toList 0 (fc a b) w h (by rw [show (wcells X).toList.length = 8 from rfl, fc_size]; decide) (wcells_one X)
@[go_sem] theorem st_new_16 {P : Program} (w : World) (a b c d : Nat) (t : TypeId) : Sem.run P (storeCells ⟨w.heap.size, 0, none⟩ (fc c d).toList) (w.alloc (.cells (fc a b) t)) = .ok () (w.alloc (.cells (fc c d) t)) := by
  rw [st_16 (alloc_new w _) (fc_size a b) c d, setRow_new]

theorem fits_16 {P : Program} {t : TypeId} (h : (P.info? t).map (·.size) = some 16) (a b : Nat) : Fits P (.agg (fc a b)) t :=
  ⟨h, by simp [fc, Value.cells, Value.oneCell']⟩

/-- A whole number modulo 2^512. -/
def toW (z : Int) : Nat := (z % (M : Int)).toNat
theorem M_i : (0 : Int) < (M : Int) := by have := M_pos; omega
theorem toW_cast (z : Int) : ((toW z : Nat) : Int) = z % (M : Int) := Int.toNat_of_nonneg (Int.emod_nonneg _ (by have := M_i; omega))
theorem toW_lt (z : Int) : toW z < M := by
  have h1 := toW_cast z
  have h2 := Int.emod_lt_of_pos z M_i
  omega
theorem toW_unique {z : Int} {n : Nat} (hn : n < M) (h : (n : Int) % (M : Int) = z % (M : Int)) : toW z = n := by
  have h1 := toW_cast z
  rw [← h, Int.emod_eq_of_lt (by omega) (by omega)] at h1
  omega
theorem toW_nat {n : Nat} (hn : n < M) : toW (n : Int) = n := toW_unique hn rfl
theorem toW_big (n : Nat) : toW (n : Int) = n % M := toW_unique (Nat.mod_lt _ M_pos) (by push_cast; exact Int.emod_emod_of_dvd _ (Int.dvd_refl _))
theorem toW_congr {x y : Int} (h : x % (M : Int) = y % (M : Int)) : toW x = toW y := by unfold toW; rw [h]
theorem toW_sub (a b : Nat) (_ha : a < M) (hb : b < M) : subN a b = toW ((a : Int) - b) := by
  unfold subN
  refine (toW_unique (Nat.mod_lt _ M_pos) ?_).symm
  rw [show a + M - b = a + (M - b) by omega]
  push_cast
  rw [Int.emod_emod_of_dvd _ (Int.dvd_refl _), show ((M - b : Nat) : Int) = (M : Int) - b by omega, show (a : Int) + ((M : Int) - b) = (a : Int) - b + M by omega, Int.add_emod_right]
theorem M4 : ∃ k, M = 4 * k ∧ 0 < k := ⟨P2 510, by rw [M_eq, show 512 = 2 + 510 from rfl, P2_add, P2_eq 2], P2_pos _⟩
/-- Four times a number, and two bits. -/
def joinN (a b : Nat) : Nat := a * P2 2 % M + b
theorem P2_2 : P2 2 = 4 := by rw [P2_eq]
theorem join_room (a b : Nat) (hb : b ≤ 3) : joinN a b < M ∧ 4 ∣ a * P2 2 % M := by
  obtain ⟨k, hk, _⟩ := M4
  unfold joinN
  rw [P2_2]
  have h1 : a * 4 % M = 4 * (a % k) := by rw [hk, Nat.mul_comm a 4, Nat.mul_mod_mul_left]
  have h2 : a % k < k := Nat.mod_lt _ (by omega)
  rw [h1]
  exact ⟨by omega, Nat.dvd_mul_right _ _⟩
theorem emod_mul4 (y m : Int) : y % m * 4 % m = y * 4 % m := by rw [Int.mul_emod, Int.emod_emod_of_dvd _ (Int.dvd_refl _), ← Int.mul_emod]
theorem join_toW (y : Int) (b : Nat) (hb : b ≤ 3) : joinN (toW y) b = toW (4 * y + b) := by
  refine (toW_unique (join_room _ _ hb).1 ?_).symm
  unfold joinN
  rw [P2_2]
  push_cast
  rw [toW_cast, Int.emod_add_emod, Int.add_emod (4 * y), Int.add_emod (y % (M : Int) * 4), emod_mul4, Int.mul_comm y 4]
theorem limb_join (a b i : Nat) (h4 : 4 ∣ a) (hb : b ≤ 3) : limb (a + b) i = if i = 0 then limb a 0 ||| b else limb a i := by
  obtain ⟨c, rfl⟩ := h4
  have hor : 4 * c + b = (4 * c) ||| b := by
    have := Nat.two_pow_add_eq_or_of_lt (i := 2) (b := b) (by omega) c
    rw [show 2 ^ 2 = 4 from rfl] at this
    exact this
  refine Nat.eq_of_testBit_eq fun j => ?_
  rw [hor]
  split
  · rename_i h
    subst h
    rw [limb_bit, Nat.testBit_or, Nat.testBit_or, limb_bit, Bool.and_or_distrib_left]
    by_cases hj : j < 64
    · simp [hj]
    · have : b.testBit j = false := Nat.testBit_lt_two_pow (Nat.lt_of_le_of_lt hb (Nat.lt_of_lt_of_le (by decide : 3 < 2 ^ 2) (Nat.pow_le_pow_right (by decide) (by omega))))
      simp [hj, this]
  · rename_i h
    rw [limb_bit, limb_bit, Nat.testBit_or]
    have : b.testBit (64 * i + j) = false := Nat.testBit_lt_two_pow (Nat.lt_of_le_of_lt hb (Nat.lt_of_lt_of_le (by decide : 3 < 2 ^ 2) (Nat.pow_le_pow_right (by decide) (by omega))))
    rw [this, Bool.or_false]
theorem join_cells (a b : Nat) (h4 : 4 ∣ a) (hb : b ≤ 3) : (wcells a).setIfInBounds 0 (.int .u64 ((limb a 0 ||| b : Nat) : Int)) = wcells (a + b) := by
  have h := fun i => limb_join a b i h4 hb
  unfold wcells
  rw [h 0, h 1, h 2, h 3, h 4, h 5, h 6, h 7]
  rfl
/-- The number of digits of either sign. -/
def digitsZ (zs : List Int) : Int := zs.foldl (fun z d => 4 * z + d) 0
theorem digitsZ_succ (zs : List Int) (k : Nat) (d : Int) (h : zs[k]? = some d) : digitsZ (zs.take (k + 1)) = 4 * digitsZ (zs.take k) + d := by
  unfold digitsZ
  rw [List.take_add_one, h, List.foldl_append]
  rfl
def isDig (d : Int) : Bool := decide (-3 ≤ d) && decide (d ≤ 3)
theorem isDig_yes {d : Int} (h1 : -3 ≤ d) (h2 : d ≤ 3) : isDig d = true := by unfold isDig; simp [h1, h2]
theorem isDig_iff {d : Int} : isDig d = true ↔ -3 ≤ d ∧ d ≤ 3 := by unfold isDig; simp
end Go.Proofs.YtegmmaaapdgocaaGreat
