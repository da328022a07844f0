/- A GUESS of the law on fix, as cells; as an argument. -/
import Derived.Test.YtkkjbkadaofjpaaK15
import Derived.Test.YtkkjbkadaofjpaaK1
namespace Go.Proofs.Ytkkjbkadaofjpaa
open Go Go.RowKit Go.ChangeShapes Go.WideShapes Go.ChangeAt

/-- A guess's cells. -/
def gcells (a : Nat) (raw : Bool) (by_ most : Int) : Array Value := #[.int .u64 (limb a 0 : Nat), .int .u64 (limb a 1 : Nat), .int .u64 (limb a 2 : Nat), .int .u64 (limb a 3 : Nat), .int .u64 (limb a 4 : Nat), .int .u64 (limb a 5 : Nat), .int .u64 (limb a 6 : Nat), .int .u64 (limb a 7 : Nat), .bool raw, .int .i8 by_, .int .i64 most]
@[go_sem] theorem gcells_size (a : Nat) (r : Bool) (b m : Int) : (gcells a r b m).size = 11 := rfl
@[go_sem] theorem gcells_ne (a : Nat) (r : Bool) (b m : Int) : (gcells a r b m = #[]) = False := by unfold gcells; simp
@[go_sem] theorem gcells_g0 (a : Nat) (r : Bool) (b m : Int) : (gcells a r b m)[0]? = some (.int .u64 (limb a 0 : Nat)) := of_eq_true (eq_self _)
@[go_sem] theorem gcells_g1 (a : Nat) (r : Bool) (b m : Int) : (gcells a r b m)[1]? = some (.int .u64 (limb a 1 : Nat)) := of_eq_true (eq_self _)
@[go_sem] theorem gcells_g2 (a : Nat) (r : Bool) (b m : Int) : (gcells a r b m)[2]? = some (.int .u64 (limb a 2 : Nat)) := of_eq_true (eq_self _)
@[go_sem] theorem gcells_g3 (a : Nat) (r : Bool) (b m : Int) : (gcells a r b m)[3]? = some (.int .u64 (limb a 3 : Nat)) := of_eq_true (eq_self _)
@[go_sem] theorem gcells_g4 (a : Nat) (r : Bool) (b m : Int) : (gcells a r b m)[4]? = some (.int .u64 (limb a 4 : Nat)) := of_eq_true (eq_self _)
@[go_sem] theorem gcells_g5 (a : Nat) (r : Bool) (b m : Int) : (gcells a r b m)[5]? = some (.int .u64 (limb a 5 : Nat)) := of_eq_true (eq_self _)
@[go_sem] theorem gcells_g6 (a : Nat) (r : Bool) (b m : Int) : (gcells a r b m)[6]? = some (.int .u64 (limb a 6 : Nat)) := of_eq_true (eq_self _)
@[go_sem] theorem gcells_g7 (a : Nat) (r : Bool) (b m : Int) : (gcells a r b m)[7]? = some (.int .u64 (limb a 7 : Nat)) := of_eq_true (eq_self _)
@[go_sem] theorem gcells_g8 (a : Nat) (r : Bool) (b m : Int) : (gcells a r b m)[8]? = some (.bool r) := of_eq_true (eq_self _)
@[go_sem] theorem gcells_g9 (a : Nat) (r : Bool) (b m : Int) : (gcells a r b m)[9]? = some (.int .i8 b) := of_eq_true (eq_self _)
@[go_sem] theorem gcells_g10 (a : Nat) (r : Bool) (b m : Int) : (gcells a r b m)[10]? = some (.int .i64 m) := of_eq_true (eq_self _)
theorem guess_of {cs : List Value} (h : Leaves [.int .u64, .int .u64, .int .u64, .int .u64, .int .u64, .int .u64, .int .u64, .int .u64, .bool, .int .i8, .int .i64] cs) :
    ∃ (a : Nat) (raw : Bool) (b m : Int), a < M ∧ (-128 ≤ b ∧ b ≤ 127) ∧ (-9223372036854775808 ≤ m ∧ m ≤ 9223372036854775807) ∧ cs.toArray = gcells a raw b m := by
  obtain ⟨_, _, rfl, ⟨x0, rfl, w0⟩, _, _, rfl, ⟨x1, rfl, w1⟩, _, _, rfl, ⟨x2, rfl, w2⟩, _, _, rfl, ⟨x3, rfl, w3⟩, _, _, rfl, ⟨x4, rfl, w4⟩, _, _, rfl, ⟨x5, rfl, w5⟩, _, _, rfl, ⟨x6, rfl, w6⟩, _, _, rfl, ⟨x7, rfl, w7⟩, _, _, rfl, ⟨r, rfl⟩, _, _, rfl, ⟨b, rfl, wb⟩, _, _, rfl, ⟨m, rfl, wm⟩, hE⟩ := h
  obtain rfl := hE
  obtain ⟨k0, rfl, h0⟩ := u64_bounds w0
  obtain ⟨k1, rfl, h1⟩ := u64_bounds w1
  obtain ⟨k2, rfl, h2⟩ := u64_bounds w2
  obtain ⟨k3, rfl, h3⟩ := u64_bounds w3
  obtain ⟨k4, rfl, h4⟩ := u64_bounds w4
  obtain ⟨k5, rfl, h5⟩ := u64_bounds w5
  obtain ⟨k6, rfl, h6⟩ := u64_bounds w6
  obtain ⟨k7, rfl, h7⟩ := u64_bounds w7
  obtain ⟨n, hn, hl⟩ := limbs_make [k0, k1, k2, k3, k4, k5, k6, k7] (by simp [h0, h1, h2, h3, h4, h5, h6, h7])
  refine ⟨n, r, b, m, by rw [M_eq]; exact hn, bounds_i8 wb, bounds_i64 wm, ?_⟩
  unfold gcells
  rw [hl 0 k0 rfl, hl 1 k1 rfl, hl 2 k2 rfl, hl 3 k3 rfl, hl 4 k4 rfl, hl 5 k5 rfl, hl 6 k6 rfl, hl 7 k7 rfl]
end Go.Proofs.Ytkkjbkadaofjpaa
