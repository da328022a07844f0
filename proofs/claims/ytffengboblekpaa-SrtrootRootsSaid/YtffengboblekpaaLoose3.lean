/- WHAT AN OPERATION MAY LEAVE in the one walk over a region: a number of whatever size; and that there are such. -/
import Derived.Test.YtffengboblekpaaLoose2
import Derived.Test.YtffengboblekpaaK9
import Derived.Test.YtffengboblekpaaWRow
namespace Go.Proofs.Ytffengboblekpaa
open Go Go.RowKit

def Lft.big (n : Nat) : Lft := ⟨fun v w => IsBig w v n, fun _ _ _ h hb => h.below hb⟩
theorem big_some (w0 : World) (n : Nat) : ∃ v w, (Lft.big n).G v w := by
  obtain ⟨L, h1, h2⟩ : ∃ L, n < P2 (32 * L) ∧ (L ≠ 0 → P2 (32 * (L - 1)) ≤ n) := by
    refine ⟨(blen n + 31) / 32, lt_of_blen (by omega), fun hL => ?_⟩
    have hn : n ≠ 0 := fun h => by subst h; rw [blen_zero] at hL; exact hL rfl
    exact Nat.le_trans (P2_le (by omega)) (blen_le hn)
  refine ⟨.slice (some ⟨w0.heap.size, 0, none⟩) L L, w0.alloc (.cells ((List.range L).map fun i => Value.int .u32 (dig n i : Nat)).toArray 0), L, ⟨⟨_, L, rfl, Nat.le_refl _, fun _ => ⟨w0.heap.size, 0, rfl, by simp, fun i hi => ?_⟩⟩, h1⟩, h2⟩
  rw [cell_row (alloc_new w0 _)]
  simp [hi]
theorem gives_loose {P : Program} {f : FuncId} {args : Array Value} {w : World} {n : Nat} (h : Calls P f args w (GivesBig n w)) : Calls P f args w fun e w'' => ∃ v, e = .returned v ∧ Below w.heap.size w w'' ∧ (Lft.big n).G v w'' :=
  h.mono fun _ _ ⟨r, h1, h2, h3⟩ => ⟨r, h1, h3, h2⟩
theorem val_loose {P : Program} {f : FuncId} {args : Array Value} {w : World} {v : Value} (h : Calls P f args w fun e w' => e = .returned v ∧ Below w.heap.size w w') : Calls P f args w fun e w'' => ∃ u, e = .returned u ∧ Below w.heap.size w w'' ∧ (Lft.val v).G u w'' :=
  h.mono fun _ _ ⟨h1, h2⟩ => ⟨v, h1, h2, rfl⟩
theorem val_some (w0 : World) (v : Value) : ∃ u w, (Lft.val v).G u w := ⟨v, w0, rfl⟩
end Go.Proofs.Ytffengboblekpaa
