/- '==' on arrays of whole numbers. -/
import Derived.Test.YtbjofgoimkmbfaaStore
namespace Go.Proofs.Ytbjofgoimkmbfaa
open Go Go.RowKit
variable {P : Program}
theorem run_part_int {elem : TypeId} {k : IntKind} (he : P.underlying elem = some (.int k)) (cs : Array Value) (off : Nat) (v : Value) (h : cs[off]? = some v) (w : World) : (part elem cs off).run P w = .ok v w := by
  have : (isAgg elem).run P w = .ok false w := by simp [isAgg, run_underlying he]
  simp [part, Sem.run_bind, this, h]
def eqFrom (x y : Nat → Int) : Nat → Nat → Bool
  | _, 0 => true
  | i, n + 1 => decide (x i = y i) && eqFrom x y (i + 1) n
theorem eqFrom_iff (x y : Nat → Int) : ∀ (n i : Nat), eqFrom x y i n = true ↔ ∀ j, i ≤ j → j < i + n → x j = y j := by
  intro n
  induction n with
  | zero => intro i; simp only [eqFrom, true_iff]; intro j h1 h2; omega
  | succ n ih =>
    intro i
    simp only [eqFrom, Bool.and_eq_true, decide_eq_true_eq, ih]
    constructor
    · intro ⟨h0, h⟩ j h1 h2
      by_cases hj : i = j
      · subst hj; exact h0
      · exact h j (by omega) (by omega)
    · intro h
      exact ⟨h i (Nat.le_refl _) (by omega), fun j h1 h2 => h j (by omega) (by omega)⟩
theorem run_eq_ints {d len : Nat} {t elem : TypeId} {k : IntKind} (ht : P.underlying t = some (.array len elem)) (he : P.underlying elem = some (.int k)) (hs : (P.info? elem).map (·.size) = some 1)
    (xs ys : Array Value) (x y : Nat → Int) (hx : ∀ i, i < len → xs[i]? = some (.int k (x i))) (hy : ∀ i, i < len → ys[i]? = some (.int k (y i))) (w : World) :
    (Op.equalIn (d + 2) t (.agg xs) (.agg ys)).run P w = .ok (decide (∀ i, i < len → x i = y i)) w := by
  have hsz : (sizeOf elem).run P w = .ok 1 w := by
    cases hi : P.info? elem with
    | none => simp [hi] at hs
    | some i => simp [hi] at hs; simp [sizeOf, typeInfo, hi, hs]
  rw [Op.equalIn]
  simp only [Sem.run_bind, run_underlying ht, Result.andThen_ok, hsz]
  rw [Std.Legacy.Range.forIn_eq_forIn_range']
  have key : ∀ (n i : Nat), i + n = len → (Sem.run P (forIn (List.range' i n) ((none : Option Bool), ()) fun i (_ : Option Bool × Unit) => do
            let a ← part elem xs (i * 1)
            let b ← part elem ys (i * 1)
            let c ← Op.equalIn (d + 1) elem a b
            if (!c) = true then pure (ForInStep.done (some false, ())) else pure (ForInStep.yield (none, ()))) w) = .ok ((if eqFrom x y i n = true then none else some false), ()) w := by
    intro n
    induction n with
    | zero =>
      intro i hi
      simp [eqFrom]
    | succ n ih =>
      intro i hi
      rw [List.range'_succ]
      simp only [List.forIn_cons, Sem.run_bind, Nat.mul_one]
      rw [run_part_int he xs i _ (hx i (by omega))]
      simp only [Result.andThen_ok]
      rw [run_part_int he ys i _ (hy i (by omega))]
      simp only [Result.andThen_ok]
      rw [run_equalIn_int w d elem k k (x i) (y i) he]
      simp only [Result.andThen_ok]
      by_cases hxy : x i = y i
      · have : (x i == y i) = true := by simp [hxy]
        simp only [this, Bool.not_true, Bool.false_eq_true, if_false, Sem.run_pure, Result.andThen_ok]
        have h1 := ih (i + 1) (by omega)
        simp only [Nat.mul_one] at h1
        rw [h1]
        simp [eqFrom, hxy]
      · have : (x i == y i) = false := by simp [hxy]
        simp only [this, Bool.not_false, if_true, Sem.run_pure, Result.andThen_ok]
        simp [eqFrom, hxy]
  have h0 := key len 0 (by omega)
  have hsize : (Std.Legacy.Range.size [:len]) = len := by simp [Std.Legacy.Range.size]
  simp only [hsize] at h0 ⊢
  rw [h0]
  simp only [Result.andThen_ok]
  have hiff := eqFrom_iff x y len 0
  by_cases hall : ∀ j, j < len → x j = y j
  · rw [if_pos (hiff.2 fun j _ h => hall j (by omega)), decide_eq_true hall]
    rfl
  · rw [if_neg (fun h => hall fun j h1 => hiff.1 h j (Nat.zero_le _) (by omega)), decide_eq_false hall]
    rfl
end Go.Proofs.Ytbjofgoimkmbfaa
