/- ARGUMENTS that are numbers of 512 bits, words, lists of limbs. -/
import Derived.Test.YtbjofgoimkmbfaaOpen
import Derived.Test.YtbjofgoimkmbfaaNum
import Derived.ChangeSlices
namespace Go.Proofs.Ytbjofgoimkmbfaa
open Go Go.RowKit Go.ChangeShapes Go.WideShapes Go.ChangeAt

/-- A number out of its limbs. -/
theorem limbs_make : ∀ (xs : List Nat), (∀ x ∈ xs, x < P2 64) → ∃ n, n < P2 (64 * xs.length) ∧ ∀ i x, xs[i]? = some x → limb n i = x := by
  intro xs
  induction xs with
  | nil => intro _; exact ⟨0, P2_pos _, fun i x h => by simp at h⟩
  | cons x xs ih =>
    intro hx
    obtain ⟨n, hn, hl⟩ := ih fun y hy => hx y (List.mem_cons_of_mem _ hy)
    have h0 := hx x List.mem_cons_self
    refine ⟨x + P2 64 * n, ?_, ?_⟩
    · rw [List.length_cons, show 64 * (xs.length + 1) = 64 + 64 * xs.length by omega, P2_add]
      have : P2 64 * (n + 1) ≤ P2 64 * P2 (64 * xs.length) := Nat.mul_le_mul_left _ hn
      rw [Nat.mul_add] at this
      omega
    · intro i y hy
      rcases i with _ | i
      · simp only [List.getElem?_cons_zero, Option.some.injEq] at hy
        subst hy
        unfold limb
        rw [show P2 (64 * 0) = 1 by rw [P2_eq], Nat.div_one, Nat.add_mul_mod_self_left, Nat.mod_eq_of_lt h0]
      · simp only [List.getElem?_cons_succ] at hy
        rw [← hl i y hy]
        unfold limb
        rw [show 64 * (i + 1) = 64 + 64 * i by omega, P2_add, ← Nat.div_div_eq_div_mul, Nat.add_mul_div_left _ _ (P2_pos _), Nat.div_eq_of_lt h0, Nat.zero_add]
theorem u64_bounds {n : Int} (h : (Lit.int .u64 n).wf = true) : ∃ k : Nat, n = (k : Int) ∧ k < P2 64 := by
  have h1 := bounds_u64 h
  obtain ⟨k, rfl⟩ := Int.eq_ofNat_of_zero_le h1.1
  exact ⟨k, rfl, by rw [P2_64]; omega⟩
/-- A list of limbs that came as an argument. -/
theorem open_limbs {H : Type} {enc : TypeId × Value → H} {P : Program} {w : World} {base : Nat} {r : Reach} {b0 : Nat} {t e : TypeId} {v : Value} {d : DataW H} {ps : List MemPlace} (ht : P.underlying t = some (.slice e)) (he : P.underlying e = some (.int .u64)) (hc : P.cellsOf e = 1)
    (hval : Value.okWide P w r b0 t v) (hd : DataW.Trod enc P w base (fun _ => true) true t v d ps) : ∃ n L, IsLimbs w v n L := by
  obtain ⟨a0, len, cap, rfl⟩ := okWide_slice ht hval
  obtain ⟨fuel, hf⟩ := hd
  rcases open_ints ht he hc hf with ⟨hcs, _⟩ | ⟨a, len', cap', zs, hcs, _, hl, hm, hz, _, hcell, hwz⟩
  · simp [Value.cells] at hcs
    obtain ⟨rfl, rfl, rfl⟩ := hcs
    exact ⟨0, 0, ⟨⟨none, 0, rfl, Nat.le_refl _, fun h => absurd h (by omega)⟩, P2_pos _⟩⟩
  · simp [Value.cells] at hcs
    obtain ⟨rfl, rfl, rfl⟩ := hcs
    simp only [if_true] at hz
    obtain ⟨n, hn, hlim⟩ := limbs_make ((zs.take len).map Int.toNat) (by
      intro x hx
      obtain ⟨z, hz1, rfl⟩ := List.mem_map.1 hx
      obtain ⟨k, rfl, hk⟩ := u64_bounds (hwz z (List.mem_of_mem_take hz1))
      exact hk)
    have hlen : ((zs.take len).map Int.toNat).length = len := by simp; omega
    rw [hlen] at hn
    refine ⟨n, len, ⟨⟨_, cap, rfl, hl, fun h0 => ?_⟩, hn⟩⟩
    obtain ⟨b, off, spot⟩ := a
    have c0 := hcell 0 (by omega)
    have hspot : spot = none := by simpa [Addr.add] using World.cell?_spot c0
    subst hspot
    refine ⟨b, off, rfl, block_lt_of_cell (a := ⟨b, off, none⟩) (by simpa [Addr.add] using c0), fun i hi => ?_⟩
    have ci := hcell i (by omega)
    rw [Addr.add_lit] at ci
    rw [ci]
    have hiz : i < zs.length := by omega
    obtain ⟨k, hk, hk2⟩ := u64_bounds (hwz (zs.getD i 0) (by rw [List.getD_eq_getElem?_getD, List.getElem?_eq_getElem hiz]; exact List.getElem_mem hiz))
    have := hlim i k (by
      rw [List.getElem?_map, List.getElem?_take, if_pos hi, List.getElem?_eq_getElem hiz]
      rw [List.getD_eq_getElem?_getD, List.getElem?_eq_getElem hiz] at hk
      simp only [Option.getD_some] at hk
      simp [hk])
    rw [this, hk]
theorem wide_of {cs : List Value} (h : Leaves [.int .u64, .int .u64, .int .u64, .int .u64, .int .u64, .int .u64, .int .u64, .int .u64] cs) : ∃ n, n < M ∧ cs.toArray = wcells n := by
  obtain ⟨_, _, rfl, ⟨x0, rfl, w0⟩, _, _, rfl, ⟨x1, rfl, w1⟩, _, _, rfl, ⟨x2, rfl, w2⟩, _, _, rfl, ⟨x3, rfl, w3⟩, _, _, rfl, ⟨x4, rfl, w4⟩, _, _, rfl, ⟨x5, rfl, w5⟩, _, _, rfl, ⟨x6, rfl, w6⟩, _, _, rfl, ⟨x7, rfl, w7⟩, hE⟩ := h
  obtain rfl := hE
  obtain ⟨k0, rfl, h0⟩ := u64_bounds w0
  obtain ⟨k1, rfl, h1⟩ := u64_bounds w1
  obtain ⟨k2, rfl, h2⟩ := u64_bounds w2
  obtain ⟨k3, rfl, h3⟩ := u64_bounds w3
  obtain ⟨k4, rfl, h4⟩ := u64_bounds w4
  obtain ⟨k5, rfl, h5⟩ := u64_bounds w5
  obtain ⟨k6, rfl, h6⟩ := u64_bounds w6
  obtain ⟨k7, rfl, h7⟩ := u64_bounds w7
  obtain ⟨n, hn, hl⟩ := limbs_make [k0, k1, k2, k3, k4, k5, k6, k7] (by simp [h0, h1, h2, h3, h4, h5, h6, h7])
  refine ⟨n, by rw [M_eq]; exact hn, ?_⟩
  unfold wcells
  rw [hl 0 k0 rfl, hl 1 k1 rfl, hl 2 k2 rfl, hl 3 k3 rfl, hl 4 k4 rfl, hl 5 k5 rfl, hl 6 k6 rfl, hl 7 k7 rfl]
theorem word_of {cs : List Value} (h : Leaves [.int .u64, .int .u64] cs) : ∃ x y : Nat, x ≤ 18446744073709551615 ∧ y ≤ 18446744073709551615 ∧ cs.toArray = #[.int .u64 x, .int .u64 y] := by
  obtain ⟨_, _, rfl, ⟨x0, rfl, w0⟩, _, _, rfl, ⟨x1, rfl, w1⟩, hE⟩ := h
  obtain rfl := hE
  obtain ⟨k0, rfl, h0⟩ := u64_bounds w0
  obtain ⟨k1, rfl, h1⟩ := u64_bounds w1
  rw [P2_64] at h0 h1
  exact ⟨k0, k1, by omega, by omega, rfl⟩
end Go.Proofs.Ytbjofgoimkmbfaa
