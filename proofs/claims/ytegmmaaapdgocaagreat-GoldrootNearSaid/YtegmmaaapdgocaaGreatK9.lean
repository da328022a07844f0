/- SEVERAL TEXTS of the seat, one behind the other: each says at its head what it proves. -/
import Derived.Test.YtegmmaaapdgocaaGreatK8
import Derived.Test.YtegmmaaapdgocaaGreatK3
import Derived.Test.YtegmmaaapdgocaaGreatK1
/- THE WALKS of the reference's numbers of wides: package radicandref02. -/
namespace Go.Proofs.YtegmmaaapdgocaaGreat
open Go Go.RowKit

theorem isBig_nil (w : World) (a : Option Addr) (c : Nat) : IsBig w (.slice a 0 c) 0 :=
  ⟨0, ⟨⟨a, c, rfl, Nat.zero_le _, fun h => absurd h (by omega)⟩, P2_pos _⟩, fun h => absurd rfl h⟩
theorem GivesBig.mono' {n : Nat} {W w w' : World} {e : Ending} (hb : Below W.heap.size W w) (h : GivesBig n w e w') : GivesBig n W e w' := by
  obtain ⟨r, h1, h2, h3⟩ := h
  exact ⟨r, h1, h2, below_then hb h3⟩
/-- One limb more. -/
theorem limb_step (a i : Nat) : a % P2 (64 * i) + limb a i * P2 (64 * i) = a % P2 (64 * (i + 1)) := by
  unfold limb
  have e : P2 (64 * (i + 1)) = P2 (64 * i) * P2 64 := by rw [← P2_add]; congr 1
  rw [e, Nat.mod_mul, Nat.mul_comm (P2 (64 * i))]
theorem mod_small (a i : Nat) (ha : a < M) : a % P2 (64 * i) < BIG := small_M (Nat.lt_of_le_of_lt (Nat.mod_le _ _) ha)
theorem limb_small (a i : Nat) : limb a i < BIG := small_of (limb_lt a i) (by omega)
theorem limb_shl_small (a i : Nat) (hi : i ≤ 8) : limb a i * P2 (64 * i) < BIG := by
  have h : limb a i * P2 (64 * i) < P2 64 * P2 (64 * i) := Nat.mul_lt_mul_of_pos_right (limb_lt a i) (P2_pos _)
  rw [← P2_add] at h
  exact small_of h (by omega)

set_option maxHeartbeats 1000000 in
theorem big_any (a : Nat) (ha : a < M) (w : World) : Calls Tryz.prog 37 #[wv a] w (GivesBig a w) := by
  have HA := Lib.hid ha
  clear ha
  go_enter Tryz.func37, Tryz.ntmps37
  go_wp2
  go_loopw [3, 4] (fun v s wr => ∃ i : Nat, i ≤ 8 ∧ s = .int .i64 i ∧ IsBig wr v (a % P2 (64 * i)) ∧ wr.heap[w.heap.size]? = some (.cells (wcells a) 24 (0, 0)) ∧ Below w.heap.size w wr) (fun _ s _ => 8 - (intOf s).toNat)
  case atStart =>
    refine ⟨0, by omega, rfl, by rw [show 64 * 0 = 0 from rfl, P2_0, Nat.mod_one]; exact isBig_nil _ _ _, ?_, ((Below.refl _ _).alloc (Nat.le_refl _) _).alloc (by simp) _⟩
    rw [alloc_old _ _ _ (by simp), alloc_new]
  case round =>
    obtain ⟨i, hi, rfl, hr, hg, hbel⟩ := hrel
    by_cases hlt : i < 8
    · have hc := cell_row hg i
      rw [wcells_get a i hlt] at hc
      have hl := limb_le a i
      have HR := Lib.hid hr; have HG := Lib.hid hg; have HB := Lib.hid hbel
      have hz := hbel.size
      have S1 := Lib.hid (fun w' => small_any (limb a i) w' hl)
      have S2 : Hid (∀ (v : Value) (w' : World), IsBig w' v (limb a i) → Calls Tryz.prog 42 #[v, .int .i64 (64 * (i : Int))] w' (GivesBig (limb a i * P2 (64 * i)) w')) := Lib.hid fun v w' h => by
        have := rshl_any v (limb a i) (64 * i) w' (limb_small a i) (by omega) h
        rw [Int.natCast_mul] at this
        exact this
      have S3 : Hid (∀ (v v2 : Value) (w' : World), IsBig w' v (a % P2 (64 * i)) → IsBig w' v2 (limb a i * P2 (64 * i)) → Calls Tryz.prog 59 #[v, v2] w' (GivesBig (a % P2 (64 * (i + 1))) w')) := Lib.hid fun v v2 w' h h2 => by
        have := add_any v v2 _ _ w' (mod_small a i HA.out) (limb_shl_small a i hi) h h2
        rwa [limb_step] at this
      clear hr hg hbel
      go_wp2_with fail
      refine (S1.out _).mono ?_
      rintro e w1 ⟨r1, rfl, hr1, hb1⟩
      have HR1 := Lib.hid (HR.out.below hb1)
      have HG1 := Lib.hid ((hb1.block _ (lt_of_heap HG.out)).trans HG.out)
      have HB1 := Lib.hid (below_then HB.out hb1)
      have HV1 := Lib.hid hr1
      clear hr1 hb1
      go_wp2_with fail
      refine (S2.out _ _ HV1.out).mono ?_
      rintro e w2 ⟨r2, rfl, hr2, hb2⟩
      have HR2 := Lib.hid (HR1.out.below hb2)
      have HG2 := Lib.hid ((hb2.block _ (lt_of_heap HG1.out)).trans HG1.out)
      have HB2 := Lib.hid (below_then HB1.out hb2)
      have HV2 := Lib.hid hr2
      clear hr2 hb2
      go_wp2_with fail
      refine (S3.out _ _ _ HR2.out HV2.out).mono ?_
      rintro e w3 ⟨r3, rfl, hr3, hb3⟩
      have HG3 := Lib.hid ((hb3.block _ (lt_of_heap HG2.out)).trans HG2.out)
      have HB3 := Lib.hid (below_then HB2.out hb3)
      have HV3 := Lib.hid hr3
      clear hr3 hb3
      go_wp2
      go_roundw
      case rel => exact ⟨i + 1, by omega, by go_num, HV3.out, HG3.out, HB3.out⟩
      case measure => simp [intOf]; omega
    · obtain rfl : i = 8 := by omega
      have HR := Lib.hid hr; have HB := Lib.hid hbel
      clear hr hg hbel
      go_wp2
      go_ret
      refine ⟨_, rfl, ?_, HB.out⟩
      have h := HR.out
      rw [show 64 * 8 = 512 from rfl, Nat.mod_eq_of_lt (by have := HA.out; rw [M_eq] at this; exact this)] at h
      exact h
end Go.Proofs.YtegmmaaapdgocaaGreat

/- THE WALK of the reference's wide of a number. -/
namespace Go.Proofs.YtegmmaaapdgocaaGreat
open Go Go.RowKit

theorem wcells_set {x y h : Nat} (hh : h < 8) (ho : ∀ j, j < 8 → j ≠ h → limb y j = limb x j) : (wcells x).setIfInBounds h (.int .u64 (limb y h : Nat)) = wcells y := by
  unfold wcells
  rcases h with _ | _ | _ | _ | _ | _ | _ | _ | h
  all_goals first | omega | skip
  all_goals simp only [List.setIfInBounds_toArray, List.set_cons_zero, List.set_cons_succ]
  all_goals try (repeat (first | rw [ho 0 (by decide) (by decide)] | rw [ho 1 (by decide) (by decide)] | rw [ho 2 (by decide) (by decide)] | rw [ho 3 (by decide) (by decide)] | rw [ho 4 (by decide) (by decide)] | rw [ho 5 (by decide) (by decide)] | rw [ho 6 (by decide) (by decide)] | rw [ho 7 (by decide) (by decide)]))
/-- The lower i digits of 32 bits. -/
theorem low_limb (b i : Nat) : limb (b % P2 (32 * (i + 1))) (i / 2) = limb (b % P2 (32 * i)) (i / 2) + dig b i * P2 (32 * (i % 2)) := by
  have hx := Nat.mod_lt b (P2_pos (32 * i))
  rw [mod_split]
  generalize b % P2 (32 * i) = x at *
  have e : P2 (32 * i) = P2 (64 * (i / 2)) * P2 (32 * (i % 2)) := by rw [← P2_add]; congr 1; omega
  have hd := dig_lt b i
  unfold limb
  rw [e, show dig b i * (P2 (64 * (i / 2)) * P2 (32 * (i % 2))) = P2 (64 * (i / 2)) * (dig b i * P2 (32 * (i % 2))) from Nat.mul_left_comm _ _ _, Nat.add_mul_div_left _ _ (P2_pos _)]
  have h1 : x / P2 (64 * (i / 2)) < P2 (32 * (i % 2)) := by rw [Nat.div_lt_iff_lt_mul (P2_pos _), Nat.mul_comm, ← e]; exact hx
  have h2 : dig b i * P2 (32 * (i % 2)) + P2 (32 * (i % 2)) ≤ P2 32 * P2 (32 * (i % 2)) := by
    rw [← Nat.succ_mul]; exact Nat.mul_le_mul_right _ hd
  have h3 : P2 32 * P2 (32 * (i % 2)) ≤ P2 64 := by rw [← P2_add]; exact P2_le (by omega)
  have h4 : x / P2 (64 * (i / 2)) + dig b i * P2 (32 * (i % 2)) < P2 64 := Nat.lt_of_lt_of_le (Nat.lt_of_lt_of_le (by omega) h2) h3
  have h5 : x / P2 (64 * (i / 2)) < P2 64 := Nat.lt_of_le_of_lt (Nat.le_add_right _ _) h4
  rw [Nat.mod_eq_of_lt h4, Nat.mod_eq_of_lt h5]
theorem low_other (b i j : Nat) (h : j ≠ i / 2) : limb (b % P2 (32 * (i + 1))) j = limb (b % P2 (32 * i)) j := by
  apply Nat.eq_of_testBit_eq
  intro t
  rw [limb_bit, limb_bit, bit_mod, bit_mod]
  by_cases ht : t < 64
  · rcases Nat.lt_or_ge j (i / 2) with h1 | h1
    · have h2 : 64 * j + t < 32 * (i + 1) := by omega
      have h3 : 64 * j + t < 32 * i := by omega
      simp [h2, h3]
    · have h2 : ¬ (64 * j + t < 32 * (i + 1)) := by omega
      have h3 : ¬ (64 * j + t < 32 * i) := by omega
      simp [h2, h3]
  · simp [ht]
theorem wide_over {b L : Nat} (h1 : b < P2 (32 * L)) (h2 : L ≠ 0 → P2 (32 * (L - 1)) ≤ b) : (16 < L ↔ M ≤ b) := by
  rw [M_eq]
  constructor
  · intro h
    exact Nat.le_trans (P2_le (by omega)) (h2 (by omega))
  · intro h
    rcases Nat.lt_or_ge 16 L with h3 | h3
    · exact h3
    · have := P2_le (show 32 * L ≤ 512 by omega); omega

attribute [local go_sem ↓] Go.wp_at_zero Go.wp_at_succ
set_option maxHeartbeats 2000000 in
theorem wide_any (v : Value) (b : Nat) (w : World) (hsb : b < BIG) (hv : IsBig w v b) :
    Calls Tryz.prog 30 #[v] w fun e w' => e = .returned (.tuple #[wv (b % M), .bool (decide (M ≤ b))]) ∧ Below w.heap.size w w' := by
  obtain ⟨L, hr, hm⟩ := hv
  have hl := small_len hr hm hsb
  obtain ⟨⟨a, cap, rfl, hcap, hx⟩, hn⟩ := hr
  have HO := Lib.hid (wide_over hn hm)
  have HN := Lib.hid hn
  have HX := Lib.hid hx
  clear hn hm hx hsb
  go_enter Tryz.func30, Tryz.ntmps30
  go_wp2
  go_loopw [5] (fun s wr => ∃ i : Nat, i ≤ L ∧ i ≤ 16 ∧ s = .int .i64 i ∧ wr.heap[w.heap.size]? = some (.cells (wcells 0) 24 (0, 0)) ∧ wr.heap[w.heap.size + 1]? = some (.cells (wcells (b % P2 (32 * i))) 24 (0, 0)) ∧ Below w.heap.size w wr) (fun s _ => L - (intOf s).toNat)
  case atStart =>
    refine ⟨0, by omega, by omega, rfl, ?_, ?_, ((Below.refl _ _).alloc (Nat.le_refl _) _).alloc (by simp) _⟩
    · rw [alloc_old _ _ _ (by simp), alloc_new]
    · rw [alloc_new' _ (by simp), show 32 * 0 = 0 from rfl, P2_0, Nat.mod_one]
  case round =>
    obtain ⟨i, hi, hi16, rfl, h0, h1, hbel⟩ := hrel
    by_cases hlt : i < L ∧ i < 16
    · obtain ⟨hl1, hl2⟩ := hlt
      obtain ⟨bb, o, rfl, ⟨_, _, hbt⟩, hcell⟩ := HX.out (by omega)
      have hbb := lt_of_heap hbt
      clear hbt
      have gb := (hbel.cell (p := ⟨bb, o + i, none⟩) hbb).trans (hcell i hl1)
      have go := cell_row h1 (i / 2)
      rw [wcells_get _ _ (by omega)] at go
      have gf := free_row h1 (i / 2)
      have gl := lt_of_heap h1
      have H0 := Lib.hid h0; have H1 := Lib.hid h1; have HB := Lib.hid hbel
      have e0 : (0 : Int) ≤ (i : Int) := Int.natCast_nonneg _
      have e1 : (i : Int) < (L : Int) := by omega
      obtain ⟨Q, hQ⟩ : ∃ Q, Q = i / 2 := ⟨_, rfl⟩
      rw [← hQ] at go gf
      have hQ8 : Q < 8 := by omega
      have e2 : (0 : Int) ≤ (Q : Int) := Int.natCast_nonneg _
      have e3 : (Q : Int) < 8 := by omega
      have q1 : Int.tdiv (i : Int) 2 = (Q : Int) := by rw [Int.tdiv_eq_ediv_of_nonneg e0]; omega
      have q2 : IntKind.i64.wrap (Q : Int) = (Q : Int) := i64wrap _ (by omega) (by omega)
      have hXl := limb_le (b % P2 (32 * i)) Q
      have hDl := dig_le b i
      have HS := Lib.hid (show limb (b % P2 (32 * (i + 1))) Q = limb (b % P2 (32 * i)) Q + dig b i * P2 (32 * (i % 2)) by rw [hQ]; exact low_limb b i)
      have hSl := limb_le (b % P2 (32 * (i + 1))) Q
      rw [HS.out] at hSl
      have HOth := Lib.hid (show ∀ j, j < 8 → j ≠ Q → limb (b % P2 (32 * (i + 1))) j = limb (b % P2 (32 * i)) j from fun j _ hj => low_other b i j (by omega))
      obtain ⟨X, hX⟩ : ∃ X, X = limb (b % P2 (32 * i)) Q := ⟨_, rfl⟩
      obtain ⟨D, hD⟩ : ∃ D, D = dig b i := ⟨_, rfl⟩
      rw [← hX] at go hXl hSl
      rw [← hD] at gb hDl hSl
      have HXX := Lib.hid hX; have HDD := Lib.hid hD; have HQQ := Lib.hid hQ
      have hmod : i % 2 = 0 ∨ i % 2 = 1 := by omega
      have gb' := ext_cell (B := wr.heap.size) gb (by have := hbel.size; omega)
      have go' := ext_cell (B := wr.heap.size) go gl
      have GF := Lib.hid gf; have GL := Lib.hid gl; have GB := Lib.hid gb; have GO := Lib.hid go
      clear hcell h0 h1 hbel hX hD hQ gb go gf
      have u1 : IntKind.u64.wrap (D : Int) = (D : Int) := by rw [u64wrap]; omega
      rcases hmod with hmod | hmod
      · have r1 : Int.tmod (i : Int) 2 = 0 := by rw [Int.tmod_eq_emod_of_nonneg e0]; omega
        have r2 : IntKind.i64.wrap 0 = 0 := i64wrap _ (by omega) (by omega)
        rw [hmod, show 32 * 0 = 0 from rfl, P2_0] at hSl
        have HM := Lib.hid hmod
        clear hmod
        go_wp2
        refine wp_region_ext_tail 17 wr.heap.size (by kernel_rfl) (by kernel_rfl) ?_
        simp only [List.take_succ_cons, List.take_zero, List.drop_succ_cons, List.drop_zero]
        repeat (go_big_quiet_step (fail))
        refine wpQuiet_nil ?_
        intro w2 hb2
        have h0 := (hb2.block _ (lt_of_heap H0.out)).trans H0.out
        have h1 := (hb2.block _ (lt_of_heap H1.out)).trans H1.out
        have cs := cell_row h1 Q
        have fs := free_row h1 Q
        rw [wcells_get _ _ hQ8, ← HXX.out] at cs
        have H0' := Lib.hid h0; have H1' := Lib.hid h1
        have HB' := Lib.hid (below_then HB.out hb2)
        clear h0 h1 hb2 gb' go' GF GL GB GO
        go_wp2
        have HN1 : Hid ((w2.setCell ⟨w.heap.size + 1, Q, none⟩ (.int .u64 ((X : Int) + (D : Int)))).heap[w.heap.size + 1]? = some (.cells (wcells (b % P2 (32 * (i + 1)))) 24 (0, 0))) := Lib.hid (by
          rw [set_row H1'.out, show ((X : Int) + (D : Int) : Int) = (limb (b % P2 (32 * (i + 1))) Q : Nat) by rw [HS.out, ← HXX.out, ← HDD.out, HM.out, show 32 * 0 = 0 from rfl, P2_0]; omega, wcells_set hQ8 HOth.out])
        have HN0 : Hid ((w2.setCell ⟨w.heap.size + 1, Q, none⟩ (.int .u64 ((X : Int) + (D : Int)))).heap[w.heap.size]? = some (.cells (wcells 0) 24 (0, 0))) := Lib.hid (by
          rw [set_other _ _ _ (by simp)]; exact H0'.out)
        have HBN := Lib.hid (below_set HB'.out (show w.heap.size ≤ w.heap.size + 1 by omega) Q (.int .u64 ((X : Int) + (D : Int))))
        go_roundw
        case rel => exact ⟨i + 1, by omega, by omega, by go_num, HN0.out, HN1.out, HBN.out⟩
        case measure => simp [intOf]; omega
      · have r1 : Int.tmod (i : Int) 2 = 1 := by rw [Int.tmod_eq_emod_of_nonneg e0]; omega
        have r2 : IntKind.i64.wrap 32 = 32 := i64wrap _ (by omega) (by omega)
        rw [hmod, show 32 * 1 = 32 from rfl, P2_32] at hSl
        have HM := Lib.hid hmod
        clear hmod
        go_wp2
        refine wp_region_ext_tail 17 wr.heap.size (by kernel_rfl) (by kernel_rfl) ?_
        simp only [List.take_succ_cons, List.take_zero, List.drop_succ_cons, List.drop_zero]
        repeat (go_big_quiet_step (fail))
        refine wpQuiet_nil ?_
        intro w2 hb2
        have h0 := (hb2.block _ (lt_of_heap H0.out)).trans H0.out
        have h1 := (hb2.block _ (lt_of_heap H1.out)).trans H1.out
        have cs := cell_row h1 Q
        have fs := free_row h1 Q
        rw [wcells_get _ _ hQ8, ← HXX.out] at cs
        have H0' := Lib.hid h0; have H1' := Lib.hid h1
        have HB' := Lib.hid (below_then HB.out hb2)
        clear h0 h1 hb2 gb' go' GF GL GB GO
        go_wp2
        have HN1 : Hid ((w2.setCell ⟨w.heap.size + 1, Q, none⟩ (.int .u64 ((X : Int) + (D : Int) * 4294967296))).heap[w.heap.size + 1]? = some (.cells (wcells (b % P2 (32 * (i + 1)))) 24 (0, 0))) := Lib.hid (by
          rw [set_row H1'.out, show ((X : Int) + (D : Int) * 4294967296 : Int) = (limb (b % P2 (32 * (i + 1))) Q : Nat) by rw [HS.out, ← HXX.out, ← HDD.out, HM.out, show 32 * 1 = 32 from rfl, P2_32]; omega, wcells_set hQ8 HOth.out])
        have HN0 : Hid ((w2.setCell ⟨w.heap.size + 1, Q, none⟩ (.int .u64 ((X : Int) + (D : Int) * 4294967296))).heap[w.heap.size]? = some (.cells (wcells 0) 24 (0, 0))) := Lib.hid (by
          rw [set_other _ _ _ (by simp)]; exact H0'.out)
        have HBN := Lib.hid (below_set HB'.out (show w.heap.size ≤ w.heap.size + 1 by omega) Q (.int .u64 ((X : Int) + (D : Int) * 4294967296)))
        go_roundw
        case rel => exact ⟨i + 1, by omega, by omega, by go_num, HN0.out, HN1.out, HBN.out⟩
        case measure => simp [intOf]; omega
    · have hge : 16 < L ∨ i = L := by omega
      have hend : b % P2 (32 * i) = b % M := by
        rcases hge with h | h
        · have : i = 16 := by omega
          subst this; rw [M_eq]
        · subst h
          have h1 : b < P2 (32 * i) := HN.out
          have h2 : b < M := by rw [M_eq]; exact Nat.lt_of_lt_of_le h1 (P2_le (by omega))
          rw [Nat.mod_eq_of_lt h1, Nat.mod_eq_of_lt h2]
      rw [hend] at h1
      have c1 := cell_row h1
      have st := st_row (P := Tryz.prog) h0 rfl (b % M)
      have H0 := Lib.hid h0
      have HB := Lib.hid hbel
      have HD : Hid (decide (16 < L) = decide (M ≤ b)) := Lib.hid (decide_eq_decide.2 HO.out)
      have hnn : ¬ ((i : Int) < (L : Int) ∧ (i : Int) < 16) := by omega
      clear h0 h1 hbel hend hge
      by_cases hA : i < L
      · have hB : ¬ (i : Int) < 16 := by omega
        clear hlt hnn
        go_wp2
        have c2 := cell_row (setRow_heap wr _ _ (wcells (b % M)) _ _ H0.out)
        refine bodyPost_ret (v := .tuple #[wv (b % M), .bool (decide (16 < (L : Int)))]) (by simp [results, Tryz.results30, go_sem, c2]) rfl ⟨?_, below_setRow' HB.out (Nat.le_refl _) _⟩
        rw [show decide (16 < (L : Int)) = decide (16 < L) from decide_eq_decide.2 (by omega), HD.out]
      · clear hlt hnn
        go_wp2
        have c2 := cell_row (setRow_heap wr _ _ (wcells (b % M)) _ _ H0.out)
        refine bodyPost_ret (v := .tuple #[wv (b % M), .bool (decide (16 < (L : Int)))]) (by simp [results, Tryz.results30, go_sem, c2]) rfl ⟨?_, below_setRow' HB.out (Nat.le_refl _) _⟩
        rw [show decide (16 < (L : Int)) = decide (16 < L) from decide_eq_decide.2 (by omega), HD.out]
end Go.Proofs.YtegmmaaapdgocaaGreat

/- THE WALKS of the reference's powers, signs and shifts with a sign. -/
namespace Go.Proofs.YtegmmaaapdgocaaGreat
open Go Go.RowKit

theorem one_small : (1 : Nat) < BIG := small_of (e := 1) (by rw [P2_eq]; decide) (by decide)
theorem P2_small {n : Nat} (h : n ≤ 900000) : P2 n < BIG := small_of (e := n + 1) (P2_lt (by omega)) (by omega)

set_option maxHeartbeats 400000 in
theorem power_any (n : Nat) (hn : n ≤ 900000) (w : World) : Calls Tryz.prog 43 #[.int .i64 n] w (GivesBig (P2 n) w) := by
  have S1 := Lib.hid (fun w' => small_any 1 w' (by omega))
  have S2 : Hid (∀ (v : Value) (w' : World), IsBig w' v 1 → Calls Tryz.prog 42 #[v, .int .i64 n] w' (GivesBig (P2 n) w')) := Lib.hid fun v w' h => by
    have := rshl_any v 1 n w' one_small hn h
    rwa [Nat.one_mul] at this
  go_enter Tryz.func43, Tryz.ntmps43
  go_wp2_with fail
  refine (S1.out _).mono ?_
  rintro e w1 ⟨r1, rfl, hr, hb⟩
  have HB1 := Lib.hid (below_then (Below.refl w.heap.size w) hb)
  have Rr1 := Lib.hid hr
  clear hr hb
  go_wp2_with fail
  refine (S2.out _ _ Rr1.out).mono ?_
  rintro e w2 ⟨r2, rfl, hr, hb⟩
  have HB2 := Lib.hid (below_then HB1.out hb)
  have Rr2 := Lib.hid hr
  clear hr hb
  go_wp2_with fail
  go_ret
  exact ⟨r2, rfl, Rr2.out, HB2.out⟩

theorem cmp_ge (a b : Nat) : decide (cmpN a b ≥ 0) = decide (b ≤ a) := by
  unfold cmpN
  split
  · simp; omega
  · split <;> simp <;> omega

end Go.Proofs.YtegmmaaapdgocaaGreat
