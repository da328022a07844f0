/- THE WALK of the law on the rules of rounding. -/
import Derived.Test.YtenkaobgoknlhaaMode4
import Derived.Test.YtenkaobgoknlhaaLaw08
namespace Go.Proofs.Ytenkaobgoknlhaa
open Go Go.RowKit

def mirN (m : Int) : Int := if isMode m then (if m = 4 then 5 else if m = 5 then 4 else m) else 0
theorem mirror_w (m : Int) (w : World) (h1 : 1 ≤ m) (h5 : m ≤ 5) : Calls Try.prog 92 #[.int .i64 m] w fun e w' => e = .returned (.int .i64 (mirN m)) ∧ Below w.heap.size w w' := by
  have hi : isMode m = true := decide_eq_true ⟨h1, h5⟩
  have SI := Lib.hid (fun w' => mode_is m w')
  rw [hi] at SI
  have hm5 : m = 1 ∨ m = 2 ∨ m = 3 ∨ m = 4 ∨ m = 5 := by omega
  clear hi
  rcases hm5 with rfl | rfl | rfl | rfl | rfl
  all_goals
    clear h1 h5
    go_enter Try.func92, Try.ntmps92
    have HB := Lib.hid (Below.refl w.heap.size w)
    go_wp2_with fail
    refine (SI.out _).mono ?_
    rintro e w1 ⟨rfl, hb⟩
    replace HB := Lib.hid (below_then HB.out hb)
    clear hb
    go_wp2
    go_ret
    exact ⟨rfl, HB.out⟩
theorem mir_grows (m : Int) (neg odd : Bool) (r : Int) (h1 : 1 ≤ m) (h5 : m ≤ 5) : growsN (mirN m) (!neg) odd r = growsN m neg odd r ∧ isMode (mirN m) = true := by
  have hm5 : m = 1 ∨ m = 2 ∨ m = 3 ∨ m = 4 ∨ m = 5 := by omega
  rcases hm5 with rfl | rfl | rfl | rfl | rfl <;> exact ⟨by unfold growsN; simp [mirN, isMode], rfl⟩
theorem cut_mir (a : Nat) (n m : Int) (neg : Bool) (h1 : 1 ≤ m) (h5 : m ≤ 5) : cutV a n false (mirN m) (!neg) = cutV a n false m neg ∧ cutB a n false (mirN m) = cutB a n false m ∧ cutB a n false 3 = cutB a n false m ∧ cutV a n false 3 neg = hiN a n := by
  have hi : isMode m = true := decide_eq_true ⟨h1, h5⟩
  have h3 : isMode 3 = true := rfl
  obtain ⟨g1, g2⟩ := mir_grows m neg ((hiN a n).testBit 0) (restN a n false) h1 h5
  refine ⟨?_, ?_, ?_, ?_⟩
  · unfold cutV upN; rw [g1, g2, hi]
  · unfold cutB; rw [g2, hi]
  · unfold cutB; rw [h3, hi]
  · unfold cutV upN
    rw [if_pos h3, if_neg]
    unfold growsN
    split <;> simp
def halfN (a : Nat) : Nat := setL a 7 (limb a 7 / 2)
theorem half_lt {a : Nat} (ha : a < M) : halfN a < P2 511 := by
  have h1 : limb a 7 / 2 < P2 63 := by
    have := limb_lt a 7
    have e : P2 64 = P2 63 * 2 := by rw [show 64 = 63 + 1 from rfl, P2_add, P2_1]
    omega
  unfold halfN setL
  have h2 : a / P2 (64 * (7 + 1)) = 0 := Nat.div_eq_of_lt (by rw [M_eq] at ha; exact ha)
  rw [h2, Nat.mul_zero, Nat.add_zero]
  have h3 := Nat.mod_lt a (P2_pos (64 * 7))
  have h4 : P2 (64 * 7) * (limb a 7 / 2 + 1) ≤ P2 (64 * 7) * P2 63 := Nat.mul_le_mul_left _ h1
  rw [Nat.mul_add, Nat.mul_one] at h4
  have h5 : P2 511 = P2 (64 * 7) * P2 63 := by rw [← P2_add]
  omega
theorem half_cells (a : Nat) : (wcells a).setIfInBounds 7 (.int .u64 ((limb a 7 / 2 : Nat) : Int)) = wcells (halfN a) := by
  have hv : limb a 7 / 2 < P2 64 := Nat.lt_of_le_of_lt (Nat.div_le_self _ _) (limb_lt a 7)
  exact wcells_put (by decide) (by unfold halfN; rw [limb_setL _ _ _ _ hv, if_pos rfl]) (fun j _ hj => by unfold halfN; rw [limb_setL _ _ _ _ hv, if_neg hj])
/-- What the law asks of the numbers. -/
theorem rules_ok {a : Nat} (ha : a < P2 511) (n m : Int) (neg : Bool) (h1 : 1 ≤ m) (h5 : m ≤ 5) :
    cutV a n false m neg = (if upN a n false m neg then hiN a n + 1 else hiN a n) ∧ (upN a n false m neg = true → cutB a n false m = true) ∧ (m = 4 → cutB a n false m = true → upN a n false m neg = !neg) ∧ (m = 5 → cutB a n false m = true → upN a n false m neg = neg) := by
  have hi : isMode m = true := decide_eq_true ⟨h1, h5⟩
  have hM := M_half
  have hh : hiN a n + 1 < M := by
    have := Nat.div_le_self a (P2 (clamp7 n))
    have := P2_pos 511
    unfold hiN
    have : P2 1 ≤ P2 511 := P2_le (by omega)
    rw [P2_1] at this
    omega
  have hr := restN_range a n false
  refine ⟨?_, ?_, ?_, ?_⟩
  · unfold cutV; rw [if_pos hi, Nat.mod_eq_of_lt hh]
  · intro h
    unfold cutB; rw [hi, Bool.true_and]
    unfold upN growsN at h
    split at h
    · cases h
    · simp; omega
  · rintro rfl h
    unfold cutB at h; rw [hi, Bool.true_and] at h
    have h0 : restN a n false ≠ 0 := by simpa using h
    unfold upN growsN
    rw [if_neg (by omega)]; simp
  · rintro rfl h
    unfold cutB at h; rw [hi, Bool.true_and] at h
    have h0 : restN a n false ≠ 0 := by simpa using h
    unfold upN growsN
    rw [if_neg (by omega)]; simp

theorem tmod5 (q : Int) : -4 ≤ Int.tmod q 5 ∧ Int.tmod q 5 ≤ 4 := by
  rcases Int.le_total 0 q with h | h
  · rw [Int.tmod_eq_emod_of_nonneg h]; omega
  · obtain ⟨p, rfl⟩ : ∃ p, q = -p := ⟨-q, by omega⟩
    rw [Int.neg_tmod, Int.tmod_eq_emod_of_nonneg (by omega)]; omega

attribute [local go_sem ↓] Go.wp_at_zero Go.wp_at_succ
set_option maxRecDepth 100000 in
set_option maxHeartbeats 4000000 in
theorem modeRules_any (a : Nat) (n q0 q1 : Int) (w : World) (ha : a < M) (h1 : 0 ≤ n) (h2 : n ≤ 65535)
    (_a1 : -9223372036854775808 ≤ q0) (_a2 : q0 ≤ 9223372036854775807) (_b1 : -9223372036854775808 ≤ q1) (_b2 : q1 ≤ 9223372036854775807) :
    Calls Try.prog 20 #[wv a, .int .u16 n, .agg #[.int .i64 q0, .int .i64 q1]] w fun e w' => e = .returned (.bool true) ∧ Below w.heap.size w w' := by
  have ht := tmod5 q0
  obtain ⟨ht1, ht2⟩ := ht
  have u1 : IntKind.i64.wrap (Int.tmod q0 5) = Int.tmod q0 5 := IntWalk.i64_in _ (by omega)
  have u2 : IntKind.i64.wrap (Int.tmod q0 5 + 5) = Int.tmod q0 5 + 5 := IntWalk.i64_in _ (by omega)
  have u3 : Int.tmod (Int.tmod q0 5 + 5) 5 = (Int.tmod q0 5 + 5) % 5 := Int.tmod_eq_emod_of_nonneg (by omega)
  have u4 : IntKind.i64.wrap ((Int.tmod q0 5 + 5) % 5) = (Int.tmod q0 5 + 5) % 5 := IntWalk.i64_in _ (by omega)
  have u5 : IntKind.i64.wrap (1 + (Int.tmod q0 5 + 5) % 5) = 1 + (Int.tmod q0 5 + 5) % 5 := IntWalk.i64_in _ (by omega)
  have HA := Lib.hid ha
  have SA := Lib.hid (fun w' => awake08_any w')
  clear ha _a1 _a2 _b1 _b2
  go_enter Try.func20, Try.ntmps20
  have HB := Lib.hid (Below.refl w.heap.size w)
  have Ga := Lib.hid (alloc_new (w) (.cells (wcells a) 26))
  replace HB := Lib.hid (below_al HB.out (.cells (wcells a) 26))
  replace Ga := Lib.hid (keepAl (o' := .cells #[.int .i64 q0, .int .i64 q1] 100) Ga.out)
  have Gq := Lib.hid (alloc_new' (w := (w).alloc (.cells (wcells a) 26)) (n := w.heap.size + 1) (.cells #[.int .i64 q0, .int .i64 q1] 100) (by simp))
  replace HB := Lib.hid (below_al HB.out (.cells #[.int .i64 q0, .int .i64 q1] 100))
  go_upto_region 1 with fail
  obtain ⟨wL, hw⟩ : ∃ wx, wx = ((w).alloc (.cells (wcells a) 26)).alloc (.cells #[.int .i64 q0, .int .i64 q1] 100) := ⟨_, rfl⟩
  rw [← hw] at Ga Gq HB ⊢
  clear hw
  go_cut [7, 8] (fun s7 s8 wx => (∃ k m : Int, s7 = .int .i64 k ∧ s8 = .int .i64 m ∧ 0 ≤ k ∧ k < 520 ∧ 1 ≤ m ∧ m ≤ 5) ∧ wx.heap[w.heap.size]? = some (.cells (wcells a) 26 (0, 0)) ∧ wx.heap[w.heap.size + 1]? = some (.cells #[.int .i64 q0, .int .i64 q1] 100 (0, 0)) ∧ Below w.heap.size w wx)
  case first =>
    have xGa := ext_row (B := wL.heap.size) Ga.out (lt_of_heap Ga.out)
    have xGq := ext_row (B := wL.heap.size) Gq.out (lt_of_heap Gq.out)
    refine wp_region_ext wL.heap.size (by kernel_rfl) (by kernel_rfl) ?_
    repeat (go_big_quiet_step (fail))
    refine wpQuiet_nil ?_
    intro w2 hb
    clear xGa xGq
    replace HB := Lib.hid (below_then HB.out hb)
    replace Ga := Lib.hid ((hb.block _ (lt_of_heap Ga.out)).trans Ga.out)
    replace Gq := Lib.hid ((hb.block _ (lt_of_heap Gq.out)).trans Gq.out)
    clear hb
    go_wp2
    go_meet
    exact ⟨⟨_, _, rfl, rfl, by omega, by omega, by omega, by omega⟩, Ga.out, Gq.out, HB.out⟩
  case rest =>
    obtain ⟨⟨k, m, rfl, rfl, hk0, hk5, hm1, hm5⟩, hg1, hg2, hbw⟩ := hcut
    replace Ga := Lib.hid hg1; replace Gq := Lib.hid hg2; replace HB := Lib.hid hbw
    clear hg1 hg2 hbw u1 u2 u3 u4 u5 ht1 ht2
    go_upto_region 2 with fail
    go_cut [9] (fun s9 wx => (∃ b : Bool, s9 = .bool b) ∧ wx.heap[w.heap.size]? = some (.cells (wcells a) 26 (0, 0)) ∧ wx.heap[w.heap.size + 1]? = some (.cells #[.int .i64 q0, .int .i64 q1] 100 (0, 0)) ∧ Below w.heap.size w wx)
    case first =>
      have cq := cell_row Gq.out
      go_wp2
      go_meet
      exact ⟨⟨_, rfl⟩, Ga.out, Gq.out, HB.out⟩
    case rest =>
      obtain ⟨⟨neg, rfl⟩, hg1, hg2, hbw⟩ := hcut
      replace Ga := Lib.hid hg1; replace HB := Lib.hid hbw
      clear hg1 hg2 hbw Gq
      have hla := half_lt HA.out
      have haM : halfN a < M := by have := M_half; have := P2_pos 511; omega
      obtain ⟨R1, R2, R3, R4⟩ := rules_ok hla k m neg hm1 hm5
      obtain ⟨C1, C2, C3, C4⟩ := cut_mir (halfN a) k m neg hm1 hm5
      obtain ⟨g1, g2⟩ := mir_grows m neg false 0 hm1 hm5
      have S1 := Lib.hid (fun w' => cut_w (halfN a) k false m neg w' haM (by omega) (by omega))
      have S2 := Lib.hid (fun w' => mirror_w m w' hm1 hm5)
      have S3 := Lib.hid (fun w' => cut_w (halfN a) k false (mirN m) (!neg) w' haM (by omega) (by omega))
      have S4 := Lib.hid (fun w' => cut_w (halfN a) k false 3 neg w' haM (by omega) (by omega))
      rw [C1, C2] at S3
      rw [C3, C4] at S4
      rw [R1] at S1 S3
      have hhM : hiN (halfN a) k + 1 < M := by
        have h1 := Nat.div_le_self (halfN a) (P2 (clamp7 k))
        have h2 := M_half
        have h3 : P2 1 ≤ P2 511 := P2_le (by omega)
        rw [P2_1] at h3
        unfold hiN
        omega
      have HC := Lib.hid (half_cells a)
      have hv7 : ((limb a 7 : Nat) : Int) / 2 = ((limb a 7 / 2 : Nat) : Int) := by omega
      have g7 := wcells_7 a
      have hw7 : IntKind.u64.wrap ((limb a 7 / 2 : Nat) : Int) = ((limb a 7 / 2 : Nat) : Int) := by rw [u64wrap]; have := limb_le a 7; omega
      obtain ⟨V7, hV7⟩ : ∃ V, V = limb a 7 / 2 := ⟨_, rfl⟩
      rw [← hV7] at HC hv7 hw7
      obtain ⟨A, hA⟩ : ∃ V, V = halfN a := ⟨_, rfl⟩
      rw [← hA] at HC S1 S3 S4 R2 R3 R4 hhM
      obtain ⟨H, hH⟩ : ∃ V, V = hiN A k := ⟨_, rfl⟩
      rw [← hH] at S1 S3 S4 hhM
      obtain ⟨U, hU⟩ : ∃ V, V = upN A k false m neg := ⟨_, rfl⟩
      rw [← hU] at S1 S3 R2 R3 R4
      obtain ⟨B, hB⟩ : ∃ V, V = cutB A k false m := ⟨_, rfl⟩
      rw [← hB] at S1 S3 S4 R2 R3 R4
      obtain ⟨mm, hmm⟩ : ∃ V, V = mirN m := ⟨_, rfl⟩
      rw [← hmm] at S2 S3
      have HMa := Lib.hid hhM
      clear hla haM R1 C1 C2 C3 C4 g1 g2 hV7 hA hH hU hB hmm
      obtain ⟨X, hX⟩ : ∃ X, X = (if U = true then H + 1 else H) := ⟨_, rfl⟩
      rw [← hX] at S1 S3
      have HXM : Hid (X < M) := Lib.hid (by rw [hX]; split <;> omega)
      have HU : Hid ((U = false ∧ X = H) ∨ (U = true ∧ X = H + 1)) := Lib.hid (by rw [hX]; cases U <;> simp)
      clear hX
      have ca := cell_row Ga.out
      have cf := free_row Ga.out
      go_upto_region 4 with fail
      replace Ga : Hid ((wc.setCell ⟨w.heap.size, 7, none⟩ (.int .u64 (V7 : Nat))).heap[w.heap.size]? = some (.cells (wcells A) 26 (0, 0))) := Lib.hid (by rw [set_row Ga.out, HC.out])
      replace HB := Lib.hid (below_set HB.out (Nat.le_refl _) 7 (.int .u64 (V7 : Nat)))
      clear ca cf hv7 hw7 g7
      obtain ⟨wS, hw⟩ : ∃ wx, wx = wc.setCell ⟨w.heap.size, 7, none⟩ (.int .u64 (V7 : Nat)) := ⟨_, rfl⟩
      rw [← hw] at Ga HB ⊢
      clear hw
      have cGa := cell_row Ga.out
      go_wp2_with fail
      refine (S1.out _).mono ?_
      rintro e w3 ⟨rfl, hb⟩
      clear cGa
      replace HB := Lib.hid (below_then HB.out hb)
      replace Ga := Lib.hid ((hb.block _ (lt_of_heap Ga.out)).trans Ga.out)
      clear hb
      replace Ga := Lib.hid (keepAl (o' := .cells (wcells X) 26) Ga.out)
      have Gx := Lib.hid (alloc_new (w3) (.cells (wcells X) 26))
      replace HB := Lib.hid (below_al HB.out (.cells (wcells X) 26))
      have cGa := cell_row Ga.out
      have cGx := cell_row Gx.out
      go_upto_region 5 with fail
      clear cGa cGx
      obtain ⟨wL, hw⟩ : ∃ wx, wx = (w3).alloc (.cells (wcells X) 26) := ⟨_, rfl⟩
      rw [← hw] at Ga Gx HB ⊢
      clear hw
      go_cut [12, 13] (fun s12 s13 wx => (∃ g, s12 = .pointer (some ⟨g, 0, none⟩) ∧ wx.heap[g]? = some (.cells (wcells X) 26 (0, 0))) ∧ s13 = .bool B ∧ wx.heap[w.heap.size]? = some (.cells (wcells A) 26 (0, 0)) ∧ wx.heap[w3.heap.size]? = some (.cells (wcells X) 26 (0, 0)) ∧ Below w.heap.size w wx)
      case first =>
        have k0 : ∀ j, wL.drew.cell? ⟨w.heap.size, j, none⟩ = (wcells A)[j]? := cell_row Ga.out
        have k1 : ∀ j, (wL.alloc (.cells (wcells 0) 26)).drew.cell? ⟨w.heap.size, j, none⟩ = (wcells A)[j]? := cell_row (w := (wL.alloc (.cells (wcells 0) 26)).drew) (keepAl Ga.out)
        have HL0 := Lib.hid (Below.refl wL.heap.size wL).drew
        have hnot : ∀ (x : Bool) (w : World), (Op.unary .not (.bool x)).run Try.prog w = .ok (.bool (!x)) w := fun _ _ => rfl
        have HA0 := Lib.hid (below_al (Below.refl wL.heap.size wL) (.cells (wcells 0) 26)).drew
        go_region_with
          (first
            | (go_at_call 92
               refine (S2.out _).mono ?_
               rintro e wA ⟨rfl, hb⟩
               first
                 | have HL := Lib.hid (below_then HL0.out hb)
                 | (have HL := Lib.hid (below_then HA0.out hb)
                    have GN : Hid (wA.heap[wL.heap.size]? = some (.cells (wcells 0) 26 (0, 0))) := Lib.hid ((hb.block _ (show wL.heap.size < _ by simp)).trans (alloc_new wL _)))
               have cA : ∀ j, wA.cell? ⟨w.heap.size, j, none⟩ = (wcells A)[j]? := cell_row ((HL.out.block _ (lt_of_heap Ga.out)).trans Ga.out)
               have cB : ∀ j, (wA.alloc (.cells (wcells 0) 26)).cell? ⟨w.heap.size, j, none⟩ = (wcells A)[j]? := cell_row (keepAl ((HL.out.block _ (lt_of_heap Ga.out)).trans Ga.out))
               clear hb)
            | (go_at_call 87
               refine (S3.out _).mono ?_
               rintro e wB ⟨rfl, hb⟩
               first
                 | (have HL2 := Lib.hid (below_then HL.out hb)
                    (try (have GN2 := Lib.hid ((hb.block _ (lt_of_heap GN.out)).trans GN.out); have st := st_row (P := Try.prog) GN2.out rfl X)))
                 | (have HL2 := Lib.hid (below_then (below_al HL.out (.cells (wcells 0) 26)) hb)
                    have GN2 := Lib.hid ((hb.block _ (lt_of_heap (alloc_new _ _))).trans (alloc_new _ (.cells (wcells 0) 26)))
                    have st := st_row (P := Try.prog) GN2.out rfl X)
               clear hb))
        all_goals
          go_wp2
          go_meet
          have l0 := HB.out.size
          have l1 := lt_of_heap Ga.out
          have l2 := lt_of_heap Gx.out
          have l3 := HL.out.size
          first
            | exact ⟨⟨_, rfl, alloc_new _ _⟩, rfl, keepAl ((HL2.out.block _ l1).trans Ga.out), keepAl ((HL2.out.block _ l2).trans Gx.out), below_al (below_then HB.out HL2.out) _⟩
            | exact ⟨⟨_, rfl, setRow_heap _ _ _ _ _ _ GN2.out⟩, rfl, (setRow_other _ _ _ _ (by omega)).trans ((HL2.out.block _ l1).trans Ga.out), (setRow_other _ _ _ _ (by omega)).trans ((HL2.out.block _ l2).trans Gx.out), below_setRow' (below_then HB.out HL2.out) (by omega) _⟩
      case rest =>
        obtain ⟨⟨g, rfl, hgg⟩, rfl, hg1, hg2, hbw⟩ := hcut
        replace Ga := Lib.hid hg1; replace Gx := Lib.hid hg2; replace HB := Lib.hid hbw
        have Gg := Lib.hid hgg
        clear hgg hg1 hg2 hbw S1 S2 S3
        have cGa := cell_row Ga.out
        have cGx := cell_row Gx.out
        have cGg := cell_row Gg.out
        go_wp2_with fail
        refine (S4.out _).mono ?_
        rintro e w4 ⟨rfl, hb⟩
        clear cGa cGx cGg
        replace HB := Lib.hid (below_then HB.out hb)
        replace Ga := Lib.hid ((hb.block _ (lt_of_heap Ga.out)).trans Ga.out)
        replace Gx := Lib.hid ((hb.block _ (lt_of_heap Gx.out)).trans Gx.out)
        replace Gg := Lib.hid ((hb.block _ (lt_of_heap Gg.out)).trans Gg.out)
        clear hb
        replace Ga := Lib.hid (keepAl (o' := .cells (wcells H) 26) Ga.out)
        replace Gx := Lib.hid (keepAl (o' := .cells (wcells H) 26) Gx.out)
        replace Gg := Lib.hid (keepAl (o' := .cells (wcells H) 26) Gg.out)
        have Gy := Lib.hid (alloc_new (w4) (.cells (wcells H) 26))
        replace HB := Lib.hid (below_al HB.out (.cells (wcells H) 26))
        have cGa := cell_row Ga.out
        have cGx := cell_row Gx.out
        have cGg := cell_row Gg.out
        have cGy := cell_row Gy.out
        go_upto_region 9 with fail
        clear cGa cGx cGg cGy
        obtain ⟨wL, hw⟩ : ∃ wx, wx = (w4).alloc (.cells (wcells H) 26) := ⟨_, rfl⟩
        rw [← hw] at Ga Gx Gg Gy HB ⊢
        clear hw
        go_cut [16, 17] (fun x y wx => Hid (IsBig wx x X) ∧ Hid (IsBig wx y H) ∧ Hid (Below w.heap.size w wx))
        case first =>
          have HA0 := Lib.hid (show wL.drew.heap[w3.heap.size]? = some (.cells (wcells X) 26 (0, 0)) from Gx.out)
          have HA1 := Lib.hid (show wL.drew.heap[w4.heap.size]? = some (.cells (wcells H) 26 (0, 0)) from Gy.out)
          have HB := Lib.hid HB.out.drew
          have k0 : ∀ j, wL.drew.cell? ⟨w3.heap.size, j, none⟩ = (wcells X)[j]? := cell_row HA0.out
          have k1 : ∀ j, wL.drew.cell? ⟨w4.heap.size, j, none⟩ = (wcells H)[j]? := cell_row HA1.out
          go_region_held3 (fun w' => (∀ j, w'.cell? ⟨w3.heap.size, j, none⟩ = (wcells X)[j]?) ∧ (∀ j, w'.cell? ⟨w4.heap.size, j, none⟩ = (wcells H)[j]?))
            (first
              | go_keep
              | (go_split_ands
                 refine ⟨keepRow hb ?_, keepRow hb ?_⟩ <;> assumption))
            ((go_at_call 32
              refine (big_any _ ?hM _).mono ?_
              case hM => first | exact HXM.out | (have := HMa.out; omega)
              rintro e wA ⟨rA, rfl, hr, hb⟩
              have HB := Lib.hid (below_then HB.out hb)
              (try have RX := Lib.hid (RX.out.below hb))
              (try have RY := Lib.hid (RY.out.below hb))
              have HA0 := Lib.hid ((hb.block _ (lt_of_heap HA0.out)).trans HA0.out)
              have HA1 := Lib.hid ((hb.block _ (lt_of_heap HA1.out)).trans HA1.out)
              first | have RX : Hid (IsBig wA rA X) := Lib.hid hr | have RY : Hid (IsBig wA rA H) := Lib.hid hr))
          all_goals (go_wp2; go_meet; exact ⟨by assumption, by assumption, HB⟩)
        case rest =>
          obtain ⟨RX, RY, HB⟩ := hcut
          have hB1 : M ≤ P2 512 := Nat.le_of_eq M_eq
          have hHB : H + 1 < BIG := Nat.lt_of_lt_of_le HMa.out (Nat.le_of_lt (small_M (Nat.lt_of_le_of_lt (Nat.le_refl _) (by have := HMa.out; omega : M - 1 < M)) |> fun _ => by rw [M_eq]; exact P2_small (by omega)))
          have hXB : X < BIG := by have := HXM.out; have := HMa.out; rcases HU.out with ⟨_, h⟩ | ⟨_, h⟩ <;> omega
          have T1 := Lib.hid (fun w' => small_any 1 w' (by omega))
          have T2 := Lib.hid (fun v v2 w' h h' => add_any v v2 H 1 w' (by omega) (by omega) h h')
          have T3 := Lib.hid (fun v v2 w' h h' => cmp_any v v2 X (H + 1) w' hXB hHB h h')
          have T4 := Lib.hid (fun v v2 w' h h' => cmp_any v v2 X H w' hXB (by omega) h h')
          have E5 := Lib.hid (show m = 1 ∨ m = 2 ∨ m = 3 ∨ m = 4 ∨ m = 5 by omega)
          clear hHB hXB hB1 HMa HXM
          go_wp2_with fail
          refine (T1.out _).mono ?_
          rintro e w5 ⟨rs, rfl, hr, hb⟩
          replace HB := Lib.hid (below_then HB.out hb)
          replace RX := Lib.hid (RX.out.below hb)
          replace RY := Lib.hid (RY.out.below hb)
          have Rs := Lib.hid hr
          clear hr hb
          go_wp2_with fail
          refine (T2.out _ _ _ RY.out Rs.out).mono ?_
          rintro e w6 ⟨rt, rfl, hr, hb⟩
          replace HB := Lib.hid (below_then HB.out hb)
          replace RX := Lib.hid (RX.out.below hb)
          replace RY := Lib.hid (RY.out.below hb)
          replace Rs := Lib.hid (Rs.out.below hb)
          have Rt := Lib.hid hr
          clear hr hb
          rcases HU.out with ⟨rfl, hX⟩ | ⟨rfl, hX⟩
          · have e3 : cmpN X (H + 1) = -1 := by unfold cmpN; split <;> (try split) <;> omega
            have e4 : cmpN X H = 0 := by unfold cmpN; split <;> (try split) <;> omega
            rw [e3] at T3
            rw [e4] at T4
            clear e3 e4 HU hX
            go_wp2_with fail
            refine (T3.out _ _ _ RX.out Rt.out).mono ?_
            rintro e w7 ⟨rfl, hb⟩
            replace HB := Lib.hid (below_then HB.out hb)
            replace RX := Lib.hid (RX.out.below hb)
            replace RY := Lib.hid (RY.out.below hb)
            replace Rs := Lib.hid (Rs.out.below hb)
            replace Rt := Lib.hid (Rt.out.below hb)
            clear hb
            rcases E5.out with rfl | rfl | rfl | rfl | rfl <;> cases B <;> cases neg
            all_goals first
              | exact absurd (R3 rfl rfl) (by decide)
              | exact absurd (R4 rfl rfl) (by decide)
              | (clear R2 R3 R4
                 go_wp2_with fail
                 refine (T4.out _ _ _ RX.out RY.out).mono ?_
                 rintro e w8 ⟨rfl, hb⟩
                 replace HB := Lib.hid (below_then HB.out hb)
                 replace RX := Lib.hid (RX.out.below hb)
                 replace RY := Lib.hid (RY.out.below hb)
                 replace Rs := Lib.hid (Rs.out.below hb)
                 replace Rt := Lib.hid (Rt.out.below hb)
                 clear hb
                 go_wp2_with fail
                 refine (SA.out _).mono ?_
                 rintro e w9 ⟨rfl, hb⟩
                 replace HB := Lib.hid (below_then HB.out hb)
                 replace RX := Lib.hid (RX.out.below hb)
                 replace RY := Lib.hid (RY.out.below hb)
                 replace Rs := Lib.hid (Rs.out.below hb)
                 replace Rt := Lib.hid (Rt.out.below hb)
                 clear hb
                 go_wp2
                 go_ret
                 exact ⟨rfl, HB.out⟩)
          · have e3 : cmpN X (H + 1) = 0 := by unfold cmpN; split <;> (try split) <;> omega
            rw [e3] at T3
            clear e3 HU hX
            have eB := R2 rfl
            subst eB
            go_wp2_with fail
            refine (T3.out _ _ _ RX.out Rt.out).mono ?_
            rintro e w10 ⟨rfl, hb⟩
            replace HB := Lib.hid (below_then HB.out hb)
            replace RX := Lib.hid (RX.out.below hb)
            replace RY := Lib.hid (RY.out.below hb)
            replace Rs := Lib.hid (Rs.out.below hb)
            replace Rt := Lib.hid (Rt.out.below hb)
            clear hb
            rcases E5.out with rfl | rfl | rfl | rfl | rfl <;> cases neg
            all_goals first
              | exact absurd (R3 rfl trivial) (by decide)
              | exact absurd (R4 rfl trivial) (by decide)
              | (clear R2 R3 R4
                 go_wp2_with fail
                 refine (SA.out _).mono ?_
                 rintro e w11 ⟨rfl, hb⟩
                 replace HB := Lib.hid (below_then HB.out hb)
                 replace RX := Lib.hid (RX.out.below hb)
                 replace RY := Lib.hid (RY.out.below hb)
                 replace Rs := Lib.hid (Rs.out.below hb)
                 replace Rt := Lib.hid (Rt.out.below hb)
                 clear hb
                 go_wp2
                 go_ret
                 exact ⟨rfl, HB.out⟩)
end Go.Proofs.Ytenkaobgoknlhaa
