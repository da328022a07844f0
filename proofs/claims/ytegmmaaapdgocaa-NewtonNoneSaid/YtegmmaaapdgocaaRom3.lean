/- THE WALKS of package rom, going on: guesses; how often tables were made; a rom that isn't there. -/
import Derived.Test.YtegmmaaapdgocaaRom2
namespace Go.Proofs.Ytegmmaaapdgocaa
open Go Go.RowKit

/-- A divisor's guess. -/
def guessV (d : Nat) : Nat := if blen d = 128 then rcpN (d / P2 121 - 64) else 0
def guessB (d : Nat) : Bool := decide (blen d = 128)
/-- A radicand's guess. -/
def guessRV (n : Nat) : Nat := if blen n = 255 ∨ blen n = 256 then rtgN (n / P2 249 - 32) else 0
def guessRB (n : Nat) : Bool := decide (blen n = 255 ∨ blen n = 256)
theorem limb_own {n : Nat} (h : n < P2 64) : limb n 0 = n := by
  unfold limb
  rw [Nat.mul_zero, P2_0, Nat.div_one, Nat.mod_eq_of_lt h]
theorem high_range {d b s : Nat} (h : blen d = b) (hs : s < b) : P2 (b - 1 - s) ≤ d / P2 s ∧ d / P2 s < P2 (b - s) := by
  have hd0 : d ≠ 0 := fun e => by rw [e, blen_zero] at h; omega
  have h1 := blen_lt d
  have h2 := blen_le hd0
  rw [h] at h1 h2
  refine ⟨(Nat.le_div_iff_mul_le (P2_pos _)).2 ?_, (Nat.div_lt_iff_lt_mul (P2_pos _)).2 ?_⟩
  · rw [← P2_add, show b - 1 - s + s = b - 1 by omega]; exact h2
  · rw [← P2_add, show b - s + s = b by omega]; exact h1
attribute [local go_sem ↓] Go.wp_at_zero Go.wp_at_succ
set_option maxHeartbeats 1000000 in
theorem guess_any (g d : Nat) (hd : d < M) (w : World) (h : IsRom w g) :
    Calls Try.prog 89 #[.pointer (some ⟨g, 0, none⟩), wv d] w fun e w' => e = .returned (.tuple #[.int .u64 (guessV d : Nat), .bool (guessB d)]) ∧ RomOk w' g ∧ But (· = g) w w' := by
  have S1 := Lib.hid (fun w' => len_w d hd w')
  have KR := Lib.hid h
  have UB := Lib.hid (But.refl (· = g) w)
  by_cases hl : blen d = 128
  · obtain ⟨r1, r2⟩ := high_range hl (show 121 < 128 by omega)
    rw [show P2 (128 - 1 - 121) = 64 by rw [P2_eq]] at r1
    rw [show P2 (128 - 121) = 128 by rw [P2_eq]] at r2
    have S2 := Lib.hid (fun w' => shr_any d hd ((121 : Nat) : Int) w' (by decide) (by decide))
    rw [clampN_at (show 121 ≤ 512 by decide)] at S2
    unfold guessV guessB
    rw [if_pos hl, decide_eq_true hl]
    rw [hl] at S1
    obtain ⟨q, hq⟩ : ∃ q, q = d / P2 121 := ⟨_, rfl⟩
    obtain ⟨fl, hfl⟩ : ∃ f, f = decide (d % P2 121 ≠ 0) := ⟨_, rfl⟩
    rw [← hq, ← hfl] at S2
    rw [← hq] at r1 r2 ⊢
    have e1 : ((limb q 0 : Nat) : Int) = (q : Int) := by rw [limb_own (by rw [P2_64]; omega)]
    have S3 := Lib.hid (fun w' h => recip_any g ((q : Int) - 64) w' h)
    rw [show recipV ((q : Int) - 64) = rcpN (q - 64) by unfold recipV; rw [if_pos (by omega)]; congr 1; omega, show recipB ((q : Int) - 64) = true by unfold recipB; rw [decide_eq_true (show (0 : Int) ≤ (q : Int) - 64 by omega), decide_eq_true (show (q : Int) - 64 < 64 by omega)]; rfl] at S3
    obtain ⟨v, hv⟩ : ∃ v, v = rcpN (q - 64) := ⟨_, rfl⟩
    rw [← hv] at S3 ⊢
    have hw1 : IntKind.i64.wrap (q : Int) = (q : Int) := IntWalk.i64_in _ (by omega)
    have hw2 : IntKind.i64.wrap ((q : Int) - 64) = (q : Int) - 64 := IntWalk.i64_in _ (by omega)
    clear h hd hl r1 r2 hq hfl hv
    go_enter Try.func89, Try.ntmps89
    replace KR := Lib.hid (KR.out.older (below_al (Below.refl (w).heap.size (w)) (.cells (wcells d) 24)))
    have Gd := Lib.hid (alloc_new (w) (.cells (wcells d) 24))
    replace UB := Lib.hid (UB.out.al (.cells (wcells d) 24))
    have cGd := cell_row Gd.out
    go_wp2_with fail
    refine (S1.out _).mono ?_
    rintro e w1 ⟨rfl, hb⟩
    clear cGd
    replace UB := Lib.hid (UB.out.trans (But.of_below hb))
    replace KR := Lib.hid (KR.out.older hb)
    replace Gd := Lib.hid ((hb.block _ (lt_of_heap Gd.out)).trans Gd.out)
    clear hb
    have cGd := cell_row Gd.out
    go_wp2_with fail
    refine (S2.out _).mono ?_
    rintro e w2 ⟨rfl, hb⟩
    clear cGd
    replace UB := Lib.hid (UB.out.trans (But.of_below hb))
    replace KR := Lib.hid (KR.out.older hb)
    replace Gd := Lib.hid ((hb.block _ (lt_of_heap Gd.out)).trans Gd.out)
    clear hb
    replace KR := Lib.hid (KR.out.older (below_al (Below.refl (w2).heap.size (w2)) (.cells (wcells q) 24)))
    have Gh := Lib.hid (alloc_new (w2) (.cells (wcells q) 24))
    replace UB := Lib.hid (UB.out.al (.cells (wcells q) 24))
    have cGh := cell_row Gh.out
    go_wp2_with fail
    clear cGh
    refine (S3.out _ KR.out).mono ?_
    rintro e w9 ⟨rfl, hok, hb⟩
    have HOK := Lib.hid hok
    replace UB := Lib.hid (UB.out.trans hb)
    clear hok hb
    go_wp2
    go_ret2
    exact ⟨rfl, HOK.out, UB.out⟩
  · unfold guessV guessB
    rw [if_neg hl, decide_eq_false hl]
    have hb : (((blen d : Nat) : Int) != 128) = true := by simp; omega
    obtain ⟨l, hle⟩ : ∃ l, l = blen d := ⟨_, rfl⟩
    rw [← hle] at S1 hb
    have hb2 : ¬ (l : Int) = 128 := by omega
    have S3 := Lib.hid (fun w' h => recip_any g (-1) w' h)
    rw [show recipV (-1) = 0 from rfl, show recipB (-1) = false from rfl] at S3
    clear h hd hl hle
    go_enter Try.func89, Try.ntmps89
    replace KR := Lib.hid (KR.out.older (below_al (Below.refl (w).heap.size (w)) (.cells (wcells d) 24)))
    have Gd := Lib.hid (alloc_new (w) (.cells (wcells d) 24))
    replace UB := Lib.hid (UB.out.al (.cells (wcells d) 24))
    have cGd := cell_row Gd.out
    go_wp2_with fail
    refine (S1.out _).mono ?_
    rintro e w3 ⟨rfl, hb⟩
    clear cGd
    replace UB := Lib.hid (UB.out.trans (But.of_below hb))
    replace KR := Lib.hid (KR.out.older hb)
    replace Gd := Lib.hid ((hb.block _ (lt_of_heap Gd.out)).trans Gd.out)
    clear hb
    go_wp2_with fail
    refine (S3.out _ KR.out).mono ?_
    rintro e w9 ⟨rfl, hok, hb⟩
    have HOK := Lib.hid hok
    replace UB := Lib.hid (UB.out.trans hb)
    clear hok hb
    go_wp2
    go_ret2
    exact ⟨rfl, HOK.out, UB.out⟩
set_option maxHeartbeats 1000000 in
theorem guessRoot_any (g n : Nat) (hn : n < M) (w : World) (h : IsRom w g) :
    Calls Try.prog 57 #[.pointer (some ⟨g, 0, none⟩), wv n] w fun e w' => e = .returned (.tuple #[.int .u64 (guessRV n : Nat), .bool (guessRB n)]) ∧ RomOk w' g ∧ But (· = g) w w' := by
  have S1 := Lib.hid (fun w' => len_w n hn w')
  have KR := Lib.hid h
  have UB := Lib.hid (But.refl (· = g) w)
  by_cases hl : blen n = 255 ∨ blen n = 256
  · have hr : 32 ≤ n / P2 249 ∧ n / P2 249 < 128 := by
      rcases hl with hl | hl
      · obtain ⟨r1, r2⟩ := high_range hl (show 249 < 255 by omega)
        rw [show P2 (255 - 1 - 249) = 32 by rw [P2_eq]] at r1
        rw [show P2 (255 - 249) = 64 by rw [P2_eq]] at r2
        omega
      · obtain ⟨r1, r2⟩ := high_range hl (show 249 < 256 by omega)
        rw [show P2 (256 - 1 - 249) = 64 by rw [P2_eq]] at r1
        rw [show P2 (256 - 249) = 128 by rw [P2_eq]] at r2
        omega
    obtain ⟨r1, r2⟩ := hr
    have S2 := Lib.hid (fun w' => shr_any n hn ((249 : Nat) : Int) w' (by decide) (by decide))
    rw [clampN_at (show 249 ≤ 512 by decide)] at S2
    unfold guessRV guessRB
    rw [if_pos hl, decide_eq_true hl]
    obtain ⟨q, hq⟩ : ∃ q, q = n / P2 249 := ⟨_, rfl⟩
    obtain ⟨fl, hfl⟩ : ∃ f, f = decide (n % P2 249 ≠ 0) := ⟨_, rfl⟩
    rw [← hq, ← hfl] at S2
    rw [← hq] at r1 r2 ⊢
    have e1 : ((limb q 0 : Nat) : Int) = (q : Int) := by rw [limb_own (by rw [P2_64]; omega)]
    have S3 := Lib.hid (fun w' h => root_any g (q : Int) w' h (by omega))
    rw [show rootV (q : Int) = rtgN (q - 32) by unfold rootV; rw [if_pos (by omega)]; congr 1; omega, show rootB (q : Int) = true by unfold rootB; rw [decide_eq_true (show (32 : Int) ≤ (q : Int) by omega), decide_eq_true (show (q : Int) < 128 by omega)]; rfl] at S3
    obtain ⟨v, hv⟩ : ∃ v, v = rtgN (q - 32) := ⟨_, rfl⟩
    rw [← hv] at S3 ⊢
    have hw1 : IntKind.i64.wrap (q : Int) = (q : Int) := IntWalk.i64_in _ (by omega)
    rcases hl with hl | hl
    · rw [hl] at S1
      clear h hn hl r1 r2 hq hfl hv
      go_enter Try.func57, Try.ntmps57
      replace KR := Lib.hid (KR.out.older (below_al (Below.refl (w).heap.size (w)) (.cells (wcells n) 24)))
      have Gn := Lib.hid (alloc_new (w) (.cells (wcells n) 24))
      replace UB := Lib.hid (UB.out.al (.cells (wcells n) 24))
      have cGn := cell_row Gn.out
      go_wp2_with fail
      refine (S1.out _).mono ?_
      rintro e w4 ⟨rfl, hb⟩
      clear cGn
      replace UB := Lib.hid (UB.out.trans (But.of_below hb))
      replace KR := Lib.hid (KR.out.older hb)
      replace Gn := Lib.hid ((hb.block _ (lt_of_heap Gn.out)).trans Gn.out)
      clear hb
      have cGn := cell_row Gn.out
      go_wp2_with fail
      refine (S2.out _).mono ?_
      rintro e w5 ⟨rfl, hb⟩
      clear cGn
      replace UB := Lib.hid (UB.out.trans (But.of_below hb))
      replace KR := Lib.hid (KR.out.older hb)
      replace Gn := Lib.hid ((hb.block _ (lt_of_heap Gn.out)).trans Gn.out)
      clear hb
      replace KR := Lib.hid (KR.out.older (below_al (Below.refl (w5).heap.size (w5)) (.cells (wcells q) 24)))
      have Gh := Lib.hid (alloc_new (w5) (.cells (wcells q) 24))
      replace UB := Lib.hid (UB.out.al (.cells (wcells q) 24))
      have cGh := cell_row Gh.out
      go_wp2_with fail
      clear cGh
      refine (S3.out _ KR.out).mono ?_
      rintro e w9 ⟨rfl, hok, hb⟩
      have HOK := Lib.hid hok
      replace UB := Lib.hid (UB.out.trans hb)
      clear hok hb
      go_wp2
      go_ret2
      exact ⟨rfl, HOK.out, UB.out⟩
    · rw [hl] at S1
      clear h hn hl r1 r2 hq hfl hv
      go_enter Try.func57, Try.ntmps57
      replace KR := Lib.hid (KR.out.older (below_al (Below.refl (w).heap.size (w)) (.cells (wcells n) 24)))
      have Gn := Lib.hid (alloc_new (w) (.cells (wcells n) 24))
      replace UB := Lib.hid (UB.out.al (.cells (wcells n) 24))
      have cGn := cell_row Gn.out
      go_wp2_with fail
      refine (S1.out _).mono ?_
      rintro e w6 ⟨rfl, hb⟩
      clear cGn
      replace UB := Lib.hid (UB.out.trans (But.of_below hb))
      replace KR := Lib.hid (KR.out.older hb)
      replace Gn := Lib.hid ((hb.block _ (lt_of_heap Gn.out)).trans Gn.out)
      clear hb
      have cGn := cell_row Gn.out
      go_wp2_with fail
      refine (S2.out _).mono ?_
      rintro e w7 ⟨rfl, hb⟩
      clear cGn
      replace UB := Lib.hid (UB.out.trans (But.of_below hb))
      replace KR := Lib.hid (KR.out.older hb)
      replace Gn := Lib.hid ((hb.block _ (lt_of_heap Gn.out)).trans Gn.out)
      clear hb
      replace KR := Lib.hid (KR.out.older (below_al (Below.refl (w7).heap.size (w7)) (.cells (wcells q) 24)))
      have Gh := Lib.hid (alloc_new (w7) (.cells (wcells q) 24))
      replace UB := Lib.hid (UB.out.al (.cells (wcells q) 24))
      have cGh := cell_row Gh.out
      go_wp2_with fail
      clear cGh
      refine (S3.out _ KR.out).mono ?_
      rintro e w9 ⟨rfl, hok, hb⟩
      have HOK := Lib.hid hok
      replace UB := Lib.hid (UB.out.trans hb)
      clear hok hb
      go_wp2
      go_ret2
      exact ⟨rfl, HOK.out, UB.out⟩
  · unfold guessRV guessRB
    rw [if_neg hl, decide_eq_false hl]
    obtain ⟨l, hle⟩ : ∃ l, l = blen n := ⟨_, rfl⟩
    rw [← hle] at S1 hl
    have hb1 : ((l : Int) != 255) = true := by simp; omega
    have hb2 : ((l : Int) != 256) = true := by simp; omega
    have hb3 : ¬ (l : Int) = 255 := by omega
    have hb4 : ¬ (l : Int) = 256 := by omega
    have S3 := Lib.hid (fun w' h => root_any g (-1) w' h (by decide))
    rw [show rootV (-1) = 0 from rfl, show rootB (-1) = false from rfl] at S3
    clear h hn hl hle
    go_enter Try.func57, Try.ntmps57
    replace KR := Lib.hid (KR.out.older (below_al (Below.refl (w).heap.size (w)) (.cells (wcells n) 24)))
    have Gn := Lib.hid (alloc_new (w) (.cells (wcells n) 24))
    replace UB := Lib.hid (UB.out.al (.cells (wcells n) 24))
    have cGn := cell_row Gn.out
    go_wp2_with fail
    refine (S1.out _).mono ?_
    rintro e w8 ⟨rfl, hb⟩
    clear cGn
    replace UB := Lib.hid (UB.out.trans (But.of_below hb))
    replace KR := Lib.hid (KR.out.older hb)
    replace Gn := Lib.hid ((hb.block _ (lt_of_heap Gn.out)).trans Gn.out)
    clear hb
    go_wp2_with fail
    refine (S3.out _ KR.out).mono ?_
    rintro e w9 ⟨rfl, hok, hb⟩
    have HOK := Lib.hid hok
    replace UB := Lib.hid (UB.out.trans hb)
    clear hok hb
    go_wp2
    go_ret2
    exact ⟨rfl, HOK.out, UB.out⟩

set_option maxRecDepth 100000 in
theorem romNew_any (w : World) : Calls Try.prog 60 #[] w fun e w' => e = .returned (.pointer (some ⟨w.heap.size, 0, none⟩)) ∧ RomNew w' w.heap.size ∧ Below w.heap.size w w' := by
  go_enter Try.func60, Try.ntmps60
  go_wp2
  go_ret
  exact ⟨rfl, ⟨_, alloc_new _ _, by simp, rfl, rfl, rfl⟩, below_al (Below.refl _ _) _⟩
end Go.Proofs.Ytegmmaaapdgocaa
