/- THE WALKS of package rom, going on: of a rom that isn't there. -/
import Derived.Test.YtkkjbkadaofjpaaRom3
namespace Go.Proofs.Ytkkjbkadaofjpaa
open Go Go.RowKit

attribute [local go_sem ↓] Go.wp_at_zero Go.wp_at_succ
theorem recip_nil (i : Int) (w : World) : Calls Try.prog 21 #[.pointer none, .int .i64 i] w fun e w' => e = .returned (.tuple #[.int .u64 0, .bool false]) ∧ Below w.heap.size w w' := by
  have S1 := Lib.hid (fun w' fv => ask_nil i 64 fv w')
  go_enter Try.func21, Try.ntmps21
  have HB := Lib.hid (Below.refl w.heap.size w)
  have Gr := Lib.hid (alloc_new (w) (.cells #[.pointer none] 22))
  replace HB := Lib.hid (below_al HB.out (.cells #[.pointer none] 22))
  go_wp2_with fail
  refine (S1.out _ _).mono ?_
  rintro e w1 ⟨rfl, rfl⟩
  go_wp2
  go_ret2
  exact ⟨rfl, HB.out⟩
theorem root_nil (i : Int) (w : World) : Calls Try.prog 22 #[.pointer none, .int .i64 i] w fun e w' => e = .returned (.tuple #[.int .u64 0, .bool false]) ∧ Below w.heap.size w w' := by
  have S1 := Lib.hid (fun w' j fv => ask_nil j 96 fv w')
  go_enter Try.func22, Try.ntmps22
  have HB := Lib.hid (Below.refl w.heap.size w)
  have Gr := Lib.hid (alloc_new (w) (.cells #[.pointer none] 22))
  replace HB := Lib.hid (below_al HB.out (.cells #[.pointer none] 22))
  go_wp2_with fail
  refine (S1.out _ _ _).mono ?_
  rintro e w1 ⟨rfl, rfl⟩
  go_wp2
  go_ret2
  exact ⟨rfl, HB.out⟩
set_option maxHeartbeats 1000000 in
theorem guess_nil (d : Nat) (hd : d < M) (w : World) : Calls Try.prog 41 #[.pointer none, wv d] w fun e w' => e = .returned (.tuple #[.int .u64 0, .bool false]) ∧ Below w.heap.size w w' := by
  have S1 := Lib.hid (fun w' => len_w d hd w')
  have S3 := Lib.hid (fun i w' => recip_nil i w')
  have S2 := Lib.hid (fun w' => shr_any d hd ((121 : Nat) : Int) w' (by decide) (by decide))
  rw [clampN_at (show 121 ≤ 512 by decide)] at S2
  obtain ⟨q, hq⟩ : ∃ q, q = d / P2 121 := ⟨_, rfl⟩
  obtain ⟨fl, hfl⟩ : ∃ f, f = decide (d % P2 121 ≠ 0) := ⟨_, rfl⟩
  rw [← hq, ← hfl] at S2
  obtain ⟨l, hle⟩ : ∃ l, l = blen d := ⟨_, rfl⟩
  rw [← hle] at S1
  clear hd hq hfl hle
  by_cases hl : l = 128
  · subst hl
    go_enter Try.func41, Try.ntmps41
    have HB := Lib.hid (Below.refl w.heap.size w)
    have Gd := Lib.hid (alloc_new (w) (.cells (wcells d) 31))
    replace HB := Lib.hid (below_al HB.out (.cells (wcells d) 31))
    have cGd := cell_row Gd.out
    go_wp2_with fail
    refine (S1.out _).mono ?_
    rintro e w1 ⟨rfl, hb⟩
    clear cGd
    replace HB := Lib.hid (below_then HB.out hb)
    replace Gd := Lib.hid ((hb.block _ (lt_of_heap Gd.out)).trans Gd.out)
    clear hb
    have cGd := cell_row Gd.out
    go_wp2_with fail
    refine (S2.out _).mono ?_
    rintro e w2 ⟨rfl, hb⟩
    clear cGd
    replace HB := Lib.hid (below_then HB.out hb)
    replace Gd := Lib.hid ((hb.block _ (lt_of_heap Gd.out)).trans Gd.out)
    clear hb
    have Gh := Lib.hid (alloc_new (w2) (.cells (wcells q) 31))
    replace HB := Lib.hid (below_al HB.out (.cells (wcells q) 31))
    have cGh := cell_row Gh.out
    go_wp2_with fail
    refine (S3.out _ _).mono ?_
    rintro e w3 ⟨rfl, hb⟩
    clear cGh
    replace HB := Lib.hid (below_then HB.out hb)
    replace Gh := Lib.hid ((hb.block _ (lt_of_heap Gh.out)).trans Gh.out)
    clear hb
    go_wp2
    go_ret2
    exact ⟨rfl, HB.out⟩
  · have hb : ((l : Int) != 128) = true := by simp; omega
    have hb2 : ¬ (l : Int) = 128 := by omega
    clear hl
    go_enter Try.func41, Try.ntmps41
    have HB := Lib.hid (Below.refl w.heap.size w)
    have Gd := Lib.hid (alloc_new (w) (.cells (wcells d) 31))
    replace HB := Lib.hid (below_al HB.out (.cells (wcells d) 31))
    have cGd := cell_row Gd.out
    go_wp2_with fail
    refine (S1.out _).mono ?_
    rintro e w4 ⟨rfl, hb⟩
    clear cGd
    replace HB := Lib.hid (below_then HB.out hb)
    replace Gd := Lib.hid ((hb.block _ (lt_of_heap Gd.out)).trans Gd.out)
    clear hb
    go_wp2_with fail
    refine (S3.out _ _).mono ?_
    rintro e w5 ⟨rfl, hb⟩
    replace HB := Lib.hid (below_then HB.out hb)
    clear hb
    go_wp2
    go_ret2
    exact ⟨rfl, HB.out⟩
set_option maxHeartbeats 1000000 in
theorem guessRoot_nil (n : Nat) (hn : n < M) (w : World) : Calls Try.prog 42 #[.pointer none, wv n] w fun e w' => e = .returned (.tuple #[.int .u64 0, .bool false]) ∧ Below w.heap.size w w' := by
  have S1 := Lib.hid (fun w' => len_w n hn w')
  have S3 := Lib.hid (fun i w' => root_nil i w')
  have S2 := Lib.hid (fun w' => shr_any n hn ((249 : Nat) : Int) w' (by decide) (by decide))
  rw [clampN_at (show 249 ≤ 512 by decide)] at S2
  obtain ⟨q, hq⟩ : ∃ q, q = n / P2 249 := ⟨_, rfl⟩
  obtain ⟨fl, hfl⟩ : ∃ f, f = decide (n % P2 249 ≠ 0) := ⟨_, rfl⟩
  rw [← hq, ← hfl] at S2
  obtain ⟨l, hle⟩ : ∃ l, l = blen n := ⟨_, rfl⟩
  rw [← hle] at S1
  clear hn hq hfl hle
  by_cases hl : l = 255
  · subst hl
    go_enter Try.func42, Try.ntmps42
    have HB := Lib.hid (Below.refl w.heap.size w)
    have Gd := Lib.hid (alloc_new (w) (.cells (wcells n) 31))
    replace HB := Lib.hid (below_al HB.out (.cells (wcells n) 31))
    have cGd := cell_row Gd.out
    go_wp2_with fail
    refine (S1.out _).mono ?_
    rintro e w6 ⟨rfl, hb⟩
    clear cGd
    replace HB := Lib.hid (below_then HB.out hb)
    replace Gd := Lib.hid ((hb.block _ (lt_of_heap Gd.out)).trans Gd.out)
    clear hb
    have cGd := cell_row Gd.out
    go_wp2_with fail
    refine (S2.out _).mono ?_
    rintro e w7 ⟨rfl, hb⟩
    clear cGd
    replace HB := Lib.hid (below_then HB.out hb)
    replace Gd := Lib.hid ((hb.block _ (lt_of_heap Gd.out)).trans Gd.out)
    clear hb
    have Gh := Lib.hid (alloc_new (w7) (.cells (wcells q) 31))
    replace HB := Lib.hid (below_al HB.out (.cells (wcells q) 31))
    have cGh := cell_row Gh.out
    go_wp2_with fail
    refine (S3.out _ _).mono ?_
    rintro e w8 ⟨rfl, hb⟩
    clear cGh
    replace HB := Lib.hid (below_then HB.out hb)
    replace Gh := Lib.hid ((hb.block _ (lt_of_heap Gh.out)).trans Gh.out)
    clear hb
    go_wp2
    go_ret2
    exact ⟨rfl, HB.out⟩
  · by_cases hl2 : l = 256
    · subst hl2
      clear hl
      go_enter Try.func42, Try.ntmps42
      have HB := Lib.hid (Below.refl w.heap.size w)
      have Gd := Lib.hid (alloc_new (w) (.cells (wcells n) 31))
      replace HB := Lib.hid (below_al HB.out (.cells (wcells n) 31))
      have cGd := cell_row Gd.out
      go_wp2_with fail
      refine (S1.out _).mono ?_
      rintro e w9 ⟨rfl, hb⟩
      clear cGd
      replace HB := Lib.hid (below_then HB.out hb)
      replace Gd := Lib.hid ((hb.block _ (lt_of_heap Gd.out)).trans Gd.out)
      clear hb
      have cGd := cell_row Gd.out
      go_wp2_with fail
      refine (S2.out _).mono ?_
      rintro e w10 ⟨rfl, hb⟩
      clear cGd
      replace HB := Lib.hid (below_then HB.out hb)
      replace Gd := Lib.hid ((hb.block _ (lt_of_heap Gd.out)).trans Gd.out)
      clear hb
      have Gh := Lib.hid (alloc_new (w10) (.cells (wcells q) 31))
      replace HB := Lib.hid (below_al HB.out (.cells (wcells q) 31))
      have cGh := cell_row Gh.out
      go_wp2_with fail
      refine (S3.out _ _).mono ?_
      rintro e w11 ⟨rfl, hb⟩
      clear cGh
      replace HB := Lib.hid (below_then HB.out hb)
      replace Gh := Lib.hid ((hb.block _ (lt_of_heap Gh.out)).trans Gh.out)
      clear hb
      go_wp2
      go_ret2
      exact ⟨rfl, HB.out⟩
    · have hb : ((l : Int) != 255) = true := by simp; omega
      have hb2 : ((l : Int) != 256) = true := by simp; omega
      have hb3 : ¬ (l : Int) = 255 := by omega
      have hb4 : ¬ (l : Int) = 256 := by omega
      clear hl hl2
      go_enter Try.func42, Try.ntmps42
      have HB := Lib.hid (Below.refl w.heap.size w)
      have Gd := Lib.hid (alloc_new (w) (.cells (wcells n) 31))
      replace HB := Lib.hid (below_al HB.out (.cells (wcells n) 31))
      have cGd := cell_row Gd.out
      go_wp2_with fail
      refine (S1.out _).mono ?_
      rintro e w12 ⟨rfl, hb⟩
      clear cGd
      replace HB := Lib.hid (below_then HB.out hb)
      replace Gd := Lib.hid ((hb.block _ (lt_of_heap Gd.out)).trans Gd.out)
      clear hb
      go_wp2_with fail
      refine (S3.out _ _).mono ?_
      rintro e w13 ⟨rfl, hb⟩
      replace HB := Lib.hid (below_then HB.out hb)
      clear hb
      go_wp2
      go_ret2
      exact ⟨rfl, HB.out⟩
end Go.Proofs.Ytkkjbkadaofjpaa
