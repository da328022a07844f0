/- THE WALKS of package wide, going on: sums and differences; and of package limb beneath them. -/
import Derived.Test.YtbjofgoimkmbfaaWide2
import Derived.Test.YtbjofgoimkmbfaaTail
import Derived.Laws.Externs
import Derived.Handy
import Derived.Deep.RegionWith
import Derived.Deep.DrawnRows
namespace Go.Proofs.Ytbjofgoimkmbfaa
open Go Go.RowKit

/-! ### The library's sums and differences of two limbs -/
def sub64Entry : Array Value → Sem Value := fun args => do
  let (x, y, b) ← Extern.MathBitsCarry.three "Sub64" args
  pure (Extern.MathBitsCarry.pair ((x + Extern.MathBitsCarry.m64 - y - b) % Extern.MathBitsCarry.m64) (if x < y + b then 1 else 0))
theorem run_sub64 {P : Program} (x y c : Nat) (hc : c ≤ 1) (w : World) :
    (sub64Entry #[.int .u64 x, .int .u64 y, .int .u64 c]).run P w = .ok (.tuple #[.int .u64 ((x + 18446744073709551616 - y - c) % 18446744073709551616 : Nat), .int .u64 ((if x < y + c then 1 else 0 : Nat) : Int)]) w := by
  have : c = 0 ∨ c = 1 := by omega
  rcases this with rfl | rfl <;> rfl
theorem add64_run (x y c : Nat) (hc : c ≤ 1) (w : World) : Sem.run Try.prog (callFunc 187 #[.int .u64 x, .int .u64 y, .int .u64 c]) w = .ok (.value (.tuple #[.int .u64 ((x + y + c) % P2 64 : Nat), .int .u64 ((x + y + c) / P2 64 : Nat)])) w := by
  rw [run_callFunc_extern Try.func187 (e := add64Entry) (by kernel_rfl) (by kernel_rfl) (by kernel_rfl) (by kernel_rfl), run_add64 _ _ _ (by omega) (by omega) (by omega) (by omega), P2_64]
  rfl
theorem sub64_run (x y c : Nat) (hc : c ≤ 1) (w : World) : Sem.run Try.prog (callFunc 189 #[.int .u64 x, .int .u64 y, .int .u64 c]) w = .ok (.value (.tuple #[.int .u64 ((x + P2 64 - y - c) % P2 64 : Nat), .int .u64 ((if x < y + c then 1 else 0 : Nat) : Int)])) w := by
  rw [run_callFunc_extern Try.func189 (e := sub64Entry) (by kernel_rfl) (by kernel_rfl) (by kernel_rfl) (by kernel_rfl), run_sub64 _ _ _ hc, P2_64]
  rfl

theorem one_any (c : Nat) (hc : c ≤ 1) (w : World) : Calls Try.prog 188 #[.int .u64 c] w fun e w' => e = .returned (.int .u64 c) ∧ w' = w := by
  have : c = 0 ∨ c = 1 := by omega
  rcases this with rfl | rfl
  all_goals
    go_enter Try.func188, Try.ntmps188
    go_wp2
    go_ret
    exact ⟨rfl, rfl⟩

theorem limbAdd_any (x y c : Nat) (hc : c ≤ 1) (w : World) : Calls Try.prog 148 #[.int .u64 x, .int .u64 y, .int .u64 c] w fun e w' => e = .returned (.tuple #[.int .u64 ((x + y + c) % P2 64 : Nat), .int .u64 ((x + y + c) / P2 64 : Nat)]) ∧ Below w.heap.size w w' := by
  have h := add64_run x y c hc w
  obtain ⟨s, hs⟩ : ∃ s, s = (x + y + c) % P2 64 := ⟨_, rfl⟩
  obtain ⟨d, hd⟩ : ∃ d, d = (x + y + c) / P2 64 := ⟨_, rfl⟩
  rw [← hs, ← hd] at h ⊢
  clear hs hd
  go_enter Try.func148, Try.ntmps148
  go_wp2_with fail
  refine (one_any c hc _).mono ?_
  rintro e w1 ⟨rfl, rfl⟩
  go_wp2
  exact bodyPost_ret (v := .tuple #[.int .u64 s, .int .u64 d]) (by simp [results, Try.results148, go_sem]) rfl ⟨rfl, Below.refl _ _⟩

theorem limbSub_any (x y c : Nat) (hc : c ≤ 1) (w : World) : Calls Try.prog 149 #[.int .u64 x, .int .u64 y, .int .u64 c] w fun e w' => e = .returned (.tuple #[.int .u64 ((x + P2 64 - y - c) % P2 64 : Nat), .int .u64 ((if x < y + c then 1 else 0 : Nat) : Int)]) ∧ Below w.heap.size w w' := by
  have h := sub64_run x y c hc w
  obtain ⟨s, hs⟩ : ∃ s, s = (x + P2 64 - y - c) % P2 64 := ⟨_, rfl⟩
  obtain ⟨d, hd⟩ : ∃ d, d = (if x < y + c then 1 else 0) := ⟨_, rfl⟩
  rw [← hs, ← hd] at h ⊢
  clear hs hd
  go_enter Try.func149, Try.ntmps149
  go_wp2_with fail
  refine (one_any c hc _).mono ?_
  rintro e w1 ⟨rfl, rfl⟩
  go_wp2
  exact bodyPost_ret (v := .tuple #[.int .u64 s, .int .u64 d]) (by simp [results, Try.results149, go_sem]) rfl ⟨rfl, Below.refl _ _⟩

/-- A function that tells each limb of r, out of those of a and b and what is carried. -/
def Carries (P : Program) (f : FuncId) (a b r : Nat) (car : Nat → Nat) : Prop :=
  ∀ (i : Nat) (w : World), i < 8 → Calls P f #[.int .u64 (limb a i), .int .u64 (limb b i), .int .u64 (car i)] w fun e w' => e = .returned (.tuple #[.int .u64 (limb r i), .int .u64 (car (i + 1))]) ∧ Below w.heap.size w w'

attribute [local go_sem ↓] Go.wp_at_zero Go.wp_at_succ
set_option maxHeartbeats 1000000 in
theorem both_any (f : FuncId) (a b r : Nat) (car : Nat → Nat) (h0 : car 0 = 0) (w : World) (hcall : Enters Try.prog f) (hT : Carries Try.prog f a b r car) :
    Calls Try.prog 147 #[wv a, wv b, .func (.func f) #[] #[]] w fun e w' => e = .returned (.tuple #[wv r, .bool (decide (car 8 ≠ 0))]) ∧ Below w.heap.size w w' := by
  unfold Enters at hcall
  have HT := Lib.hid hT
  have HH0 := Lib.hid h0
  clear hT h0
  go_enter Try.func147, Try.ntmps147
  go_wp2
  go_loopw [9, 11] (fun c i wr => ∃ k : Nat, k ≤ 8 ∧ i = .int .i64 k ∧ c = .int .u64 (car k) ∧ Below w.heap.size w wr ∧ wr.heap[w.heap.size]? = some (.cells (wcells a) 31 (0, 0)) ∧ wr.heap[w.heap.size + 1]? = some (.cells (wcells b) 31 (0, 0)) ∧ wr.heap[w.heap.size + 2]? = some (.cells (wcells 0) 31 (0, 0)) ∧ wr.heap[w.heap.size + 3]? = some (.cells (pcells r k) 31 (0, 0))) (fun _ i _ => 8 - (intOf i).toNat)
  case atStart =>
    refine ⟨0, by omega, rfl, by rw [HH0.out]; rfl, below_al (below_al (below_al (below_al (Below.refl _ _) _) _) _) _, ?_, ?_, ?_, ?_⟩
    · rw [alloc_old _ _ _ (by simp <;> omega), alloc_old _ _ _ (by simp <;> omega), alloc_old _ _ _ (by simp), alloc_new]
    · rw [alloc_old _ _ _ (by simp <;> omega), alloc_old _ _ _ (by simp), alloc_new' _ (by simp)]
    · rw [alloc_old _ _ _ (by simp), alloc_new' _ (by simp)]
    · rw [alloc_new', pcells_nil]; simp
  case round =>
    obtain ⟨k, hk, rfl, rfl, hb, ha, hbb, hz, ho⟩ := hrel
    by_cases hlt : k < 8
    · have hzz := lt_of_heap ho
      have ea : ∀ j, wr.drew.cell? ⟨w.heap.size, j, none⟩ = (wcells a)[j]? := cell_row ha
      have eb : ∀ j, wr.drew.cell? ⟨w.heap.size + 1, j, none⟩ = (wcells b)[j]? := cell_row hbb
      have la := wcells_get a k hlt
      have lb := wcells_get b k hlt
      have HA := Lib.hid ha; have HBB := Lib.hid hbb; have HZ := Lib.hid hz; have HO := Lib.hid ho; have HB := Lib.hid hb.drew
      have R : Hid (∀ w' : World, Calls Try.prog f #[.int .u64 (limb a k), .int .u64 (limb b k), .int .u64 (car k)] w' fun e w'' => e = .returned (.tuple #[.int .u64 (limb r k), .int .u64 (car (k + 1))]) ∧ Below w'.heap.size w' w'') := Lib.hid fun w' => HT.out k w' hlt
      have e0 : (0 : Int) ≤ (k : Int) := Int.natCast_nonneg _
      have e1 : (k : Int) < 8 := by omega
      clear ha hbb hz ho hb
      go_wp2_with fail
      go_region_with (
        refine (R.out _).mono ?_
        rintro e w2 ⟨rfl, hb2⟩
        have HA2 := Lib.hid ((hb2.block _ (lt_of_heap HA.out)).trans HA.out)
        have HBB2 := Lib.hid ((hb2.block _ (lt_of_heap HBB.out)).trans HBB.out)
        have HZ2 := Lib.hid ((hb2.block _ (lt_of_heap HZ.out)).trans HZ.out)
        have HO2 := Lib.hid ((hb2.block _ (lt_of_heap HO.out)).trans HO.out)
        have HB2 := Lib.hid (below_then HB.out hb2)
        have cs := cell_row HO2.out k
        have fs := free_row HO2.out k
        rw [pcells_get r k k hlt] at cs
        clear hb2)
      all_goals
        go_wp2
        go_roundw
        case rel =>
          refine ⟨k + 1, by omega, by go_num, rfl, below_set HB2.out (by omega) _ _, ?_, ?_, ?_, ?_⟩
          · rw [set_other _ _ _ (by simp <;> omega)]; exact HA2.out
          · rw [set_other _ _ _ (by simp <;> omega)]; exact HBB2.out
          · rw [set_other _ _ _ (by simp <;> omega)]; exact HZ2.out
          · rw [set_row HO2.out, pcells_put _ _ hlt]
        case measure => simp [intOf]; omega
    · obtain rfl : k = 8 := by omega
      rw [pcells_all] at ho
      have c1 := cell_row ho
      have st := st_row (P := Try.prog) hz rfl r
      have hz1 := lt_of_heap ho
      have HZ := Lib.hid hz; have HB := Lib.hid hb
      have c2 := cell_row (setRow_heap wr _ _ (wcells r) _ _ hz)
      have hn : ((car 8 : Int) != 0) = decide (car 8 ≠ 0) := by
        by_cases h : car 8 = 0 <;> simp [h]
      have HN := Lib.hid hn
      clear ha hbb hz ho hb hn
      go_wp2
      refine bodyPost_ret (v := .tuple #[wv r, .bool ((car 8 : Int) != 0)]) (by simp [results, Try.results147, go_sem, c2]) rfl ⟨by rw [HN.out], below_setRow' HB.out (by omega) _⟩
end Go.Proofs.Ytbjofgoimkmbfaa
