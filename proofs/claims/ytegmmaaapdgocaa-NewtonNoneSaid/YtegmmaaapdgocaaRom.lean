/- THE WALKS of package rom: tables that are made once; what they tell. -/
import Derived.Test.YtegmmaaapdgocaaOnce
import Derived.Test.YtegmmaaapdgocaaK11
import Derived.Test.YtegmmaaapdgocaaRt2N
import Derived.Test.YtegmmaaapdgocaaK6
namespace Go.Proofs.Ytegmmaaapdgocaa
open Go Go.RowKit

/-- The cells of a row, its first k places from off on laid anew. -/
def fillN (cs : Array Value) (off : Nat) (F : Nat → Nat) : Nat → Array Value
  | 0 => cs
  | k + 1 => (fillN cs off F k).setIfInBounds (off + k) (.int .u64 (F k : Nat))
theorem fillN_size (cs : Array Value) (off : Nat) (F : Nat → Nat) (k : Nat) : (fillN cs off F k).size = cs.size := by
  induction k with
  | zero => rfl
  | succ k ih => rw [fillN, Array.size_setIfInBounds, ih]
theorem fillN_other (cs : Array Value) (off : Nat) (F : Nat → Nat) (k j : Nat) (h : j < off ∨ off + k ≤ j) : (fillN cs off F k)[j]? = cs[j]? := by
  induction k with
  | zero => rfl
  | succ k ih => rw [fillN, Array.getElem?_setIfInBounds_ne (by omega), ih (by omega)]
theorem fillN_at (cs : Array Value) (off : Nat) (F : Nat → Nat) (k i : Nat) (hi : i < k) (hs : off + k ≤ cs.size) : (fillN cs off F k)[off + i]? = some (.int .u64 (F i : Nat)) := by
  induction k with
  | zero => omega
  | succ k ih =>
    rw [fillN]
    by_cases e : i = k
    · subst e
      exact Array.getElem?_setIfInBounds_self_of_lt (by rw [fillN_size]; omega)
    · rw [Array.getElem?_setIfInBounds_ne (by omega)]
      exact ih (by omega) (by omega)
theorem But.cell0 {S : Nat → Prop} {w w' : World} (h : But S w w') {p : Nat} (hp : p < w.heap.size) (hs : ¬ S p) : w'.cell? ⟨p, 0, none⟩ = w.cell? ⟨p, 0, none⟩ := by
  unfold World.cell?
  rw [h.block p hp hs]
theorem some_cell (cs : Array Value) (j : Nat) (h : j < cs.size) : ∃ v, cs[j]? = some v := ⟨cs[j], Array.getElem?_eq_getElem h⟩

attribute [local go_sem ↓] Go.wp_at_zero Go.wp_at_succ
set_option maxRecDepth 100000 in
set_option maxHeartbeats 1000000 in
theorem fill_any (f : FuncId) (g off L cap : Nat) (cs : Array Value) (T : TypeId) (F : Nat → Nat) (w : World) (hcall : Enters Try.prog f) (hF : ∀ (i : Nat) (w' : World), i < L → Calls Try.prog f #[.int .u64 (i : Int)] w' fun e w'' => e = .returned (.int .u64 (F i : Nat)) ∧ w'' = w')
    (hL : L ≤ 1000) (hs : off + L ≤ cs.size) (hg : w.heap[g]? = some (.cells cs T (0, 0))) :
    Calls Try.prog 110 #[.slice (some ⟨g, off, none⟩) L cap, .func (.func f) #[] #[]] w fun e w' => e = .returned (.tuple #[]) ∧ w'.heap[g]? = some (.cells (fillN cs off F L) T (0, 0)) ∧ But (· = g) w w' := by
  unfold Enters at hcall
  have HF := Lib.hid hF; have HS := Lib.hid hs
  have Gg := Lib.hid hg
  have hL' : (L : Int) ≤ 1000 := by omega
  have UB := Lib.hid (But.refl (· = g) w)
  clear hF hs hg hL
  go_enter Try.func110, Try.ntmps110
  go_wp2
  go_loopw [7] (fun s7 wr => ∃ k : Nat, s7 = .int .i64 (k : Int) ∧ k ≤ L ∧ Hid (wr.heap[g]? = some (.cells (fillN cs off F k) T (0, 0))) ∧ Hid (But (· = g) w wr)) (fun s7 _ => L - (intOf s7).toNat)
  case atStart => exact ⟨0, rfl, by omega, Gg, UB⟩
  case round =>
    clear Gg UB
    obtain ⟨k, rfl, hk, Gg, UB⟩ := hrel
    by_cases hlt : k < L
    · have e1 : (k : Int) < (L : Int) := by omega
      have e0 : (0 : Int) ≤ (k : Int) := Int.natCast_nonneg _
      have P1 := Lib.hid (fun w' => HF.out k w' hlt)
      have hw : IntKind.u64.wrap (k : Int) = (k : Int) := by rw [u64wrap]; omega
      obtain ⟨v, hv⟩ := some_cell (fillN cs off F k) (off + k) (by rw [fillN_size]; have := HS.out; omega)
      have c0 : wr.cell? ⟨g, off + k, none⟩ = some v := (cell_row Gg.out (off + k)).trans hv
      have f0 := free_row Gg.out (off + k)
      have HLT := Lib.hid hlt
      clear hv hlt hk
      go_wp2_with fail
      refine (P1.out _).mono ?_
      rintro e w1 ⟨rfl, rfl⟩
      go_wp2
      go_roundw
      case rel => exact ⟨k + 1, by go_num, HLT.out, Lib.hid (set_row Gg.out (off + k) _), Lib.hid (UB.out.set rfl (off + k) _)⟩
      case measure => have := HLT.out; simp [intOf]; omega
    · obtain rfl : k = L := by omega
      clear hk hlt
      go_wp2
      exact bodyPost_end (v := .tuple #[]) (by simp [results, Try.results110, go_sem]) rfl ⟨rfl, Gg.out, UB.out⟩

theorem rt_small {n : Nat} (h : n ≤ 1100000) : rtN 2 n ≤ 1100 := by
  apply Nat.le_of_not_lt
  intro hh
  have h1 := (sq_le n 1101).1 (by omega)
  omega
set_option maxHeartbeats 1000000 in
theorem rootRom_any (n : Nat) (hn : n ≤ 1100000) (w : World) : Calls Try.prog 113 #[.int .u64 (n : Int)] w fun e w' => e = .returned (.int .u64 (rtN 2 n : Nat)) ∧ w' = w := by
  have hr := rt_small hn
  have HQ := Lib.hid (fun k => sq_le n k)
  obtain ⟨r, hre⟩ : ∃ r, r = rtN 2 n := ⟨_, rfl⟩
  rw [← hre] at hr HQ ⊢
  clear hre
  have HR := Lib.hid hr
  have hn' : (n : Int) ≤ 1100000 := by omega
  clear hr hn
  go_enter Try.func113, Try.ntmps113
  go_wp2
  go_loop [3] (fun s3 => ∃ k : Nat, s3 = .int .u64 (k : Int) ∧ Hid (k ≤ r)) (fun s3 => r - (intOf s3).toNat)
  case atStart => exact ⟨0, rfl, Lib.hid (Nat.zero_le _)⟩
  case round =>
    obtain ⟨k, rfl, HK⟩ := hrel
    have hk : (k : Int) ≤ 1100 := by have := HK.out; have := HR.out; omega
    have e0 : (0 : Int) ≤ (k : Int) := Int.natCast_nonneg _
    have hP : (k + 1) * (k + 1) ≤ 1101 * 1101 := Nat.mul_le_mul (by omega) (by omega)
    obtain ⟨p, hp⟩ : ∃ p : Nat, p = (k + 1) * (k + 1) := ⟨_, rfl⟩
    have hpi : ((k : Int) + 1) * ((k : Int) + 1) = (p : Int) := by rw [hp]; push_cast; rfl
    have hw : IntKind.u64.wrap (p : Int) = (p : Int) := by rw [u64wrap]; rw [← hp] at hP; omega
    by_cases hlt : p ≤ n
    · have HLT : Hid (k + 1 ≤ r) := Lib.hid ((HQ.out (k + 1)).2 (by rw [← hp]; exact hlt))
      have hli : (p : Int) ≤ (n : Int) := by omega
      clear hp hP hlt
      go_wp2
      go_round
      case rel => exact ⟨k + 1, by go_num, HLT⟩
      case measure => have := HLT.out; simp [intOf]; omega
    · have hkr : k = r := by
        have h1 : ¬ k + 1 ≤ r := fun h => hlt (by rw [hp]; exact (HQ.out (k + 1)).1 h)
        have := HK.out
        omega
      have hli : ¬ (p : Int) ≤ (n : Int) := by omega
      clear hp hP hlt
      subst hkr
      go_wp2
      go_ret
      exact ⟨rfl, rfl⟩

/-- What the tables have of a place. -/
def rcpN (i : Nat) : Nat := 131072 / (129 + 2 * i)
def rtgN (i : Nat) : Nat := rtN 2 (67108864 / (2 * (i + 32) + 1))
theorem recipAt_any (i : Nat) (w : World) (hi : i < 64) : Calls Try.prog 111 #[.int .u64 (i : Int)] w fun e w' => e = .returned (.int .u64 (rcpN i : Nat)) ∧ w' = w := by
  have hi' : (i : Int) < 64 := by omega
  have e0 : (0 : Int) ≤ (i : Int) := Int.natCast_nonneg _
  have HV := Lib.hid (show (131072 : Int) / (129 + 2 * (i : Int)) = ((rcpN i : Nat) : Int) by unfold rcpN; rw [Int.natCast_ediv, show ((129 + 2 * i : Nat) : Int) = 129 + 2 * (i : Int) by omega]; rfl)
  clear hi
  go_enter Try.func111, Try.ntmps111
  go_wp2
  go_ret
  exact ⟨ret_int HV.out, rfl⟩
theorem rootAt_any (i : Nat) (w : World) (hi : i < 96) : Calls Try.prog 112 #[.int .u64 (i : Int)] w fun e w' => e = .returned (.int .u64 (rtgN i : Nat)) ∧ w' = w := by
  have hi' : (i : Int) < 96 := by omega
  have e0 : (0 : Int) ≤ (i : Int) := Int.natCast_nonneg _
  have hq : 67108864 / (2 * (i + 32) + 1) ≤ 1100000 := by
    have := Nat.div_le_div_left (show 65 ≤ 2 * (i + 32) + 1 by omega) (by decide) (a := 67108864)
    omega
  have S1 := Lib.hid (fun w' => rootRom_any _ hq w')
  rw [show rtN 2 (67108864 / (2 * (i + 32) + 1)) = rtgN i from rfl] at S1
  have hv : (67108864 : Int) / (2 * ((i : Int) + 32) + 1) = ((67108864 / (2 * (i + 32) + 1) : Nat) : Int) := by rw [Int.natCast_ediv, show ((2 * (i + 32) + 1 : Nat) : Int) = 2 * ((i : Int) + 32) + 1 by omega]; rfl
  obtain ⟨q, hqe⟩ : ∃ q, q = 67108864 / (2 * (i + 32) + 1) := ⟨_, rfl⟩
  rw [← hqe] at S1 hv
  obtain ⟨r, hr⟩ : ∃ r, r = rtgN i := ⟨_, rfl⟩
  rw [← hr] at S1 ⊢
  clear hi hq hqe hr
  go_enter Try.func112, Try.ntmps112
  go_wp2_with fail
  refine (S1.out _).mono ?_
  rintro e w1 ⟨rfl, rfl⟩
  go_wp2
  go_ret
  exact ⟨rfl, rfl⟩
theorem enters_recipAt : Enters Try.prog 111 := fun args w => by simp [go_sem]
theorem enters_rootAt : Enters Try.prog 112 := fun args w => by simp [go_sem]
theorem enters_ready : Enters Try.prog 109 := fun args w => by simp [go_sem]

/-- A rom of which nothing was asked yet. -/
def RomNew (w : World) (g : Nat) : Prop := ∃ cs, w.heap[g]? = some (.cells cs 138 (0, 0)) ∧ cs.size = 164 ∧ cs[0]? = some (.int .u32 0) ∧ cs[1]? = some (.int .i32 0) ∧ cs[3]? = some (.int .i64 0)
/-- A rom whose tables are made. -/
def RomOk (w : World) (g : Nat) : Prop := ∃ cs, w.heap[g]? = some (.cells cs 138 (0, 0)) ∧ cs[0]? = some (.int .u32 1) ∧ cs[3]? = some (.int .i64 1) ∧ (∀ i, i < 64 → cs[4 + i]? = some (.int .u64 (rcpN i : Nat))) ∧ (∀ i, i < 96 → cs[68 + i]? = some (.int .u64 (rtgN i : Nat)))
def IsRom (w : World) (g : Nat) : Prop := RomNew w g ∨ RomOk w g
theorem RomNew.lt {w : World} {g : Nat} (h : RomNew w g) : g < w.heap.size := by obtain ⟨cs, h, _⟩ := h; exact lt_of_heap h
theorem RomOk.lt {w : World} {g : Nat} (h : RomOk w g) : g < w.heap.size := by obtain ⟨cs, h, _⟩ := h; exact lt_of_heap h
theorem IsRom.lt {w : World} {g : Nat} (h : IsRom w g) : g < w.heap.size := by rcases h with h | h <;> exact h.lt
theorem RomNew.keep {w w' : World} {g : Nat} (h : RomNew w g) (e : w'.heap[g]? = w.heap[g]?) : RomNew w' g := by obtain ⟨cs, h, k⟩ := h; exact ⟨cs, e.trans h, k⟩
theorem RomOk.keep {w w' : World} {g : Nat} (h : RomOk w g) (e : w'.heap[g]? = w.heap[g]?) : RomOk w' g := by obtain ⟨cs, h, k⟩ := h; exact ⟨cs, e.trans h, k⟩
theorem IsRom.keep {w w' : World} {g : Nat} (h : IsRom w g) (e : w'.heap[g]? = w.heap[g]?) : IsRom w' g := by
  rcases h with h | h
  · exact Or.inl (h.keep e)
  · exact Or.inr (h.keep e)
theorem RomOk.older {w w' : World} {g : Nat} (h : RomOk w g) (hb : Below w.heap.size w w') : RomOk w' g := h.keep (hb.block g h.lt)
theorem IsRom.older {w w' : World} {g : Nat} (h : IsRom w g) (hb : Below w.heap.size w w') : IsRom w' g := h.keep (hb.block g h.lt)

set_option maxRecDepth 100000 in
set_option maxHeartbeats 1000000 in
theorem readyFun_any (g p : Nat) (cs : Array Value) (w : World) (hs : cs.size = 164) (hg : w.heap[g]? = some (.cells cs 138 (0, 0))) (hp : w.cell? ⟨p, 0, none⟩ = some (.pointer (some ⟨g, 0, none⟩))) (hpg : p ≠ g) (h3 : cs[3]? = some (.int .i64 0)) :
    Calls Try.prog 109 #[.pointer (some ⟨p, 0, none⟩)] w fun e w' => e = .returned (.tuple #[]) ∧ w'.heap[g]? = some (.cells ((fillN (fillN cs 4 rcpN 64) 68 rtgN 96).setIfInBounds 3 (.int .i64 1)) 138 (0, 0)) ∧ But (· = g) w w' := by
  have S1 := Lib.hid (fun w' h => fill_any 111 g 4 64 64 cs 138 rcpN w' enters_recipAt (fun i w' hi => recipAt_any i w' hi) (by decide) (by omega) h)
  have S2 := Lib.hid (fun w' h => fill_any 112 g 68 96 96 (fillN cs 4 rcpN 64) 138 rtgN w' enters_rootAt (fun i w' hi => rootAt_any i w' hi) (by decide) (by rw [fillN_size]; omega) h)
  have S3 := Lib.hid (fun w' h f => int64Add_any ⟨g, 3, none⟩ 0 1 1 w' h f rfl)
  have H3 : Hid ((fillN (fillN cs 4 rcpN 64) 68 rtgN 96)[3]? = some (.int .i64 0)) := Lib.hid (by rw [fillN_other _ _ _ _ _ (Or.inl (by decide)), fillN_other _ _ _ _ _ (Or.inl (by decide))]; exact h3)
  obtain ⟨c1, hc1⟩ : ∃ c, c = fillN cs 4 rcpN 64 := ⟨_, rfl⟩
  rw [← hc1] at S1 S2 H3 ⊢
  obtain ⟨c2, hc2⟩ : ∃ c, c = fillN c1 68 rtgN 96 := ⟨_, rfl⟩
  rw [← hc2] at S2 H3 ⊢
  have Gg := Lib.hid hg
  have HP := Lib.hid (block_lt_of_cell (a := ⟨p, 0, none⟩) hp)
  have p0 := hp
  clear hs hg h3 hc1 hc2 hp
  go_enter Try.func109, Try.ntmps109
  go_wp2_with fail
  refine (S1.out _ Gg.out).mono ?_
  rintro e w1 ⟨rfl, hg1, hb1⟩
  have G1 := Lib.hid hg1; have U1 := Lib.hid hb1
  have p1 := (hb1.cell0 HP.out hpg).trans p0
  clear hg1 hb1 p0
  go_wp2_with fail
  refine (S2.out _ G1.out).mono ?_
  rintro e w2 ⟨rfl, hg2, hb2⟩
  have G2 := Lib.hid hg2; have U2 := Lib.hid (U1.out.trans hb2)
  have p2 := (hb2.cell0 (Nat.lt_of_lt_of_le HP.out U1.out.size) hpg).trans p1
  clear hg2 hb2 p1
  go_wp2_with fail
  refine (S3.out _ ((cell_row G2.out 3).trans H3.out) (free_row G2.out 3)).mono ?_
  rintro e w3 ⟨rfl, rfl⟩
  go_wp2
  exact bodyPost_end (v := .tuple #[]) (by simp [results, Try.results109, go_sem]) rfl ⟨rfl, set_row G2.out 3 _, U2.out.set rfl 3 _⟩
end Go.Proofs.Ytegmmaaapdgocaa
