/- SEVERAL TEXTS of the seat, one behind the other: each says at its head what it proves. -/
import Derived.Test.YtegmmaaapdgocaaGreatOnce
import Derived.Test.YtegmmaaapdgocaaGreatK11
import Derived.Test.YtegmmaaapdgocaaGreatRt2N
import Derived.Test.YtegmmaaapdgocaaGreatK6
import Derived.Test.YtegmmaaapdgocaaGreatK3
import Derived.Test.YtegmmaaapdgocaaGreatLaw11N
/- THE WALKS of package rom: tables that are made once; what they tell. -/
namespace Go.Proofs.YtegmmaaapdgocaaGreat
open Go Go.RowKit

/-- The cells of a row, its first k places from off on laid anew. -/
def fillN (cs : Array Value) (off : Nat) (F : Nat → Nat) : Nat → Array Value
  | 0 => cs
  | k + 1 => (fillN cs off F k).setIfInBounds (off + k) (.int .u64 (F k : Nat))
theorem fillN_size (cs : Array Value) (off : Nat) (F : Nat → Nat) (k : Nat) : (fillN cs off F k).size = cs.size := by
  induction k with
  | zero => rfl
  | succ k ih => rw [fillN, Array.size_setIfInBounds, ih]
theorem fillN_other (cs : Array Value) (off : Nat) (F : Nat → Nat) (k j : Nat) (h : j < off ∨ off + k ≤ j) : (fillN cs off F k)[j]? = cs[j]? := by
  induction k with
  | zero => rfl
  | succ k ih => rw [fillN, Array.getElem?_setIfInBounds_ne (by omega), ih (by omega)]
theorem fillN_at (cs : Array Value) (off : Nat) (F : Nat → Nat) (k i : Nat) (hi : i < k) (hs : off + k ≤ cs.size) : (fillN cs off F k)[off + i]? = some (.int .u64 (F i : Nat)) := by
  induction k with
  | zero => omega
  | succ k ih =>
    rw [fillN]
    by_cases e : i = k
    · subst e
      exact Array.getElem?_setIfInBounds_self_of_lt (by rw [fillN_size]; omega)
    · rw [Array.getElem?_setIfInBounds_ne (by omega)]
      exact ih (by omega) (by omega)
theorem But.cell0 {S : Nat → Prop} {w w' : World} (h : But S w w') {p : Nat} (hp : p < w.heap.size) (hs : ¬ S p) : w'.cell? ⟨p, 0, none⟩ = w.cell? ⟨p, 0, none⟩ := by
  unfold World.cell?
  rw [h.block p hp hs]
theorem some_cell (cs : Array Value) (j : Nat) (h : j < cs.size) : ∃ v, cs[j]? = some v := ⟨cs[j], Array.getElem?_eq_getElem h⟩

attribute [local go_sem ↓] Go.wp_at_zero Go.wp_at_succ
set_option maxRecDepth 100000 in
set_option maxHeartbeats 1000000 in
theorem fill_any (f : FuncId) (g off L cap : Nat) (cs : Array Value) (T : TypeId) (F : Nat → Nat) (w : World) (hcall : Enters Tryz.prog f) (hF : ∀ (i : Nat) (w' : World), i < L → Calls Tryz.prog f #[.int .u64 (i : Int)] w' fun e w'' => e = .returned (.int .u64 (F i : Nat)) ∧ w'' = w')
    (hL : L ≤ 1000) (hs : off + L ≤ cs.size) (hg : w.heap[g]? = some (.cells cs T (0, 0))) :
    Calls Tryz.prog 153 #[.slice (some ⟨g, off, none⟩) L cap, .func (.func f) #[] #[]] w fun e w' => e = .returned (.tuple #[]) ∧ w'.heap[g]? = some (.cells (fillN cs off F L) T (0, 0)) ∧ But (· = g) w w' := by
  unfold Enters at hcall
  have HF := Lib.hid hF; have HS := Lib.hid hs
  have Gg := Lib.hid hg
  have hL' : (L : Int) ≤ 1000 := by omega
  have UB := Lib.hid (But.refl (· = g) w)
  clear hF hs hg hL
  go_enter Tryz.func153, Tryz.ntmps153
  go_wp2
  go_loopw [7] (fun s7 wr => ∃ k : Nat, s7 = .int .i64 (k : Int) ∧ k ≤ L ∧ Hid (wr.heap[g]? = some (.cells (fillN cs off F k) T (0, 0))) ∧ Hid (But (· = g) w wr)) (fun s7 _ => L - (intOf s7).toNat)
  case atStart => exact ⟨0, rfl, by omega, Gg, UB⟩
  case round =>
    clear Gg UB
    obtain ⟨k, rfl, hk, Gg, UB⟩ := hrel
    by_cases hlt : k < L
    · have e1 : (k : Int) < (L : Int) := by omega
      have e0 : (0 : Int) ≤ (k : Int) := Int.natCast_nonneg _
      have P1 := Lib.hid (fun w' => HF.out k w' hlt)
      have hw : IntKind.u64.wrap (k : Int) = (k : Int) := by rw [u64wrap]; omega
      obtain ⟨v, hv⟩ := some_cell (fillN cs off F k) (off + k) (by rw [fillN_size]; have := HS.out; omega)
      have c0 : wr.cell? ⟨g, off + k, none⟩ = some v := (cell_row Gg.out (off + k)).trans hv
      have f0 := free_row Gg.out (off + k)
      have HLT := Lib.hid hlt
      clear hv hlt hk
      go_wp2_with fail
      refine (P1.out _).mono ?_
      rintro e w1 ⟨rfl, rfl⟩
      go_wp2
      go_roundw
      case rel => exact ⟨k + 1, by go_num, HLT.out, Lib.hid (set_row Gg.out (off + k) _), Lib.hid (UB.out.set rfl (off + k) _)⟩
      case measure => have := HLT.out; simp [intOf]; omega
    · obtain rfl : k = L := by omega
      clear hk hlt
      go_wp2
      exact bodyPost_end (v := .tuple #[]) (by simp [results, Tryz.results153, go_sem]) rfl ⟨rfl, Gg.out, UB.out⟩

theorem rt_small {n : Nat} (h : n ≤ 1100000) : rtN 2 n ≤ 1100 := by
  apply Nat.le_of_not_lt
  intro hh
  have h1 := (sq_le n 1101).1 (by omega)
  omega
set_option maxHeartbeats 1000000 in
theorem rootRom_any (n : Nat) (hn : n ≤ 1100000) (w : World) : Calls Tryz.prog 156 #[.int .u64 (n : Int)] w fun e w' => e = .returned (.int .u64 (rtN 2 n : Nat)) ∧ w' = w := by
  have hr := rt_small hn
  have HQ := Lib.hid (fun k => sq_le n k)
  obtain ⟨r, hre⟩ : ∃ r, r = rtN 2 n := ⟨_, rfl⟩
  rw [← hre] at hr HQ ⊢
  clear hre
  have HR := Lib.hid hr
  have hn' : (n : Int) ≤ 1100000 := by omega
  clear hr hn
  go_enter Tryz.func156, Tryz.ntmps156
  go_wp2
  go_loop [3] (fun s3 => ∃ k : Nat, s3 = .int .u64 (k : Int) ∧ Hid (k ≤ r)) (fun s3 => r - (intOf s3).toNat)
  case atStart => exact ⟨0, rfl, Lib.hid (Nat.zero_le _)⟩
  case round =>
    obtain ⟨k, rfl, HK⟩ := hrel
    have hk : (k : Int) ≤ 1100 := by have := HK.out; have := HR.out; omega
    have e0 : (0 : Int) ≤ (k : Int) := Int.natCast_nonneg _
    have hP : (k + 1) * (k + 1) ≤ 1101 * 1101 := Nat.mul_le_mul (by omega) (by omega)
    obtain ⟨p, hp⟩ : ∃ p : Nat, p = (k + 1) * (k + 1) := ⟨_, rfl⟩
    have hpi : ((k : Int) + 1) * ((k : Int) + 1) = (p : Int) := by rw [hp]; push_cast; rfl
    have hw : IntKind.u64.wrap (p : Int) = (p : Int) := by rw [u64wrap]; rw [← hp] at hP; omega
    by_cases hlt : p ≤ n
    · have HLT : Hid (k + 1 ≤ r) := Lib.hid ((HQ.out (k + 1)).2 (by rw [← hp]; exact hlt))
      have hli : (p : Int) ≤ (n : Int) := by omega
      clear hp hP hlt
      go_wp2
      go_round
      case rel => exact ⟨k + 1, by go_num, HLT⟩
      case measure => have := HLT.out; simp [intOf]; omega
    · have hkr : k = r := by
        have h1 : ¬ k + 1 ≤ r := fun h => hlt (by rw [hp]; exact (HQ.out (k + 1)).1 h)
        have := HK.out
        omega
      have hli : ¬ (p : Int) ≤ (n : Int) := by omega
      clear hp hP hlt
      subst hkr
      go_wp2
      go_ret
      exact ⟨rfl, rfl⟩

/-- What the tables have of a place. -/
def rcpN (i : Nat) : Nat := 131072 / (129 + 2 * i)
def rtgN (i : Nat) : Nat := rtN 2 (67108864 / (2 * (i + 32) + 1))
theorem recipAt_any (i : Nat) (w : World) (hi : i < 64) : Calls Tryz.prog 154 #[.int .u64 (i : Int)] w fun e w' => e = .returned (.int .u64 (rcpN i : Nat)) ∧ w' = w := by
  have hi' : (i : Int) < 64 := by omega
  have e0 : (0 : Int) ≤ (i : Int) := Int.natCast_nonneg _
  have HV := Lib.hid (show (131072 : Int) / (129 + 2 * (i : Int)) = ((rcpN i : Nat) : Int) by unfold rcpN; rw [Int.natCast_ediv, show ((129 + 2 * i : Nat) : Int) = 129 + 2 * (i : Int) by omega]; rfl)
  clear hi
  go_enter Tryz.func154, Tryz.ntmps154
  go_wp2
  go_ret
  exact ⟨ret_int HV.out, rfl⟩
theorem rootAt_any (i : Nat) (w : World) (hi : i < 96) : Calls Tryz.prog 155 #[.int .u64 (i : Int)] w fun e w' => e = .returned (.int .u64 (rtgN i : Nat)) ∧ w' = w := by
  have hi' : (i : Int) < 96 := by omega
  have e0 : (0 : Int) ≤ (i : Int) := Int.natCast_nonneg _
  have hq : 67108864 / (2 * (i + 32) + 1) ≤ 1100000 := by
    have := Nat.div_le_div_left (show 65 ≤ 2 * (i + 32) + 1 by omega) (by decide) (a := 67108864)
    omega
  have S1 := Lib.hid (fun w' => rootRom_any _ hq w')
  rw [show rtN 2 (67108864 / (2 * (i + 32) + 1)) = rtgN i from rfl] at S1
  have hv : (67108864 : Int) / (2 * ((i : Int) + 32) + 1) = ((67108864 / (2 * (i + 32) + 1) : Nat) : Int) := by rw [Int.natCast_ediv, show ((2 * (i + 32) + 1 : Nat) : Int) = 2 * ((i : Int) + 32) + 1 by omega]; rfl
  obtain ⟨q, hqe⟩ : ∃ q, q = 67108864 / (2 * (i + 32) + 1) := ⟨_, rfl⟩
  rw [← hqe] at S1 hv
  obtain ⟨r, hr⟩ : ∃ r, r = rtgN i := ⟨_, rfl⟩
  rw [← hr] at S1 ⊢
  clear hi hq hqe hr
  go_enter Tryz.func155, Tryz.ntmps155
  go_wp2_with fail
  refine (S1.out _).mono ?_
  rintro e w1 ⟨rfl, rfl⟩
  go_wp2
  go_ret
  exact ⟨rfl, rfl⟩
theorem enters_recipAt : Enters Tryz.prog 154 := fun args w => by simp [go_sem]
theorem enters_rootAt : Enters Tryz.prog 155 := fun args w => by simp [go_sem]
theorem enters_ready : Enters Tryz.prog 152 := fun args w => by simp [go_sem]

/-- A rom of which nothing was asked yet. -/
def RomNew (w : World) (g : Nat) : Prop := ∃ cs, w.heap[g]? = some (.cells cs 95 (0, 0)) ∧ cs.size = 164 ∧ cs[0]? = some (.int .u32 0) ∧ cs[1]? = some (.int .i32 0) ∧ cs[3]? = some (.int .i64 0)
/-- A rom whose tables are made. -/
def RomOk (w : World) (g : Nat) : Prop := ∃ cs, w.heap[g]? = some (.cells cs 95 (0, 0)) ∧ cs[0]? = some (.int .u32 1) ∧ cs[3]? = some (.int .i64 1) ∧ (∀ i, i < 64 → cs[4 + i]? = some (.int .u64 (rcpN i : Nat))) ∧ (∀ i, i < 96 → cs[68 + i]? = some (.int .u64 (rtgN i : Nat)))
def IsRom (w : World) (g : Nat) : Prop := RomNew w g ∨ RomOk w g
theorem RomNew.lt {w : World} {g : Nat} (h : RomNew w g) : g < w.heap.size := by obtain ⟨cs, h, _⟩ := h; exact lt_of_heap h
theorem RomOk.lt {w : World} {g : Nat} (h : RomOk w g) : g < w.heap.size := by obtain ⟨cs, h, _⟩ := h; exact lt_of_heap h
theorem IsRom.lt {w : World} {g : Nat} (h : IsRom w g) : g < w.heap.size := by rcases h with h | h <;> exact h.lt
theorem RomNew.keep {w w' : World} {g : Nat} (h : RomNew w g) (e : w'.heap[g]? = w.heap[g]?) : RomNew w' g := by obtain ⟨cs, h, k⟩ := h; exact ⟨cs, e.trans h, k⟩
theorem RomOk.keep {w w' : World} {g : Nat} (h : RomOk w g) (e : w'.heap[g]? = w.heap[g]?) : RomOk w' g := by obtain ⟨cs, h, k⟩ := h; exact ⟨cs, e.trans h, k⟩
theorem IsRom.keep {w w' : World} {g : Nat} (h : IsRom w g) (e : w'.heap[g]? = w.heap[g]?) : IsRom w' g := by
  rcases h with h | h
  · exact Or.inl (h.keep e)
  · exact Or.inr (h.keep e)
theorem RomOk.older {w w' : World} {g : Nat} (h : RomOk w g) (hb : Below w.heap.size w w') : RomOk w' g := h.keep (hb.block g h.lt)
theorem IsRom.older {w w' : World} {g : Nat} (h : IsRom w g) (hb : Below w.heap.size w w') : IsRom w' g := h.keep (hb.block g h.lt)

set_option maxRecDepth 100000 in
set_option maxHeartbeats 1000000 in
theorem readyFun_any (g p : Nat) (cs : Array Value) (w : World) (hs : cs.size = 164) (hg : w.heap[g]? = some (.cells cs 95 (0, 0))) (hp : w.cell? ⟨p, 0, none⟩ = some (.pointer (some ⟨g, 0, none⟩))) (hpg : p ≠ g) (h3 : cs[3]? = some (.int .i64 0)) :
    Calls Tryz.prog 152 #[.pointer (some ⟨p, 0, none⟩)] w fun e w' => e = .returned (.tuple #[]) ∧ w'.heap[g]? = some (.cells ((fillN (fillN cs 4 rcpN 64) 68 rtgN 96).setIfInBounds 3 (.int .i64 1)) 95 (0, 0)) ∧ But (· = g) w w' := by
  have S1 := Lib.hid (fun w' h => fill_any 154 g 4 64 64 cs 95 rcpN w' enters_recipAt (fun i w' hi => recipAt_any i w' hi) (by decide) (by omega) h)
  have S2 := Lib.hid (fun w' h => fill_any 155 g 68 96 96 (fillN cs 4 rcpN 64) 95 rtgN w' enters_rootAt (fun i w' hi => rootAt_any i w' hi) (by decide) (by rw [fillN_size]; omega) h)
  have S3 := Lib.hid (fun w' h f => int64Add_any ⟨g, 3, none⟩ 0 1 1 w' h f rfl)
  have H3 : Hid ((fillN (fillN cs 4 rcpN 64) 68 rtgN 96)[3]? = some (.int .i64 0)) := Lib.hid (by rw [fillN_other _ _ _ _ _ (Or.inl (by decide)), fillN_other _ _ _ _ _ (Or.inl (by decide))]; exact h3)
  obtain ⟨c1, hc1⟩ : ∃ c, c = fillN cs 4 rcpN 64 := ⟨_, rfl⟩
  rw [← hc1] at S1 S2 H3 ⊢
  obtain ⟨c2, hc2⟩ : ∃ c, c = fillN c1 68 rtgN 96 := ⟨_, rfl⟩
  rw [← hc2] at S2 H3 ⊢
  have Gg := Lib.hid hg
  have HP := Lib.hid (block_lt_of_cell (a := ⟨p, 0, none⟩) hp)
  have p0 := hp
  clear hs hg h3 hc1 hc2 hp
  go_enter Tryz.func152, Tryz.ntmps152
  go_wp2_with fail
  refine (S1.out _ Gg.out).mono ?_
  rintro e w1 ⟨rfl, hg1, hb1⟩
  have G1 := Lib.hid hg1; have U1 := Lib.hid hb1
  have p1 := (hb1.cell0 HP.out hpg).trans p0
  clear hg1 hb1 p0
  go_wp2_with fail
  refine (S2.out _ G1.out).mono ?_
  rintro e w2 ⟨rfl, hg2, hb2⟩
  have G2 := Lib.hid hg2; have U2 := Lib.hid (U1.out.trans hb2)
  have p2 := (hb2.cell0 (Nat.lt_of_lt_of_le HP.out U1.out.size) hpg).trans p1
  clear hg2 hb2 p1
  go_wp2_with fail
  refine (S3.out _ ((cell_row G2.out 3).trans H3.out) (free_row G2.out 3)).mono ?_
  rintro e w3 ⟨rfl, rfl⟩
  go_wp2
  exact bodyPost_end (v := .tuple #[]) (by simp [results, Tryz.results152, go_sem]) rfl ⟨rfl, set_row G2.out 3 _, U2.out.set rfl 3 _⟩
end Go.Proofs.YtegmmaaapdgocaaGreat

/- THE WALKS of package rom, going on: made once, asked; guesses. -/
namespace Go.Proofs.YtegmmaaapdgocaaGreat
open Go Go.RowKit

attribute [local go_sem ↓] Go.wp_at_zero Go.wp_at_succ
set_option maxRecDepth 100000 in
set_option maxHeartbeats 1000000 in
theorem ready_any (g : Nat) (w : World) (h : IsRom w g) :
    Calls Tryz.prog 148 #[.pointer (some ⟨g, 0, none⟩)] w fun e w' => e = .returned (.tuple #[]) ∧ RomOk w' g ∧ But (· = g) w w' := by
  have hlt := h.lt
  have hG1 : ∀ (w' : World) (cs : Array Value) (t : TypeId), w.heap[g]? = some (.cells cs t (0, 0)) → (w.alloc (.cells #[.pointer (some ⟨g, 0, none⟩)] 27)).heap[g]? = some (.cells cs t (0, 0)) := fun _ cs t h => keepAl h
  have hp0 : (w.alloc (.cells #[.pointer (some ⟨g, 0, none⟩)] 27)).cell? ⟨w.heap.size, 0, none⟩ = some (.pointer (some ⟨g, 0, none⟩)) := (cell_row (alloc_new w _) 0).trans rfl
  rcases h with ⟨cs, hg, hs, h0, h1, h3⟩ | ⟨cs, hg, h0, h3, h4, h5⟩
  · have hg1 := hG1 w cs _ hg
    have c1 : (cs.setIfInBounds 1 (.int .i32 1)).size = 164 := by rw [Array.size_setIfInBounds, hs]
    have hgl := set_row hg1 1 (.int .i32 1)
    have key : Hid (Calls Tryz.prog 151 #[.pointer (some ⟨g, 0, none⟩), .func (.func 152) #[] #[.pointer (some ⟨w.heap.size, 0, none⟩)]] (w.alloc (.cells #[.pointer (some ⟨g, 0, none⟩)] 27)) fun e w' => e = .returned (.tuple #[]) ∧ RomOk w' g ∧ But (· = g) w w') := Lib.hid (by
      refine (onceDo_first g 152 #[.pointer (some ⟨w.heap.size, 0, none⟩)] (w.alloc (.cells #[.pointer (some ⟨g, 0, none⟩)] 27))
        (fun w' => w'.heap[g]? = some (.cells ((fillN (fillN (cs.setIfInBounds 1 (.int .i32 1)) 4 rcpN 64) 68 rtgN 96).setIfInBounds 3 (.int .i64 1)) 95 (0, 0)) ∧ But (· = g) w w') enters_ready
        ((cell_row hg1 0).trans h0) ((cell_row hg1 1).trans h1) (free_row hg1 1) ?_ ?_).mono ?_
      · refine (readyFun_any g w.heap.size (cs.setIfInBounds 1 (.int .i32 1)) _ c1 hgl ?_ (by omega) (by rw [Array.getElem?_setIfInBounds_ne (by decide)]; exact h3)).mono ?_
        · rw [World.cell?_setCell_other _ ⟨g, 1, none⟩ ⟨w.heap.size, 0, none⟩ _ (fun e => by have := congrArg Addr.block e; simp at this; omega)]
          exact hp0
        · rintro e w' ⟨rfl, h6, h7⟩
          exact ⟨rfl, h6, (((But.refl (· = g) w).al _).set rfl 1 _).trans h7⟩
      · rintro w' ⟨h6, _⟩
        refine ⟨(cell_row h6 0).trans ?_, free_row h6 0, (cell_row h6 1).trans ?_, free_row h6 1⟩
        · rw [Array.getElem?_setIfInBounds_ne (by decide), fillN_other _ _ _ _ _ (Or.inl (by decide)), fillN_other _ _ _ _ _ (Or.inl (by decide)), Array.getElem?_setIfInBounds_ne (by decide)]; exact h0
        · rw [Array.getElem?_setIfInBounds_ne (by decide), fillN_other _ _ _ _ _ (Or.inl (by decide)), fillN_other _ _ _ _ _ (Or.inl (by decide))]
          exact Array.getElem?_setIfInBounds_self_of_lt (by omega)
      · rintro e w' ⟨rfl, W2, ⟨h6, h7⟩, rfl⟩
        have h8 : W2.drew.heap[g]? = _ := h6
        refine ⟨rfl, ⟨_, set_row (set_row h8 0 _) 1 _, ?_, ?_, fun i hi => ?_, fun i hi => ?_⟩, ((h7.drew).set rfl 0 _).set rfl 1 _⟩
        · rw [Array.getElem?_setIfInBounds_ne (by decide)]
          exact Array.getElem?_setIfInBounds_self_of_lt (by rw [Array.size_setIfInBounds, fillN_size, fillN_size, c1]; decide)
        · rw [Array.getElem?_setIfInBounds_ne (by decide), Array.getElem?_setIfInBounds_ne (by decide)]
          exact Array.getElem?_setIfInBounds_self_of_lt (by rw [fillN_size, fillN_size, c1]; decide)
        · rw [Array.getElem?_setIfInBounds_ne (by omega), Array.getElem?_setIfInBounds_ne (by omega), Array.getElem?_setIfInBounds_ne (by omega), fillN_other _ _ _ _ _ (Or.inl (by omega))]
          exact fillN_at _ _ _ _ _ hi (by rw [c1]; decide)
        · rw [Array.getElem?_setIfInBounds_ne (by omega), Array.getElem?_setIfInBounds_ne (by omega), Array.getElem?_setIfInBounds_ne (by omega)]
          exact fillN_at _ _ _ _ _ hi (by rw [fillN_size, c1]; decide))
    clear hg hs h0 h1 h3 hg1 c1 hgl hG1 hp0 hlt
    go_enter Tryz.func148, Tryz.ntmps148
    go_wp2_with fail
    refine key.out.mono ?_
    rintro e w1 ⟨rfl, hr, hb⟩
    have H := Lib.hid hr; have U := Lib.hid hb
    clear hr hb
    go_wp2
    exact bodyPost_end (v := .tuple #[]) (by simp [results, Tryz.results148, go_sem]) rfl ⟨rfl, H.out, U.out⟩
  · have hok : RomOk w g := ⟨cs, hg, h0, h3, h4, h5⟩
    have key : Hid (Calls Tryz.prog 151 #[.pointer (some ⟨g, 0, none⟩), .func (.func 152) #[] #[.pointer (some ⟨w.heap.size, 0, none⟩)]] (w.alloc (.cells #[.pointer (some ⟨g, 0, none⟩)] 27)) fun e w' => e = .returned (.tuple #[]) ∧ RomOk w' g ∧ But (· = g) w w') := Lib.hid (by
      refine (onceDo_done g 1 _ _ rfl ((cell_row (hG1 w cs _ hg) 0).trans h0)).mono ?_
      rintro e w' ⟨rfl, rfl⟩
      exact ⟨rfl, hok.keep (alloc_old _ _ _ hlt), (But.refl (· = g) w).al _⟩)
    clear hg h0 h3 h4 h5 hG1 hp0 hlt hok
    go_enter Tryz.func148, Tryz.ntmps148
    go_wp2_with fail
    refine key.out.mono ?_
    rintro e w1 ⟨rfl, hr, hb⟩
    have H := Lib.hid hr; have U := Lib.hid hb
    clear hr hb
    go_wp2
    exact bodyPost_end (v := .tuple #[]) (by simp [results, Tryz.results148, go_sem]) rfl ⟨rfl, H.out, U.out⟩

theorem ask_nil (i n : Int) (fv : Value) (w : World) : Calls Tryz.prog 140 #[.pointer none, .int .i64 i, .int .i64 n, fv] w fun e w' => e = .returned (.tuple #[.int .u64 0, .bool false]) ∧ w' = w := by
  go_enter Tryz.func140, Tryz.ntmps140
  go_wp2
  go_ret2
  exact ⟨rfl, rfl⟩
theorem ask_no (g : Nat) (i n : Int) (fv : Value) (w : World) (h : IsRom w g) (hi : i < 0 ∨ n ≤ i) : Calls Tryz.prog 140 #[.pointer (some ⟨g, 0, none⟩), .int .i64 i, .int .i64 n, fv] w fun e w' => e = .returned (.tuple #[.int .u64 0, .bool false]) ∧ RomOk w' g ∧ But (· = g) w w' := by
  have S1 := Lib.hid (ready_any g w h)
  clear h
  by_cases h0 : i < 0
  · clear hi
    go_enter Tryz.func140, Tryz.ntmps140
    go_wp2_with fail
    refine S1.out.mono ?_
    rintro e w1 ⟨rfl, hr, hb⟩
    have H := Lib.hid hr; have U := Lib.hid hb
    clear hr hb
    go_wp2
    go_ret2
    exact ⟨rfl, H.out, U.out⟩
  · have h1 : n ≤ i := by omega
    clear hi
    go_enter Tryz.func140, Tryz.ntmps140
    go_wp2_with fail
    refine S1.out.mono ?_
    rintro e w1 ⟨rfl, hr, hb⟩
    have H := Lib.hid hr; have U := Lib.hid hb
    clear hr hb
    go_wp2
    go_ret2
    exact ⟨rfl, H.out, U.out⟩
theorem ask_yes (g : Nat) (i n : Int) (v : Nat) (f : FuncId) (caps : Array Value) (w : World) (h : IsRom w g) (h0 : 0 ≤ i) (h1 : i < n) (hcall : Enters Tryz.prog f)
    (hT : ∀ w', RomOk w' g → But (· = g) w w' → Calls Tryz.prog f (#[.int .i64 i] ++ caps) w' fun e w'' => e = .returned (.int .u64 (v : Int)) ∧ w'' = w') :
    Calls Tryz.prog 140 #[.pointer (some ⟨g, 0, none⟩), .int .i64 i, .int .i64 n, .func (.func f) #[] caps] w fun e w' => e = .returned (.tuple #[.int .u64 (v : Int), .bool true]) ∧ RomOk w' g ∧ But (· = g) w w' := by
  have S1 := Lib.hid (ready_any g w h)
  have HT := Lib.hid hT
  have hn0 : ¬ i < 0 := by omega
  have hn1 : ¬ n ≤ i := by omega
  unfold Enters at hcall
  clear h hT
  go_enter Tryz.func140, Tryz.ntmps140
  go_wp2_with fail
  refine S1.out.mono ?_
  rintro e w1 ⟨rfl, hr, hb⟩
  have H := Lib.hid hr; have U := Lib.hid hb
  have T := Lib.hid (HT.out w1 hr hb)
  clear hr hb
  go_wp2_with fail
  refine T.out.mono ?_
  rintro e w2 ⟨rfl, rfl⟩
  go_wp2
  go_ret2
  exact ⟨rfl, H.out, U.out⟩
theorem enters_tellR : Enters Tryz.prog 149 := fun args w => by simp [go_sem]
theorem enters_tellS : Enters Tryz.prog 141 := fun args w => by simp [go_sem]
set_option maxRecDepth 100000 in
theorem tellR_any (g p i : Nat) (w : World) (hi : i < 64) (h : RomOk w g) (hp : w.cell? ⟨p, 0, none⟩ = some (.pointer (some ⟨g, 0, none⟩))) :
    Calls Tryz.prog 149 #[.int .i64 (i : Int), .pointer (some ⟨p, 0, none⟩)] w fun e w' => e = .returned (.int .u64 (rcpN i : Nat)) ∧ w' = w := by
  obtain ⟨cs, hg, _, _, h4, _⟩ := h
  have c0 : w.cell? ⟨g, 4 + i, none⟩ = some (.int .u64 (rcpN i : Nat)) := (cell_row hg _).trans (h4 i hi)
  have e0 : (0 : Int) ≤ (i : Int) := Int.natCast_nonneg _
  have e1 : (i : Int) < 64 := by omega
  obtain ⟨r, hr⟩ : ∃ r, r = rcpN i := ⟨_, rfl⟩
  rw [← hr] at c0 ⊢
  clear hg h4 hi hr
  go_enter Tryz.func149, Tryz.ntmps149
  go_wp2
  go_ret
  exact ⟨rfl, rfl⟩
set_option maxRecDepth 100000 in
theorem tellS_any (g p i : Nat) (w : World) (hi : i < 96) (h : RomOk w g) (hp : w.cell? ⟨p, 0, none⟩ = some (.pointer (some ⟨g, 0, none⟩))) :
    Calls Tryz.prog 141 #[.int .i64 (i : Int), .pointer (some ⟨p, 0, none⟩)] w fun e w' => e = .returned (.int .u64 (rtgN i : Nat)) ∧ w' = w := by
  obtain ⟨cs, hg, _, _, _, h5⟩ := h
  have c0 : w.cell? ⟨g, 68 + i, none⟩ = some (.int .u64 (rtgN i : Nat)) := (cell_row hg _).trans (h5 i hi)
  have e0 : (0 : Int) ≤ (i : Int) := Int.natCast_nonneg _
  have e1 : (i : Int) < 96 := by omega
  obtain ⟨r, hr⟩ : ∃ r, r = rtgN i := ⟨_, rfl⟩
  rw [← hr] at c0 ⊢
  clear hg h5 hi hr
  go_enter Tryz.func141, Tryz.ntmps141
  go_wp2
  go_ret
  exact ⟨rfl, rfl⟩

/-- What a rom tells of a place. -/
def recipV (i : Int) : Nat := if 0 ≤ i ∧ i < 64 then rcpN i.toNat else 0
def recipB (i : Int) : Bool := decide (0 ≤ i) && decide (i < 64)
def rootV (i : Int) : Nat := if 32 ≤ i ∧ i < 128 then rtgN (i - 32).toNat else 0
def rootB (i : Int) : Bool := decide (32 ≤ i) && decide (i < 128)
theorem recip_any (g : Nat) (i : Int) (w : World) (h : IsRom w g) :
    Calls Tryz.prog 142 #[.pointer (some ⟨g, 0, none⟩), .int .i64 i] w fun e w' => e = .returned (.tuple #[.int .u64 (recipV i : Nat), .bool (recipB i)]) ∧ RomOk w' g ∧ But (· = g) w w' := by
  have hlt := h.lt
  have h1 : IsRom (w.alloc (.cells #[.pointer (some ⟨g, 0, none⟩)] 27)) g := h.keep (alloc_old _ _ _ hlt)
  have hp0 : (w.alloc (.cells #[.pointer (some ⟨g, 0, none⟩)] 27)).cell? ⟨w.heap.size, 0, none⟩ = some (.pointer (some ⟨g, 0, none⟩)) := (cell_row (alloc_new w _) 0).trans rfl
  have S1 : Hid (Calls Tryz.prog 140 #[.pointer (some ⟨g, 0, none⟩), .int .i64 i, .int .i64 64, .func (.func 149) #[] #[.pointer (some ⟨w.heap.size, 0, none⟩)]] (w.alloc (.cells #[.pointer (some ⟨g, 0, none⟩)] 27)) fun e w' => e = .returned (.tuple #[.int .u64 (recipV i : Nat), .bool (recipB i)]) ∧ RomOk w' g ∧ But (· = g) w w') := Lib.hid (by
    by_cases hi : 0 ≤ i ∧ i < 64
    · obtain ⟨k, rfl⟩ := Int.eq_ofNat_of_zero_le hi.1
      have e1 : recipV (k : Int) = rcpN k := by unfold recipV; rw [if_pos hi]; rfl
      have e2 : recipB (k : Int) = true := by unfold recipB; rw [decide_eq_true hi.1, decide_eq_true hi.2]; rfl
      rw [e1, e2]
      refine (ask_yes g (k : Int) 64 (rcpN k) _ _ _ h1 hi.1 hi.2 enters_tellR ?_).mono ?_
      · intro w' hok hb
        refine tellR_any g w.heap.size k w' (by omega) hok ?_
        rw [hb.cell0 (by simp) (by omega)]
        exact hp0
      · rintro e w' ⟨rfl, a, b⟩
        exact ⟨rfl, a, ((But.refl (· = g) w).al _).trans b⟩
    · have e1 : recipV i = 0 := by unfold recipV; rw [if_neg hi]
      have e2 : recipB i = false := by
        unfold recipB
        by_cases h0 : 0 ≤ i
        · rw [decide_eq_false (show ¬ i < 64 by omega), Bool.and_false]
        · rw [decide_eq_false h0, Bool.false_and]
      rw [e1, e2]
      refine (ask_no g i 64 _ _ h1 (by omega)).mono ?_
      rintro e w' ⟨rfl, a, b⟩
      exact ⟨rfl, a, ((But.refl (· = g) w).al _).trans b⟩)
  obtain ⟨v, hv⟩ : ∃ v, v = recipV i := ⟨_, rfl⟩
  obtain ⟨b, hb⟩ : ∃ b, b = recipB i := ⟨_, rfl⟩
  rw [← hv, ← hb] at S1 ⊢
  clear h hlt h1 hp0 hv hb
  go_enter Tryz.func142, Tryz.ntmps142
  go_wp2_with fail
  refine S1.out.mono ?_
  rintro e w1 ⟨rfl, hr, hb⟩
  have H := Lib.hid hr; have U := Lib.hid hb
  clear hr hb
  go_wp2
  go_ret2
  exact ⟨rfl, H.out, U.out⟩
theorem root_any (g : Nat) (i : Int) (w : World) (h : IsRom w g) (hi1 : i ≤ 9223372036854775807) :
    Calls Tryz.prog 131 #[.pointer (some ⟨g, 0, none⟩), .int .i64 i] w fun e w' => e = .returned (.tuple #[.int .u64 (rootV i : Nat), .bool (rootB i)]) ∧ RomOk w' g ∧ But (· = g) w w' := by
  have hlt := h.lt
  have h1 : IsRom (w.alloc (.cells #[.pointer (some ⟨g, 0, none⟩)] 27)) g := h.keep (alloc_old _ _ _ hlt)
  have hp0 : (w.alloc (.cells #[.pointer (some ⟨g, 0, none⟩)] 27)).cell? ⟨w.heap.size, 0, none⟩ = some (.pointer (some ⟨g, 0, none⟩)) := (cell_row (alloc_new w _) 0).trans rfl
  obtain ⟨j, hj⟩ : ∃ j, j = max i 0 - 32 := ⟨_, rfl⟩
  have S1 : Hid (Calls Tryz.prog 140 #[.pointer (some ⟨g, 0, none⟩), .int .i64 j, .int .i64 96, .func (.func 141) #[] #[.pointer (some ⟨w.heap.size, 0, none⟩)]] (w.alloc (.cells #[.pointer (some ⟨g, 0, none⟩)] 27)) fun e w' => e = .returned (.tuple #[.int .u64 (rootV i : Nat), .bool (rootB i)]) ∧ RomOk w' g ∧ But (· = g) w w') := Lib.hid (by
    by_cases hi : 32 ≤ i ∧ i < 128
    · obtain ⟨k, hk⟩ := Int.eq_ofNat_of_zero_le (show 0 ≤ j by omega)
      have hk : j = (k : Int) := hk
      subst hk
      have e1 : rootV i = rtgN k := by unfold rootV; rw [if_pos hi]; congr 1; omega
      have e2 : rootB i = true := by unfold rootB; rw [decide_eq_true hi.1, decide_eq_true hi.2]; rfl
      rw [e1, e2]
      refine (ask_yes g (k : Int) 96 (rtgN k) _ _ _ h1 (by omega) (by omega) enters_tellS ?_).mono ?_
      · intro w' hok hb
        refine tellS_any g w.heap.size k w' (by omega) hok ?_
        rw [hb.cell0 (by simp) (by omega)]
        exact hp0
      · rintro e w' ⟨rfl, a, b⟩
        exact ⟨rfl, a, ((But.refl (· = g) w).al _).trans b⟩
    · have e1 : rootV i = 0 := by unfold rootV; rw [if_neg hi]
      have e2 : rootB i = false := by
        unfold rootB
        by_cases h0 : 32 ≤ i
        · rw [decide_eq_false (show ¬ i < 128 by omega), Bool.and_false]
        · rw [decide_eq_false h0, Bool.false_and]
      rw [e1, e2]
      refine (ask_no g j 96 _ _ h1 (by omega)).mono ?_
      rintro e w' ⟨rfl, a, b⟩
      exact ⟨rfl, a, ((But.refl (· = g) w).al _).trans b⟩)
  have hw : IntKind.i64.wrap (max i 0 - 32) = j := by rw [hj]; exact IntWalk.i64_in _ (by omega)
  obtain ⟨v, hv⟩ : ∃ v, v = rootV i := ⟨_, rfl⟩
  obtain ⟨b, hb⟩ : ∃ b, b = rootB i := ⟨_, rfl⟩
  rw [← hv, ← hb] at S1 ⊢
  clear h hlt h1 hp0 hv hb hj hi1
  go_enter Tryz.func131, Tryz.ntmps131
  go_wp2_with fail
  refine S1.out.mono ?_
  rintro e w1 ⟨rfl, hr, hb⟩
  have H := Lib.hid hr; have U := Lib.hid hb
  clear hr hb
  go_wp2
  go_ret2
  exact ⟨rfl, H.out, U.out⟩
end Go.Proofs.YtegmmaaapdgocaaGreat

/- THE WALKS of package rom, going on: guesses; how often tables were made; a rom that isn't there. -/
namespace Go.Proofs.YtegmmaaapdgocaaGreat
open Go Go.RowKit

/-- A divisor's guess. -/
def guessV (d : Nat) : Nat := if blen d = 128 then rcpN (d / P2 121 - 64) else 0
def guessB (d : Nat) : Bool := decide (blen d = 128)
/-- A radicand's guess. -/
def guessRV (n : Nat) : Nat := if blen n = 255 ∨ blen n = 256 then rtgN (n / P2 249 - 32) else 0
def guessRB (n : Nat) : Bool := decide (blen n = 255 ∨ blen n = 256)
theorem limb_own {n : Nat} (h : n < P2 64) : limb n 0 = n := by
  unfold limb
  rw [Nat.mul_zero, P2_0, Nat.div_one, Nat.mod_eq_of_lt h]
theorem high_range {d b s : Nat} (h : blen d = b) (hs : s < b) : P2 (b - 1 - s) ≤ d / P2 s ∧ d / P2 s < P2 (b - s) := by
  have hd0 : d ≠ 0 := fun e => by rw [e, blen_zero] at h; omega
  have h1 := blen_lt d
  have h2 := blen_le hd0
  rw [h] at h1 h2
  refine ⟨(Nat.le_div_iff_mul_le (P2_pos _)).2 ?_, (Nat.div_lt_iff_lt_mul (P2_pos _)).2 ?_⟩
  · rw [← P2_add, show b - 1 - s + s = b - 1 by omega]; exact h2
  · rw [← P2_add, show b - s + s = b by omega]; exact h1
attribute [local go_sem ↓] Go.wp_at_zero Go.wp_at_succ
set_option maxHeartbeats 1000000 in
theorem guess_any (g d : Nat) (hd : d < M) (w : World) (h : IsRom w g) :
    Calls Tryz.prog 132 #[.pointer (some ⟨g, 0, none⟩), wv d] w fun e w' => e = .returned (.tuple #[.int .u64 (guessV d : Nat), .bool (guessB d)]) ∧ RomOk w' g ∧ But (· = g) w w' := by
  have S1 := Lib.hid (fun w' => len_w d hd w')
  have KR := Lib.hid h
  have UB := Lib.hid (But.refl (· = g) w)
  by_cases hl : blen d = 128
  · obtain ⟨r1, r2⟩ := high_range hl (show 121 < 128 by omega)
    rw [show P2 (128 - 1 - 121) = 64 by rw [P2_eq]] at r1
    rw [show P2 (128 - 121) = 128 by rw [P2_eq]] at r2
    have S2 := Lib.hid (fun w' => shr_any d hd ((121 : Nat) : Int) w' (by decide) (by decide))
    rw [clampN_at (show 121 ≤ 512 by decide)] at S2
    unfold guessV guessB
    rw [if_pos hl, decide_eq_true hl]
    rw [hl] at S1
    obtain ⟨q, hq⟩ : ∃ q, q = d / P2 121 := ⟨_, rfl⟩
    obtain ⟨fl, hfl⟩ : ∃ f, f = decide (d % P2 121 ≠ 0) := ⟨_, rfl⟩
    rw [← hq, ← hfl] at S2
    rw [← hq] at r1 r2 ⊢
    have e1 : ((limb q 0 : Nat) : Int) = (q : Int) := by rw [limb_own (by rw [P2_64]; omega)]
    have S3 := Lib.hid (fun w' h => recip_any g ((q : Int) - 64) w' h)
    rw [show recipV ((q : Int) - 64) = rcpN (q - 64) by unfold recipV; rw [if_pos (by omega)]; congr 1; omega, show recipB ((q : Int) - 64) = true by unfold recipB; rw [decide_eq_true (show (0 : Int) ≤ (q : Int) - 64 by omega), decide_eq_true (show (q : Int) - 64 < 64 by omega)]; rfl] at S3
    obtain ⟨v, hv⟩ : ∃ v, v = rcpN (q - 64) := ⟨_, rfl⟩
    rw [← hv] at S3 ⊢
    have hw1 : IntKind.i64.wrap (q : Int) = (q : Int) := IntWalk.i64_in _ (by omega)
    have hw2 : IntKind.i64.wrap ((q : Int) - 64) = (q : Int) - 64 := IntWalk.i64_in _ (by omega)
    clear h hd hl r1 r2 hq hfl hv
    go_enter Tryz.func132, Tryz.ntmps132
    replace KR := Lib.hid (KR.out.older (below_al (Below.refl (w).heap.size (w)) (.cells (wcells d) 24)))
    have Gd := Lib.hid (alloc_new (w) (.cells (wcells d) 24))
    replace UB := Lib.hid (UB.out.al (.cells (wcells d) 24))
    have cGd := cell_row Gd.out
    go_wp2_with fail
    refine (S1.out _).mono ?_
    rintro e w1 ⟨rfl, hb⟩
    clear cGd
    replace UB := Lib.hid (UB.out.trans (But.of_below hb))
    replace KR := Lib.hid (KR.out.older hb)
    replace Gd := Lib.hid ((hb.block _ (lt_of_heap Gd.out)).trans Gd.out)
    clear hb
    have cGd := cell_row Gd.out
    go_wp2_with fail
    refine (S2.out _).mono ?_
    rintro e w2 ⟨rfl, hb⟩
    clear cGd
    replace UB := Lib.hid (UB.out.trans (But.of_below hb))
    replace KR := Lib.hid (KR.out.older hb)
    replace Gd := Lib.hid ((hb.block _ (lt_of_heap Gd.out)).trans Gd.out)
    clear hb
    replace KR := Lib.hid (KR.out.older (below_al (Below.refl (w2).heap.size (w2)) (.cells (wcells q) 24)))
    have Gh := Lib.hid (alloc_new (w2) (.cells (wcells q) 24))
    replace UB := Lib.hid (UB.out.al (.cells (wcells q) 24))
    have cGh := cell_row Gh.out
    go_wp2_with fail
    clear cGh
    refine (S3.out _ KR.out).mono ?_
    rintro e w9 ⟨rfl, hok, hb⟩
    have HOK := Lib.hid hok
    replace UB := Lib.hid (UB.out.trans hb)
    clear hok hb
    go_wp2
    go_ret2
    exact ⟨rfl, HOK.out, UB.out⟩
  · unfold guessV guessB
    rw [if_neg hl, decide_eq_false hl]
    have hb : (((blen d : Nat) : Int) != 128) = true := by simp; omega
    obtain ⟨l, hle⟩ : ∃ l, l = blen d := ⟨_, rfl⟩
    rw [← hle] at S1 hb
    have hb2 : ¬ (l : Int) = 128 := by omega
    have S3 := Lib.hid (fun w' h => recip_any g (-1) w' h)
    rw [show recipV (-1) = 0 from rfl, show recipB (-1) = false from rfl] at S3
    clear h hd hl hle
    go_enter Tryz.func132, Tryz.ntmps132
    replace KR := Lib.hid (KR.out.older (below_al (Below.refl (w).heap.size (w)) (.cells (wcells d) 24)))
    have Gd := Lib.hid (alloc_new (w) (.cells (wcells d) 24))
    replace UB := Lib.hid (UB.out.al (.cells (wcells d) 24))
    have cGd := cell_row Gd.out
    go_wp2_with fail
    refine (S1.out _).mono ?_
    rintro e w3 ⟨rfl, hb⟩
    clear cGd
    replace UB := Lib.hid (UB.out.trans (But.of_below hb))
    replace KR := Lib.hid (KR.out.older hb)
    replace Gd := Lib.hid ((hb.block _ (lt_of_heap Gd.out)).trans Gd.out)
    clear hb
    go_wp2_with fail
    refine (S3.out _ KR.out).mono ?_
    rintro e w9 ⟨rfl, hok, hb⟩
    have HOK := Lib.hid hok
    replace UB := Lib.hid (UB.out.trans hb)
    clear hok hb
    go_wp2
    go_ret2
    exact ⟨rfl, HOK.out, UB.out⟩
set_option maxHeartbeats 1000000 in
theorem guessRoot_any (g n : Nat) (hn : n < M) (w : World) (h : IsRom w g) :
    Calls Tryz.prog 105 #[.pointer (some ⟨g, 0, none⟩), wv n] w fun e w' => e = .returned (.tuple #[.int .u64 (guessRV n : Nat), .bool (guessRB n)]) ∧ RomOk w' g ∧ But (· = g) w w' := by
  have S1 := Lib.hid (fun w' => len_w n hn w')
  have KR := Lib.hid h
  have UB := Lib.hid (But.refl (· = g) w)
  by_cases hl : blen n = 255 ∨ blen n = 256
  · have hr : 32 ≤ n / P2 249 ∧ n / P2 249 < 128 := by
      rcases hl with hl | hl
      · obtain ⟨r1, r2⟩ := high_range hl (show 249 < 255 by omega)
        rw [show P2 (255 - 1 - 249) = 32 by rw [P2_eq]] at r1
        rw [show P2 (255 - 249) = 64 by rw [P2_eq]] at r2
        omega
      · obtain ⟨r1, r2⟩ := high_range hl (show 249 < 256 by omega)
        rw [show P2 (256 - 1 - 249) = 64 by rw [P2_eq]] at r1
        rw [show P2 (256 - 249) = 128 by rw [P2_eq]] at r2
        omega
    obtain ⟨r1, r2⟩ := hr
    have S2 := Lib.hid (fun w' => shr_any n hn ((249 : Nat) : Int) w' (by decide) (by decide))
    rw [clampN_at (show 249 ≤ 512 by decide)] at S2
    unfold guessRV guessRB
    rw [if_pos hl, decide_eq_true hl]
    obtain ⟨q, hq⟩ : ∃ q, q = n / P2 249 := ⟨_, rfl⟩
    obtain ⟨fl, hfl⟩ : ∃ f, f = decide (n % P2 249 ≠ 0) := ⟨_, rfl⟩
    rw [← hq, ← hfl] at S2
    rw [← hq] at r1 r2 ⊢
    have e1 : ((limb q 0 : Nat) : Int) = (q : Int) := by rw [limb_own (by rw [P2_64]; omega)]
    have S3 := Lib.hid (fun w' h => root_any g (q : Int) w' h (by omega))
    rw [show rootV (q : Int) = rtgN (q - 32) by unfold rootV; rw [if_pos (by omega)]; congr 1; omega, show rootB (q : Int) = true by unfold rootB; rw [decide_eq_true (show (32 : Int) ≤ (q : Int) by omega), decide_eq_true (show (q : Int) < 128 by omega)]; rfl] at S3
    obtain ⟨v, hv⟩ : ∃ v, v = rtgN (q - 32) := ⟨_, rfl⟩
    rw [← hv] at S3 ⊢
    have hw1 : IntKind.i64.wrap (q : Int) = (q : Int) := IntWalk.i64_in _ (by omega)
    rcases hl with hl | hl
    · rw [hl] at S1
      clear h hn hl r1 r2 hq hfl hv
      go_enter Tryz.func105, Tryz.ntmps105
      replace KR := Lib.hid (KR.out.older (below_al (Below.refl (w).heap.size (w)) (.cells (wcells n) 24)))
      have Gn := Lib.hid (alloc_new (w) (.cells (wcells n) 24))
      replace UB := Lib.hid (UB.out.al (.cells (wcells n) 24))
      have cGn := cell_row Gn.out
      go_wp2_with fail
      refine (S1.out _).mono ?_
      rintro e w4 ⟨rfl, hb⟩
      clear cGn
      replace UB := Lib.hid (UB.out.trans (But.of_below hb))
      replace KR := Lib.hid (KR.out.older hb)
      replace Gn := Lib.hid ((hb.block _ (lt_of_heap Gn.out)).trans Gn.out)
      clear hb
      have cGn := cell_row Gn.out
      go_wp2_with fail
      refine (S2.out _).mono ?_
      rintro e w5 ⟨rfl, hb⟩
      clear cGn
      replace UB := Lib.hid (UB.out.trans (But.of_below hb))
      replace KR := Lib.hid (KR.out.older hb)
      replace Gn := Lib.hid ((hb.block _ (lt_of_heap Gn.out)).trans Gn.out)
      clear hb
      replace KR := Lib.hid (KR.out.older (below_al (Below.refl (w5).heap.size (w5)) (.cells (wcells q) 24)))
      have Gh := Lib.hid (alloc_new (w5) (.cells (wcells q) 24))
      replace UB := Lib.hid (UB.out.al (.cells (wcells q) 24))
      have cGh := cell_row Gh.out
      go_wp2_with fail
      clear cGh
      refine (S3.out _ KR.out).mono ?_
      rintro e w9 ⟨rfl, hok, hb⟩
      have HOK := Lib.hid hok
      replace UB := Lib.hid (UB.out.trans hb)
      clear hok hb
      go_wp2
      go_ret2
      exact ⟨rfl, HOK.out, UB.out⟩
    · rw [hl] at S1
      clear h hn hl r1 r2 hq hfl hv
      go_enter Tryz.func105, Tryz.ntmps105
      replace KR := Lib.hid (KR.out.older (below_al (Below.refl (w).heap.size (w)) (.cells (wcells n) 24)))
      have Gn := Lib.hid (alloc_new (w) (.cells (wcells n) 24))
      replace UB := Lib.hid (UB.out.al (.cells (wcells n) 24))
      have cGn := cell_row Gn.out
      go_wp2_with fail
      refine (S1.out _).mono ?_
      rintro e w6 ⟨rfl, hb⟩
      clear cGn
      replace UB := Lib.hid (UB.out.trans (But.of_below hb))
      replace KR := Lib.hid (KR.out.older hb)
      replace Gn := Lib.hid ((hb.block _ (lt_of_heap Gn.out)).trans Gn.out)
      clear hb
      have cGn := cell_row Gn.out
      go_wp2_with fail
      refine (S2.out _).mono ?_
      rintro e w7 ⟨rfl, hb⟩
      clear cGn
      replace UB := Lib.hid (UB.out.trans (But.of_below hb))
      replace KR := Lib.hid (KR.out.older hb)
      replace Gn := Lib.hid ((hb.block _ (lt_of_heap Gn.out)).trans Gn.out)
      clear hb
      replace KR := Lib.hid (KR.out.older (below_al (Below.refl (w7).heap.size (w7)) (.cells (wcells q) 24)))
      have Gh := Lib.hid (alloc_new (w7) (.cells (wcells q) 24))
      replace UB := Lib.hid (UB.out.al (.cells (wcells q) 24))
      have cGh := cell_row Gh.out
      go_wp2_with fail
      clear cGh
      refine (S3.out _ KR.out).mono ?_
      rintro e w9 ⟨rfl, hok, hb⟩
      have HOK := Lib.hid hok
      replace UB := Lib.hid (UB.out.trans hb)
      clear hok hb
      go_wp2
      go_ret2
      exact ⟨rfl, HOK.out, UB.out⟩
  · unfold guessRV guessRB
    rw [if_neg hl, decide_eq_false hl]
    obtain ⟨l, hle⟩ : ∃ l, l = blen n := ⟨_, rfl⟩
    rw [← hle] at S1 hl
    have hb1 : ((l : Int) != 255) = true := by simp; omega
    have hb2 : ((l : Int) != 256) = true := by simp; omega
    have hb3 : ¬ (l : Int) = 255 := by omega
    have hb4 : ¬ (l : Int) = 256 := by omega
    have S3 := Lib.hid (fun w' h => root_any g (-1) w' h (by decide))
    rw [show rootV (-1) = 0 from rfl, show rootB (-1) = false from rfl] at S3
    clear h hn hl hle
    go_enter Tryz.func105, Tryz.ntmps105
    replace KR := Lib.hid (KR.out.older (below_al (Below.refl (w).heap.size (w)) (.cells (wcells n) 24)))
    have Gn := Lib.hid (alloc_new (w) (.cells (wcells n) 24))
    replace UB := Lib.hid (UB.out.al (.cells (wcells n) 24))
    have cGn := cell_row Gn.out
    go_wp2_with fail
    refine (S1.out _).mono ?_
    rintro e w8 ⟨rfl, hb⟩
    clear cGn
    replace UB := Lib.hid (UB.out.trans (But.of_below hb))
    replace KR := Lib.hid (KR.out.older hb)
    replace Gn := Lib.hid ((hb.block _ (lt_of_heap Gn.out)).trans Gn.out)
    clear hb
    go_wp2_with fail
    refine (S3.out _ KR.out).mono ?_
    rintro e w9 ⟨rfl, hok, hb⟩
    have HOK := Lib.hid hok
    replace UB := Lib.hid (UB.out.trans hb)
    clear hok hb
    go_wp2
    go_ret2
    exact ⟨rfl, HOK.out, UB.out⟩

set_option maxRecDepth 100000 in
theorem romNew_any (w : World) : Calls Tryz.prog 16 #[] w fun e w' => e = .returned (.pointer (some ⟨w.heap.size, 0, none⟩)) ∧ RomNew w' w.heap.size ∧ Below w.heap.size w w' := by
  go_enter Tryz.func16, Tryz.ntmps16
  go_wp2
  go_ret
  exact ⟨rfl, ⟨_, alloc_new _ _, by simp, rfl, rfl, rfl⟩, below_al (Below.refl _ _) _⟩
end Go.Proofs.YtegmmaaapdgocaaGreat
