/- THE WALKS of package rom, going on: made once, asked; guesses. -/
import Derived.Test.YtegmmaaapdgocaaRom
import Derived.Test.YtegmmaaapdgocaaK3
import Derived.Test.YtegmmaaapdgocaaK6
import Derived.Test.YtegmmaaapdgocaaLaw11N
namespace Go.Proofs.Ytegmmaaapdgocaa
open Go Go.RowKit

attribute [local go_sem ↓] Go.wp_at_zero Go.wp_at_succ
set_option maxRecDepth 100000 in
set_option maxHeartbeats 1000000 in
theorem ready_any (g : Nat) (w : World) (h : IsRom w g) :
    Calls Try.prog 102 #[.pointer (some ⟨g, 0, none⟩)] w fun e w' => e = .returned (.tuple #[]) ∧ RomOk w' g ∧ But (· = g) w w' := by
  have hlt := h.lt
  have hG1 : ∀ (w' : World) (cs : Array Value) (t : TypeId), w.heap[g]? = some (.cells cs t (0, 0)) → (w.alloc (.cells #[.pointer (some ⟨g, 0, none⟩)] 55)).heap[g]? = some (.cells cs t (0, 0)) := fun _ cs t h => keepAl h
  have hp0 : (w.alloc (.cells #[.pointer (some ⟨g, 0, none⟩)] 55)).cell? ⟨w.heap.size, 0, none⟩ = some (.pointer (some ⟨g, 0, none⟩)) := (cell_row (alloc_new w _) 0).trans rfl
  rcases h with ⟨cs, hg, hs, h0, h1, h3⟩ | ⟨cs, hg, h0, h3, h4, h5⟩
  · have hg1 := hG1 w cs _ hg
    have c1 : (cs.setIfInBounds 1 (.int .i32 1)).size = 164 := by rw [Array.size_setIfInBounds, hs]
    have hgl := set_row hg1 1 (.int .i32 1)
    have key : Hid (Calls Try.prog 108 #[.pointer (some ⟨g, 0, none⟩), .func (.func 109) #[] #[.pointer (some ⟨w.heap.size, 0, none⟩)]] (w.alloc (.cells #[.pointer (some ⟨g, 0, none⟩)] 55)) fun e w' => e = .returned (.tuple #[]) ∧ RomOk w' g ∧ But (· = g) w w') := Lib.hid (by
      refine (onceDo_first g 109 #[.pointer (some ⟨w.heap.size, 0, none⟩)] (w.alloc (.cells #[.pointer (some ⟨g, 0, none⟩)] 55))
        (fun w' => w'.heap[g]? = some (.cells ((fillN (fillN (cs.setIfInBounds 1 (.int .i32 1)) 4 rcpN 64) 68 rtgN 96).setIfInBounds 3 (.int .i64 1)) 138 (0, 0)) ∧ But (· = g) w w') enters_ready
        ((cell_row hg1 0).trans h0) ((cell_row hg1 1).trans h1) (free_row hg1 1) ?_ ?_).mono ?_
      · refine (readyFun_any g w.heap.size (cs.setIfInBounds 1 (.int .i32 1)) _ c1 hgl ?_ (by omega) (by rw [Array.getElem?_setIfInBounds_ne (by decide)]; exact h3)).mono ?_
        · rw [World.cell?_setCell_other _ ⟨g, 1, none⟩ ⟨w.heap.size, 0, none⟩ _ (fun e => by have := congrArg Addr.block e; simp at this; omega)]
          exact hp0
        · rintro e w' ⟨rfl, h6, h7⟩
          exact ⟨rfl, h6, (((But.refl (· = g) w).al _).set rfl 1 _).trans h7⟩
      · rintro w' ⟨h6, _⟩
        refine ⟨(cell_row h6 0).trans ?_, free_row h6 0, (cell_row h6 1).trans ?_, free_row h6 1⟩
        · rw [Array.getElem?_setIfInBounds_ne (by decide), fillN_other _ _ _ _ _ (Or.inl (by decide)), fillN_other _ _ _ _ _ (Or.inl (by decide)), Array.getElem?_setIfInBounds_ne (by decide)]; exact h0
        · rw [Array.getElem?_setIfInBounds_ne (by decide), fillN_other _ _ _ _ _ (Or.inl (by decide)), fillN_other _ _ _ _ _ (Or.inl (by decide))]
          exact Array.getElem?_setIfInBounds_self_of_lt (by omega)
      · rintro e w' ⟨rfl, W2, ⟨h6, h7⟩, rfl⟩
        have h8 : W2.drew.heap[g]? = _ := h6
        refine ⟨rfl, ⟨_, set_row (set_row h8 0 _) 1 _, ?_, ?_, fun i hi => ?_, fun i hi => ?_⟩, ((h7.drew).set rfl 0 _).set rfl 1 _⟩
        · rw [Array.getElem?_setIfInBounds_ne (by decide)]
          exact Array.getElem?_setIfInBounds_self_of_lt (by rw [Array.size_setIfInBounds, fillN_size, fillN_size, c1]; decide)
        · rw [Array.getElem?_setIfInBounds_ne (by decide), Array.getElem?_setIfInBounds_ne (by decide)]
          exact Array.getElem?_setIfInBounds_self_of_lt (by rw [fillN_size, fillN_size, c1]; decide)
        · rw [Array.getElem?_setIfInBounds_ne (by omega), Array.getElem?_setIfInBounds_ne (by omega), Array.getElem?_setIfInBounds_ne (by omega), fillN_other _ _ _ _ _ (Or.inl (by omega))]
          exact fillN_at _ _ _ _ _ hi (by rw [c1]; decide)
        · rw [Array.getElem?_setIfInBounds_ne (by omega), Array.getElem?_setIfInBounds_ne (by omega), Array.getElem?_setIfInBounds_ne (by omega)]
          exact fillN_at _ _ _ _ _ hi (by rw [fillN_size, c1]; decide))
    clear hg hs h0 h1 h3 hg1 c1 hgl hG1 hp0 hlt
    go_enter Try.func102, Try.ntmps102
    go_wp2_with fail
    refine key.out.mono ?_
    rintro e w1 ⟨rfl, hr, hb⟩
    have H := Lib.hid hr; have U := Lib.hid hb
    clear hr hb
    go_wp2
    exact bodyPost_end (v := .tuple #[]) (by simp [results, Try.results102, go_sem]) rfl ⟨rfl, H.out, U.out⟩
  · have hok : RomOk w g := ⟨cs, hg, h0, h3, h4, h5⟩
    have key : Hid (Calls Try.prog 108 #[.pointer (some ⟨g, 0, none⟩), .func (.func 109) #[] #[.pointer (some ⟨w.heap.size, 0, none⟩)]] (w.alloc (.cells #[.pointer (some ⟨g, 0, none⟩)] 55)) fun e w' => e = .returned (.tuple #[]) ∧ RomOk w' g ∧ But (· = g) w w') := Lib.hid (by
      refine (onceDo_done g 1 _ _ rfl ((cell_row (hG1 w cs _ hg) 0).trans h0)).mono ?_
      rintro e w' ⟨rfl, rfl⟩
      exact ⟨rfl, hok.keep (alloc_old _ _ _ hlt), (But.refl (· = g) w).al _⟩)
    clear hg h0 h3 h4 h5 hG1 hp0 hlt hok
    go_enter Try.func102, Try.ntmps102
    go_wp2_with fail
    refine key.out.mono ?_
    rintro e w1 ⟨rfl, hr, hb⟩
    have H := Lib.hid hr; have U := Lib.hid hb
    clear hr hb
    go_wp2
    exact bodyPost_end (v := .tuple #[]) (by simp [results, Try.results102, go_sem]) rfl ⟨rfl, H.out, U.out⟩

theorem ask_nil (i n : Int) (fv : Value) (w : World) : Calls Try.prog 96 #[.pointer none, .int .i64 i, .int .i64 n, fv] w fun e w' => e = .returned (.tuple #[.int .u64 0, .bool false]) ∧ w' = w := by
  go_enter Try.func96, Try.ntmps96
  go_wp2
  go_ret2
  exact ⟨rfl, rfl⟩
theorem ask_no (g : Nat) (i n : Int) (fv : Value) (w : World) (h : IsRom w g) (hi : i < 0 ∨ n ≤ i) : Calls Try.prog 96 #[.pointer (some ⟨g, 0, none⟩), .int .i64 i, .int .i64 n, fv] w fun e w' => e = .returned (.tuple #[.int .u64 0, .bool false]) ∧ RomOk w' g ∧ But (· = g) w w' := by
  have S1 := Lib.hid (ready_any g w h)
  clear h
  by_cases h0 : i < 0
  · clear hi
    go_enter Try.func96, Try.ntmps96
    go_wp2_with fail
    refine S1.out.mono ?_
    rintro e w1 ⟨rfl, hr, hb⟩
    have H := Lib.hid hr; have U := Lib.hid hb
    clear hr hb
    go_wp2
    go_ret2
    exact ⟨rfl, H.out, U.out⟩
  · have h1 : n ≤ i := by omega
    clear hi
    go_enter Try.func96, Try.ntmps96
    go_wp2_with fail
    refine S1.out.mono ?_
    rintro e w1 ⟨rfl, hr, hb⟩
    have H := Lib.hid hr; have U := Lib.hid hb
    clear hr hb
    go_wp2
    go_ret2
    exact ⟨rfl, H.out, U.out⟩
theorem ask_yes (g : Nat) (i n : Int) (v : Nat) (f : FuncId) (caps : Array Value) (w : World) (h : IsRom w g) (h0 : 0 ≤ i) (h1 : i < n) (hcall : Enters Try.prog f)
    (hT : ∀ w', RomOk w' g → But (· = g) w w' → Calls Try.prog f (#[.int .i64 i] ++ caps) w' fun e w'' => e = .returned (.int .u64 (v : Int)) ∧ w'' = w') :
    Calls Try.prog 96 #[.pointer (some ⟨g, 0, none⟩), .int .i64 i, .int .i64 n, .func (.func f) #[] caps] w fun e w' => e = .returned (.tuple #[.int .u64 (v : Int), .bool true]) ∧ RomOk w' g ∧ But (· = g) w w' := by
  have S1 := Lib.hid (ready_any g w h)
  have HT := Lib.hid hT
  have hn0 : ¬ i < 0 := by omega
  have hn1 : ¬ n ≤ i := by omega
  unfold Enters at hcall
  clear h hT
  go_enter Try.func96, Try.ntmps96
  go_wp2_with fail
  refine S1.out.mono ?_
  rintro e w1 ⟨rfl, hr, hb⟩
  have H := Lib.hid hr; have U := Lib.hid hb
  have T := Lib.hid (HT.out w1 hr hb)
  clear hr hb
  go_wp2_with fail
  refine T.out.mono ?_
  rintro e w2 ⟨rfl, rfl⟩
  go_wp2
  go_ret2
  exact ⟨rfl, H.out, U.out⟩
theorem enters_tellR : Enters Try.prog 106 := fun args w => by simp [go_sem]
theorem enters_tellS : Enters Try.prog 97 := fun args w => by simp [go_sem]
set_option maxRecDepth 100000 in
theorem tellR_any (g p i : Nat) (w : World) (hi : i < 64) (h : RomOk w g) (hp : w.cell? ⟨p, 0, none⟩ = some (.pointer (some ⟨g, 0, none⟩))) :
    Calls Try.prog 106 #[.int .i64 (i : Int), .pointer (some ⟨p, 0, none⟩)] w fun e w' => e = .returned (.int .u64 (rcpN i : Nat)) ∧ w' = w := by
  obtain ⟨cs, hg, _, _, h4, _⟩ := h
  have c0 : w.cell? ⟨g, 4 + i, none⟩ = some (.int .u64 (rcpN i : Nat)) := (cell_row hg _).trans (h4 i hi)
  have e0 : (0 : Int) ≤ (i : Int) := Int.natCast_nonneg _
  have e1 : (i : Int) < 64 := by omega
  obtain ⟨r, hr⟩ : ∃ r, r = rcpN i := ⟨_, rfl⟩
  rw [← hr] at c0 ⊢
  clear hg h4 hi hr
  go_enter Try.func106, Try.ntmps106
  go_wp2
  go_ret
  exact ⟨rfl, rfl⟩
set_option maxRecDepth 100000 in
theorem tellS_any (g p i : Nat) (w : World) (hi : i < 96) (h : RomOk w g) (hp : w.cell? ⟨p, 0, none⟩ = some (.pointer (some ⟨g, 0, none⟩))) :
    Calls Try.prog 97 #[.int .i64 (i : Int), .pointer (some ⟨p, 0, none⟩)] w fun e w' => e = .returned (.int .u64 (rtgN i : Nat)) ∧ w' = w := by
  obtain ⟨cs, hg, _, _, _, h5⟩ := h
  have c0 : w.cell? ⟨g, 68 + i, none⟩ = some (.int .u64 (rtgN i : Nat)) := (cell_row hg _).trans (h5 i hi)
  have e0 : (0 : Int) ≤ (i : Int) := Int.natCast_nonneg _
  have e1 : (i : Int) < 96 := by omega
  obtain ⟨r, hr⟩ : ∃ r, r = rtgN i := ⟨_, rfl⟩
  rw [← hr] at c0 ⊢
  clear hg h5 hi hr
  go_enter Try.func97, Try.ntmps97
  go_wp2
  go_ret
  exact ⟨rfl, rfl⟩

/-- What a rom tells of a place. -/
def recipV (i : Int) : Nat := if 0 ≤ i ∧ i < 64 then rcpN i.toNat else 0
def recipB (i : Int) : Bool := decide (0 ≤ i) && decide (i < 64)
def rootV (i : Int) : Nat := if 32 ≤ i ∧ i < 128 then rtgN (i - 32).toNat else 0
def rootB (i : Int) : Bool := decide (32 ≤ i) && decide (i < 128)
theorem recip_any (g : Nat) (i : Int) (w : World) (h : IsRom w g) :
    Calls Try.prog 99 #[.pointer (some ⟨g, 0, none⟩), .int .i64 i] w fun e w' => e = .returned (.tuple #[.int .u64 (recipV i : Nat), .bool (recipB i)]) ∧ RomOk w' g ∧ But (· = g) w w' := by
  have hlt := h.lt
  have h1 : IsRom (w.alloc (.cells #[.pointer (some ⟨g, 0, none⟩)] 55)) g := h.keep (alloc_old _ _ _ hlt)
  have hp0 : (w.alloc (.cells #[.pointer (some ⟨g, 0, none⟩)] 55)).cell? ⟨w.heap.size, 0, none⟩ = some (.pointer (some ⟨g, 0, none⟩)) := (cell_row (alloc_new w _) 0).trans rfl
  have S1 : Hid (Calls Try.prog 96 #[.pointer (some ⟨g, 0, none⟩), .int .i64 i, .int .i64 64, .func (.func 106) #[] #[.pointer (some ⟨w.heap.size, 0, none⟩)]] (w.alloc (.cells #[.pointer (some ⟨g, 0, none⟩)] 55)) fun e w' => e = .returned (.tuple #[.int .u64 (recipV i : Nat), .bool (recipB i)]) ∧ RomOk w' g ∧ But (· = g) w w') := Lib.hid (by
    by_cases hi : 0 ≤ i ∧ i < 64
    · obtain ⟨k, rfl⟩ := Int.eq_ofNat_of_zero_le hi.1
      have e1 : recipV (k : Int) = rcpN k := by unfold recipV; rw [if_pos hi]; rfl
      have e2 : recipB (k : Int) = true := by unfold recipB; rw [decide_eq_true hi.1, decide_eq_true hi.2]; rfl
      rw [e1, e2]
      refine (ask_yes g (k : Int) 64 (rcpN k) _ _ _ h1 hi.1 hi.2 enters_tellR ?_).mono ?_
      · intro w' hok hb
        refine tellR_any g w.heap.size k w' (by omega) hok ?_
        rw [hb.cell0 (by simp) (by omega)]
        exact hp0
      · rintro e w' ⟨rfl, a, b⟩
        exact ⟨rfl, a, ((But.refl (· = g) w).al _).trans b⟩
    · have e1 : recipV i = 0 := by unfold recipV; rw [if_neg hi]
      have e2 : recipB i = false := by
        unfold recipB
        by_cases h0 : 0 ≤ i
        · rw [decide_eq_false (show ¬ i < 64 by omega), Bool.and_false]
        · rw [decide_eq_false h0, Bool.false_and]
      rw [e1, e2]
      refine (ask_no g i 64 _ _ h1 (by omega)).mono ?_
      rintro e w' ⟨rfl, a, b⟩
      exact ⟨rfl, a, ((But.refl (· = g) w).al _).trans b⟩)
  obtain ⟨v, hv⟩ : ∃ v, v = recipV i := ⟨_, rfl⟩
  obtain ⟨b, hb⟩ : ∃ b, b = recipB i := ⟨_, rfl⟩
  rw [← hv, ← hb] at S1 ⊢
  clear h hlt h1 hp0 hv hb
  go_enter Try.func99, Try.ntmps99
  go_wp2_with fail
  refine S1.out.mono ?_
  rintro e w1 ⟨rfl, hr, hb⟩
  have H := Lib.hid hr; have U := Lib.hid hb
  clear hr hb
  go_wp2
  go_ret2
  exact ⟨rfl, H.out, U.out⟩
theorem root_any (g : Nat) (i : Int) (w : World) (h : IsRom w g) (hi1 : i ≤ 9223372036854775807) :
    Calls Try.prog 87 #[.pointer (some ⟨g, 0, none⟩), .int .i64 i] w fun e w' => e = .returned (.tuple #[.int .u64 (rootV i : Nat), .bool (rootB i)]) ∧ RomOk w' g ∧ But (· = g) w w' := by
  have hlt := h.lt
  have h1 : IsRom (w.alloc (.cells #[.pointer (some ⟨g, 0, none⟩)] 55)) g := h.keep (alloc_old _ _ _ hlt)
  have hp0 : (w.alloc (.cells #[.pointer (some ⟨g, 0, none⟩)] 55)).cell? ⟨w.heap.size, 0, none⟩ = some (.pointer (some ⟨g, 0, none⟩)) := (cell_row (alloc_new w _) 0).trans rfl
  obtain ⟨j, hj⟩ : ∃ j, j = max i 0 - 32 := ⟨_, rfl⟩
  have S1 : Hid (Calls Try.prog 96 #[.pointer (some ⟨g, 0, none⟩), .int .i64 j, .int .i64 96, .func (.func 97) #[] #[.pointer (some ⟨w.heap.size, 0, none⟩)]] (w.alloc (.cells #[.pointer (some ⟨g, 0, none⟩)] 55)) fun e w' => e = .returned (.tuple #[.int .u64 (rootV i : Nat), .bool (rootB i)]) ∧ RomOk w' g ∧ But (· = g) w w') := Lib.hid (by
    by_cases hi : 32 ≤ i ∧ i < 128
    · obtain ⟨k, hk⟩ := Int.eq_ofNat_of_zero_le (show 0 ≤ j by omega)
      have hk : j = (k : Int) := hk
      subst hk
      have e1 : rootV i = rtgN k := by unfold rootV; rw [if_pos hi]; congr 1; omega
      have e2 : rootB i = true := by unfold rootB; rw [decide_eq_true hi.1, decide_eq_true hi.2]; rfl
      rw [e1, e2]
      refine (ask_yes g (k : Int) 96 (rtgN k) _ _ _ h1 (by omega) (by omega) enters_tellS ?_).mono ?_
      · intro w' hok hb
        refine tellS_any g w.heap.size k w' (by omega) hok ?_
        rw [hb.cell0 (by simp) (by omega)]
        exact hp0
      · rintro e w' ⟨rfl, a, b⟩
        exact ⟨rfl, a, ((But.refl (· = g) w).al _).trans b⟩
    · have e1 : rootV i = 0 := by unfold rootV; rw [if_neg hi]
      have e2 : rootB i = false := by
        unfold rootB
        by_cases h0 : 32 ≤ i
        · rw [decide_eq_false (show ¬ i < 128 by omega), Bool.and_false]
        · rw [decide_eq_false h0, Bool.false_and]
      rw [e1, e2]
      refine (ask_no g j 96 _ _ h1 (by omega)).mono ?_
      rintro e w' ⟨rfl, a, b⟩
      exact ⟨rfl, a, ((But.refl (· = g) w).al _).trans b⟩)
  have hw : IntKind.i64.wrap (max i 0 - 32) = j := by rw [hj]; exact IntWalk.i64_in _ (by omega)
  obtain ⟨v, hv⟩ : ∃ v, v = rootV i := ⟨_, rfl⟩
  obtain ⟨b, hb⟩ : ∃ b, b = rootB i := ⟨_, rfl⟩
  rw [← hv, ← hb] at S1 ⊢
  clear h hlt h1 hp0 hv hb hj hi1
  go_enter Try.func87, Try.ntmps87
  go_wp2_with fail
  refine S1.out.mono ?_
  rintro e w1 ⟨rfl, hr, hb⟩
  have H := Lib.hid hr; have U := Lib.hid hb
  clear hr hb
  go_wp2
  go_ret2
  exact ⟨rfl, H.out, U.out⟩
end Go.Proofs.Ytegmmaaapdgocaa
