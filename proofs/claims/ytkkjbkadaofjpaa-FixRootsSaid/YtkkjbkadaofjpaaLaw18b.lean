/- THE WALKS of the laws on fix, going on: a guess that is bent; quotients by a guess. -/
import Derived.Test.YtkkjbkadaofjpaaFixd
import Derived.Test.YtkkjbkadaofjpaaGuess
namespace Go.Proofs.Ytkkjbkadaofjpaa
open Go Go.RowKit

/-- A number, by some more, or less; not below 0. -/
def bentN (a : Nat) (b : Int) : Nat := if 0 ≤ b then (a + b.toNat) % M else if (-b).toNat ≤ a then a - (-b).toNat else a
theorem bentN_lt {a : Nat} (ha : a < M) (b : Int) : bentN a b < M := by
  unfold bentN
  split
  · exact Nat.mod_lt _ M_pos
  · split <;> omega
attribute [local go_sem ↓] Go.wp_at_zero Go.wp_at_succ
set_option maxHeartbeats 2000000 in
theorem bent_w (a : Nat) (b : Int) (ha : a < M) (h1 : -128 ≤ b) (h2 : b ≤ 127) (w : World) :
    Calls Try.prog 47 #[wv a, .int .i8 b] w fun e w' => e = .returned (wv (bentN a b)) ∧ Below w.heap.size w w' := by
  have haB := small_M ha
  have hMB : M + 200 < BIG := by
    have h513 : P2 513 < BIG := P2_small (by omega)
    have e1 : P2 513 = M * 2 := by rw [M_eq]; exact P2_twice 512
    have e2 : 200 < M := lit_ltM _ (by decide)
    omega
  have S1 := Lib.hid (fun w' => big_any a ha w')
  by_cases h0 : 0 ≤ b
  · unfold bentN
    rw [if_pos h0]
    obtain ⟨k, rfl⟩ := Int.eq_ofNat_of_zero_le h0
    rw [Int.toNat_natCast]
    have S2 := Lib.hid (fun w' => small_any k w' (by omega))
    have S3 := Lib.hid (fun v v2 w' h h' => add_any v v2 a k w' haB (by omega) h h')
    have SW := Lib.hid (fun v w' h => wide_any v (a + k) w' (by omega) h)
    obtain ⟨y, hy⟩ : ∃ y, y = (a + k) % M := ⟨_, rfl⟩
    obtain ⟨f, hf⟩ : ∃ y, y = decide (M ≤ a + k) := ⟨_, rfl⟩
    rw [← hy, ← hf] at SW
    rw [← hy]
    obtain ⟨s, hs⟩ : ∃ y, y = a + k := ⟨_, rfl⟩
    rw [← hs] at S3 SW
    have hw : IntKind.u64.wrap (k : Int) = (k : Int) := by rw [u64wrap]; omega
    clear ha haB hMB h1 h2 hy hf hs
    go_enter Try.func47, Try.ntmps47
    have HB := Lib.hid (Below.refl w.heap.size w)
    have Ga := Lib.hid (alloc_new (w) (.cells (wcells a) 31))
    replace HB := Lib.hid (below_al HB.out (.cells (wcells a) 31))
    replace Ga := Lib.hid (keepAl (o' := .cells (wcells 0) 31) Ga.out)
    have Go := Lib.hid (alloc_new' (w := (w).alloc (.cells (wcells a) 31)) (n := w.heap.size + 1) (.cells (wcells 0) 31) (by simp))
    replace HB := Lib.hid (below_al HB.out (.cells (wcells 0) 31))
    have cGa := cell_row Ga.out
    have cGo := cell_row Go.out
    go_wp2_with fail
    refine (S1.out _).mono ?_
    rintro e w1 ⟨ra, rfl, hr, hb⟩
    clear cGa cGo
    replace HB := Lib.hid (below_then HB.out hb)
    replace Ga := Lib.hid ((hb.block _ (lt_of_heap Ga.out)).trans Ga.out)
    replace Go := Lib.hid ((hb.block _ (lt_of_heap Go.out)).trans Go.out)
    have Ra := Lib.hid hr
    clear hr hb
    have cGo := cell_row Go.out
    go_wp2_with fail
    refine (S2.out _).mono ?_
    rintro e w2 ⟨rd, rfl, hr, hb⟩
    clear cGo
    replace HB := Lib.hid (below_then HB.out hb)
    replace Go := Lib.hid ((hb.block _ (lt_of_heap Go.out)).trans Go.out)
    replace Ra := Lib.hid (Ra.out.below hb)
    have Rd := Lib.hid hr
    clear hr hb
    have cGo := cell_row Go.out
    go_wp2_with fail
    refine (S3.out _ _ _ Ra.out Rd.out).mono ?_
    rintro e w3 ⟨rs, rfl, hr, hb⟩
    clear cGo
    replace HB := Lib.hid (below_then HB.out hb)
    replace Go := Lib.hid ((hb.block _ (lt_of_heap Go.out)).trans Go.out)
    replace Ra := Lib.hid (Ra.out.below hb)
    replace Rd := Lib.hid (Rd.out.below hb)
    have Rs := Lib.hid hr
    clear hr hb
    have cGo := cell_row Go.out
    go_wp2_with fail
    refine (SW.out _ _ Rs.out).mono ?_
    rintro e w4 ⟨rfl, hb⟩
    clear cGo
    replace HB := Lib.hid (below_then HB.out hb)
    replace Go := Lib.hid ((hb.block _ (lt_of_heap Go.out)).trans Go.out)
    replace Ra := Lib.hid (Ra.out.below hb)
    replace Rd := Lib.hid (Rd.out.below hb)
    replace Rs := Lib.hid (Rs.out.below hb)
    clear hb
    have HZ := Lib.hid (lt_of_heap Go.out)
    replace Go := Lib.hid (keepAl (o' := .cells (wcells y) 31) Go.out)
    have Gp := Lib.hid (alloc_new (w4) (.cells (wcells y) 31))
    replace HB := Lib.hid (below_al HB.out (.cells (wcells y) 31))
    have cp := cell_row Gp.out
    have sto := st_row (P := Try.prog) Go.out rfl (y)
    replace Go := Lib.hid (setRow_heap ((w4).alloc (.cells (wcells y) 31)) (w.heap.size + 1) _ (wcells (y)) _ _ Go.out)
    replace HB := Lib.hid (below_setRow' HB.out (show _ ≤ w.heap.size + 1 by (omega)) (wcells (y)))
    have cGo := cell_row Go.out
    go_wp2
    exact bodyPost_ret (v := wv y) (res_c Try.results47 _ _ _ _ _ _ rfl Go.out aggW) rfl ⟨rfl, HB.out⟩
  · unfold bentN
    rw [if_neg h0]
    obtain ⟨k, hk⟩ : ∃ k, k = (-b).toNat := ⟨_, rfl⟩
    rw [← hk]
    have S2 := Lib.hid (fun w' => small_any k w' (by omega))
    have SC := Lib.hid (fun v v2 w' h h' => cmp_any v v2 a k w' haB (by omega) h h')
    have hw0 : IntKind.i64.wrap b = b := IntWalk.i64_in _ (by omega)
    have hw1 : IntKind.i64.wrap (-b) = (k : Int) := by rw [IntWalk.i64_in _ (by omega)]; omega
    have hw : IntKind.u64.wrap (k : Int) = (k : Int) := by rw [u64wrap]; omega
    by_cases hle : k ≤ a
    · rw [if_pos hle]
      have hc : 0 ≤ cmpN a k := by unfold cmpN; split <;> (try split) <;> omega
      obtain ⟨c, hce⟩ : ∃ c, c = cmpN a k := ⟨_, rfl⟩
      rw [← hce] at SC hc
      have S3 := Lib.hid (fun v v2 w' h h' => sub_any v v2 k (a - k) w' (by omega) h h')
      rw [Nat.add_sub_cancel' hle] at S3
      have SW := Lib.hid (fun v w' h => wide_any v (a - k) w' (by omega) h)
      rw [Nat.mod_eq_of_lt (show a - k < M by omega)] at SW
      obtain ⟨y, hy⟩ : ∃ y, y = a - k := ⟨_, rfl⟩
      obtain ⟨f, hf⟩ : ∃ y, y = decide (M ≤ a - k) := ⟨_, rfl⟩
      rw [← hf] at SW
      rw [← hy] at S3 SW ⊢
      clear ha haB hMB h1 h2 hy hf hce hle hk
      go_enter Try.func47, Try.ntmps47
      have HB := Lib.hid (Below.refl w.heap.size w)
      have Ga := Lib.hid (alloc_new (w) (.cells (wcells a) 31))
      replace HB := Lib.hid (below_al HB.out (.cells (wcells a) 31))
      replace Ga := Lib.hid (keepAl (o' := .cells (wcells 0) 31) Ga.out)
      have Go := Lib.hid (alloc_new' (w := (w).alloc (.cells (wcells a) 31)) (n := w.heap.size + 1) (.cells (wcells 0) 31) (by simp))
      replace HB := Lib.hid (below_al HB.out (.cells (wcells 0) 31))
      have cGa := cell_row Ga.out
      have cGo := cell_row Go.out
      go_wp2_with fail
      refine (S1.out _).mono ?_
      rintro e w5 ⟨ra, rfl, hr, hb⟩
      clear cGa cGo
      replace HB := Lib.hid (below_then HB.out hb)
      replace Ga := Lib.hid ((hb.block _ (lt_of_heap Ga.out)).trans Ga.out)
      replace Go := Lib.hid ((hb.block _ (lt_of_heap Go.out)).trans Go.out)
      have Ra := Lib.hid hr
      clear hr hb
      have cGo := cell_row Go.out
      go_wp2_with fail
      refine (S2.out _).mono ?_
      rintro e w6 ⟨rd, rfl, hr, hb⟩
      clear cGo
      replace HB := Lib.hid (below_then HB.out hb)
      replace Go := Lib.hid ((hb.block _ (lt_of_heap Go.out)).trans Go.out)
      replace Ra := Lib.hid (Ra.out.below hb)
      have Rd := Lib.hid hr
      clear hr hb
      have cGo := cell_row Go.out
      go_wp2_with fail
      refine (SC.out _ _ _ Ra.out Rd.out).mono ?_
      rintro e w7 ⟨rfl, hb⟩
      clear cGo
      replace HB := Lib.hid (below_then HB.out hb)
      replace Go := Lib.hid ((hb.block _ (lt_of_heap Go.out)).trans Go.out)
      replace Ra := Lib.hid (Ra.out.below hb)
      replace Rd := Lib.hid (Rd.out.below hb)
      clear hb
      have cGo := cell_row Go.out
      go_wp2_with fail
      refine (S3.out _ _ _ Ra.out Rd.out).mono ?_
      rintro e w8 ⟨rs, rfl, hr, hb⟩
      clear cGo
      replace HB := Lib.hid (below_then HB.out hb)
      replace Go := Lib.hid ((hb.block _ (lt_of_heap Go.out)).trans Go.out)
      replace Ra := Lib.hid (Ra.out.below hb)
      replace Rd := Lib.hid (Rd.out.below hb)
      have Rs := Lib.hid hr
      clear hr hb
      have cGo := cell_row Go.out
      go_wp2_with fail
      refine (SW.out _ _ Rs.out).mono ?_
      rintro e w9 ⟨rfl, hb⟩
      clear cGo
      replace HB := Lib.hid (below_then HB.out hb)
      replace Go := Lib.hid ((hb.block _ (lt_of_heap Go.out)).trans Go.out)
      replace Ra := Lib.hid (Ra.out.below hb)
      replace Rd := Lib.hid (Rd.out.below hb)
      replace Rs := Lib.hid (Rs.out.below hb)
      clear hb
      have HZ := Lib.hid (lt_of_heap Go.out)
      replace Go := Lib.hid (keepAl (o' := .cells (wcells y) 31) Go.out)
      have Gp := Lib.hid (alloc_new (w9) (.cells (wcells y) 31))
      replace HB := Lib.hid (below_al HB.out (.cells (wcells y) 31))
      have cp := cell_row Gp.out
      have sto := st_row (P := Try.prog) Go.out rfl (y)
      replace Go := Lib.hid (setRow_heap ((w9).alloc (.cells (wcells y) 31)) (w.heap.size + 1) _ (wcells (y)) _ _ Go.out)
      replace HB := Lib.hid (below_setRow' HB.out (show _ ≤ w.heap.size + 1 by (omega)) (wcells (y)))
      have cGo := cell_row Go.out
      go_wp2
      exact bodyPost_ret (v := wv y) (res_c Try.results47 _ _ _ _ _ _ rfl Go.out aggW) rfl ⟨rfl, HB.out⟩
    · rw [if_neg hle]
      have hc : ¬ 0 ≤ cmpN a k := by unfold cmpN; rw [if_pos (by omega)]; omega
      obtain ⟨c, hce⟩ : ∃ c, c = cmpN a k := ⟨_, rfl⟩
      rw [← hce] at SC hc
      have SW := Lib.hid (fun v w' h => wide_any v a w' haB h)
      rw [Nat.mod_eq_of_lt ha] at SW
      obtain ⟨f, hf⟩ : ∃ y, y = decide (M ≤ a) := ⟨_, rfl⟩
      rw [← hf] at SW
      clear ha haB hMB h1 h2 hf hce hle hk
      go_enter Try.func47, Try.ntmps47
      have HB := Lib.hid (Below.refl w.heap.size w)
      have Ga := Lib.hid (alloc_new (w) (.cells (wcells a) 31))
      replace HB := Lib.hid (below_al HB.out (.cells (wcells a) 31))
      replace Ga := Lib.hid (keepAl (o' := .cells (wcells 0) 31) Ga.out)
      have Go := Lib.hid (alloc_new' (w := (w).alloc (.cells (wcells a) 31)) (n := w.heap.size + 1) (.cells (wcells 0) 31) (by simp))
      replace HB := Lib.hid (below_al HB.out (.cells (wcells 0) 31))
      have cGa := cell_row Ga.out
      have cGo := cell_row Go.out
      go_wp2_with fail
      refine (S1.out _).mono ?_
      rintro e w10 ⟨ra, rfl, hr, hb⟩
      clear cGa cGo
      replace HB := Lib.hid (below_then HB.out hb)
      replace Ga := Lib.hid ((hb.block _ (lt_of_heap Ga.out)).trans Ga.out)
      replace Go := Lib.hid ((hb.block _ (lt_of_heap Go.out)).trans Go.out)
      have Ra := Lib.hid hr
      clear hr hb
      have cGo := cell_row Go.out
      go_wp2_with fail
      refine (S2.out _).mono ?_
      rintro e w11 ⟨rd, rfl, hr, hb⟩
      clear cGo
      replace HB := Lib.hid (below_then HB.out hb)
      replace Go := Lib.hid ((hb.block _ (lt_of_heap Go.out)).trans Go.out)
      replace Ra := Lib.hid (Ra.out.below hb)
      have Rd := Lib.hid hr
      clear hr hb
      have cGo := cell_row Go.out
      go_wp2_with fail
      refine (SC.out _ _ _ Ra.out Rd.out).mono ?_
      rintro e w12 ⟨rfl, hb⟩
      clear cGo
      replace HB := Lib.hid (below_then HB.out hb)
      replace Go := Lib.hid ((hb.block _ (lt_of_heap Go.out)).trans Go.out)
      replace Ra := Lib.hid (Ra.out.below hb)
      replace Rd := Lib.hid (Rd.out.below hb)
      clear hb
      have cGo := cell_row Go.out
      go_wp2_with fail
      refine (SW.out _ _ Ra.out).mono ?_
      rintro e w13 ⟨rfl, hb⟩
      clear cGo
      replace HB := Lib.hid (below_then HB.out hb)
      replace Go := Lib.hid ((hb.block _ (lt_of_heap Go.out)).trans Go.out)
      replace Ra := Lib.hid (Ra.out.below hb)
      replace Rd := Lib.hid (Rd.out.below hb)
      clear hb
      have HZ := Lib.hid (lt_of_heap Go.out)
      replace Go := Lib.hid (keepAl (o' := .cells (wcells a) 31) Go.out)
      have Gp := Lib.hid (alloc_new (w13) (.cells (wcells a) 31))
      replace HB := Lib.hid (below_al HB.out (.cells (wcells a) 31))
      have cp := cell_row Gp.out
      have sto := st_row (P := Try.prog) Go.out rfl (a)
      replace Go := Lib.hid (setRow_heap ((w13).alloc (.cells (wcells a) 31)) (w.heap.size + 1) _ (wcells (a)) _ _ Go.out)
      replace HB := Lib.hid (below_setRow' HB.out (show _ ≤ w.heap.size + 1 by (omega)) (wcells (a)))
      have cGo := cell_row Go.out
      go_wp2
      exact bodyPost_ret (v := wv a) (res_c Try.results47 _ _ _ _ _ _ rfl Go.out aggW) rfl ⟨rfl, HB.out⟩

theorem away_lt {a b : Nat} (ha : a < BIG) (hb : b < BIG) : (a - b) + (b - a) < BIG := by omega
end Go.Proofs.Ytkkjbkadaofjpaa
