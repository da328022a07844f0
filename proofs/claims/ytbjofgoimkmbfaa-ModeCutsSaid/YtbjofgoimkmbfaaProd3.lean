/- THE WALKS of package prod, going on: products, squares, products with a limb. -/
import Derived.Test.YtbjofgoimkmbfaaProd2
import Derived.Test.YtbjofgoimkmbfaaLit
import Derived.Test.YtbjofgoimkmbfaaShift
namespace Go.Proofs.Ytbjofgoimkmbfaa
open Go Go.RowKit

theorem isLimbs_k {w : World} {p K n o L cap : Nat} {t : TypeId} (h : w.heap[p]? = some (.cells (kcells K n) t (0, 0))) (hoL : o + L ≤ K) (hc : L ≤ cap) : IsLimbs w (.slice (some ⟨p, o, none⟩) L cap) (n / P2 (64 * o) % P2 (64 * L)) L :=
  ⟨⟨some ⟨p, o, none⟩, cap, rfl, hc, fun _ => ⟨p, o, rfl, lt_of_heap h, fun i hi => by
    rw [cell_row h, kcells_get _ _ _ (by omega), limb_modK _ _ _ hi]
    congr 2
    unfold limb
    rw [Nat.div_div_eq_div_mul, ← P2_mono_mul]⟩⟩, Nat.mod_lt _ (P2_pos _)⟩
theorem since_all (w : World) : Since Try.prog 152 #[] w 0 := by
  intro s w' _ _
  rw [decide_eq_true (Nat.zero_le s)]
  show Calls Try.prog 152 #[.int .i64 (s : Int)] w' _
  go_enter Try.func152, Try.ntmps152
  go_wp2
  go_ret
  exact ⟨rfl, Below.refl _ _⟩
theorem enters_all : Enters Try.prog 152 := fun args w => by simp [go_sem]
theorem whole_all (a b : Nat) (ha : a < M) (hb : b < M) (w : World) :
    Calls Try.prog 151 #[wv a, wv b, .func (.func 152) #[] #[]] w fun e w' => e = .returned (.agg (kcells 17 (a * b))) ∧ Below w.heap.size w w' := by
  have := pwhole_any 152 #[] a b 0 w ha hb enters_all (since_all w)
  rwa [col_all ha hb] at this
theorem M_512 : P2 (64 * 8) = M := M_eq.symm
theorem fits_eq (x : Nat) : (((blen (x / M) : Nat) : Int) == 0) = decide (x < M) := by
  by_cases h : x < M
  · rw [Nat.div_eq_of_lt h, blen_zero, decide_eq_true h]; rfl
  · have h1 : x / M ≠ 0 := by
      have := Nat.div_pos (show M ≤ x by omega) M_pos
      omega
    have := blen_pos h1
    rw [decide_eq_false h]
    simp; omega

theorem ext_block {B : Nat} {w : World} {p : Nat} {o : Obj} (h : w.heap[p]? = some o) (hp : p < B) (x : Ext B w) : x.val.heap[p]? = some o := (x.property.block p hp).trans h

attribute [local go_sem ↓] Go.wp_at_zero Go.wp_at_succ
set_option maxHeartbeats 2000000 in
theorem mul_w (a b : Nat) (ha : a < M) (hb : b < M) (w : World) :
    Calls Try.prog 82 #[wv a, wv b] w fun e w' => e = .returned (.tuple #[wv (a * b % M), .bool (decide (a * b < M))]) ∧ Below w.heap.size w w' := by
  have SW := Lib.hid (fun w' => whole_all a b ha hb w')
  have hlt : a * b < P2 (64 * 17) := Nat.lt_of_lt_of_le (prod_lt ha hb) (P2_le (by omega))
  obtain ⟨p, hp⟩ : ∃ p, p = a * b := ⟨_, rfl⟩
  rw [← hp] at SW hlt ⊢
  have SO : Hid (∀ (w' : World) (g : Nat), w'.heap[g]? = some (.cells (kcells 17 p) 169 (0, 0)) → Calls Try.prog 43 #[.slice (some ⟨g, 0, none⟩) 8 17] w' fun e w'' => e = .returned (wv (p % M)) ∧ Below w'.heap.size w' w'') := Lib.hid fun w' g h => by
    have := of_w _ _ 8 w' (isLimbs_k h (o := 0) (L := 8) (cap := 17) (by omega) (by omega))
    rwa [P2_00, Nat.div_one, M_512, Nat.mod_mod] at this
  have SL : Hid (∀ (w' : World) (g : Nat), w'.heap[g]? = some (.cells (kcells 17 p) 169 (0, 0)) → Calls Try.prog 134 #[.slice (some ⟨g, 8, none⟩) 9 9] w' fun e w'' => e = .returned (.int .i64 (blen (p / M) : Nat)) ∧ Below w'.heap.size w' w'') := Lib.hid fun w' g h => by
    have h1 := isLimbs_k h (o := 8) (L := 9) (cap := 9) (by omega) (by omega)
    have e : p / P2 (64 * 8) % P2 (64 * 9) = p / M := by
      rw [M_512]
      refine Nat.mod_eq_of_lt ?_
      rw [Nat.div_lt_iff_lt_mul M_pos, ← M_512, ← P2_add]
      exact hlt
    rw [e] at h1
    exact (limbLen_any _ _ 9 w' (by omega) h1).mono fun _ _ ⟨h2, h3⟩ => ⟨h2, by rw [h3]; exact Below.refl _ _⟩
  have HF := Lib.hid (fits_eq p)
  obtain ⟨q, hq⟩ : ∃ q, q = p % M := ⟨_, rfl⟩
  obtain ⟨l, hl⟩ : ∃ l, l = blen (p / M) := ⟨_, rfl⟩
  obtain ⟨f, hf⟩ : ∃ f, f = decide (p < M) := ⟨_, rfl⟩
  rw [← hq] at SO ⊢
  rw [← hl] at SL HF
  rw [← hf] at HF ⊢
  clear ha hb hp hlt hq hl hf
  go_enter Try.func82, Try.ntmps82
  go_wp2_with fail
  have Gz : Hid ((((w.alloc (.cells (wcells a) 31)).alloc (.cells (wcells b) 31)).alloc (.cells (wcells 0) 31)).heap[w.heap.size + 2]? = some (.cells (wcells 0) 31 (0, 0))) := Lib.hid (by rw [alloc_new' _ (by simp)])
  have HB := Lib.hid (below_al (below_al (below_al (Below.refl w.heap.size w) (.cells (wcells a) 31)) (.cells (wcells b) 31)) (.cells (wcells 0) 31))
  refine (SW.out _).mono ?_
  rintro e w1 ⟨rfl, hb⟩
  replace HB := Lib.hid (below_then HB.out hb)
  replace Gz := Lib.hid ((hb.block _ (lt_of_heap Gz.out)).trans Gz.out)
  clear hb
  have HZ := Lib.hid (lt_of_heap Gz.out)
  replace Gz := Lib.hid (keepAl (o' := .cells (kcells 17 p) 169) Gz.out)
  have Gp := Lib.hid (alloc_new (w1) (.cells (kcells 17 p) 169))
  replace HB := Lib.hid (below_al HB.out (.cells (kcells 17 p) 169))
  go_upto_region 2 with fail
  obtain ⟨w2, hw⟩ : ∃ wx, wx = (w1).alloc (.cells (kcells 17 p) 169) := ⟨_, rfl⟩
  rw [← hw] at Gz Gp HB ⊢
  clear hw
  have hfit := HF.out
  refine wp_region_store [⟨w.heap.size + 2, 31, .tmp 11⟩] (by kernel_rfl) (by kernel_rfl) (by kernel_rfl) rfl (List.pairwise_singleton _ _) ?_ ?_
  · intro r hr
    simp only [List.mem_cons, List.not_mem_nil, or_false] at hr
    subst hr
    exact ⟨_, Gz.out, by kernel_rfl⟩
  have xGp := extR_row (B := w2.heap.size) (R := [⟨w.heap.size + 2, 31, .tmp 11⟩]) Gp.out (lt_of_heap Gp.out) (by intro r hr; simp only [List.mem_cons, List.not_mem_nil, or_false] at hr; subst hr <;> dsimp only <;> (have := HZ.out; omega))
  repeat (refine wpCalm_step (fun K hK => ?_); go_simp; first | (refine hK _ ?_; clear hK K) | (apply Exists.intro; refine ⟨fun _ => ?_, hK _ ?_⟩; (first | exact SO.out _ _ (extR_block _ Gp.out (lt_of_heap Gp.out) (by simp only [List.mem_singleton, forall_eq]; have := HZ.out; omega)) | exact SL.out _ _ (extR_block _ Gp.out (lt_of_heap Gp.out) (by simp only [List.mem_singleton, forall_eq]; have := HZ.out; omega))); clear hK K))
  refine wpCalm_nil ⟨?_, fun x hx => ?_⟩
  · intro r hr
    simp only [List.mem_cons, List.not_mem_nil, or_false] at hr
    subst hr <;> exact fits_wv (by kernel_rfl) _
  replace Gz : Hid (x.val.heap[w.heap.size + 2]? = some (.cells (wcells (q)) 31 (0, 0))) := Lib.hid (hx ⟨w.heap.size + 2, 31, .tmp 11⟩ (by simp))
  replace Gp := Lib.hid (extR_block x Gp.out (lt_of_heap Gp.out) (by intro r hr; simp only [List.mem_cons, List.not_mem_nil, or_false] at hr; subst hr <;> dsimp only <;> (have := HZ.out; omega)))
  replace HB := Lib.hid (extR_below x HB.out HB.out.size (by intro r hr; simp only [List.mem_cons, List.not_mem_nil, or_false] at hr; subst hr <;> dsimp only <;> (have := HZ.out; omega)))
  clear hx xGp
  obtain ⟨w3, hw⟩ : ∃ wx, wx = x.val := ⟨_, rfl⟩
  rw [← hw] at Gz Gp HB ⊢
  clear hw x
  have c1 := cell_row Gz.out
  go_wp2
  exact bodyPost_ret (v := .tuple #[wv q, .bool f]) (by simp [results, Try.results82, go_sem, c1]) rfl ⟨rfl, HB.out⟩
end Go.Proofs.Ytbjofgoimkmbfaa
