/- THE WALKS of the reference's powers, signs and shifts with a sign. -/
import Derived.Test.YtbjofgoimkmbfaaRefW2
namespace Go.Proofs.Ytbjofgoimkmbfaa
open Go Go.RowKit

theorem one_small : (1 : Nat) < BIG := small_of (e := 1) (by rw [P2_eq]; decide) (by decide)
theorem P2_small {n : Nat} (h : n ≤ 900000) : P2 n < BIG := small_of (e := n + 1) (P2_lt (by omega)) (by omega)

set_option maxHeartbeats 400000 in
theorem power_any (n : Nat) (hn : n ≤ 900000) (w : World) : Calls Try.prog 47 #[.int .i64 n] w (GivesBig (P2 n) w) := by
  have S1 := Lib.hid (fun w' => small_any 1 w' (by omega))
  have S2 : Hid (∀ (v : Value) (w' : World), IsBig w' v 1 → Calls Try.prog 61 #[v, .int .i64 n] w' (GivesBig (P2 n) w')) := Lib.hid fun v w' h => by
    have := rshl_any v 1 n w' one_small hn h
    rwa [Nat.one_mul] at this
  go_enter Try.func47, Try.ntmps47
  go_wp2_with fail
  refine (S1.out _).mono ?_
  rintro e w1 ⟨r1, rfl, hr, hb⟩
  have HB1 := Lib.hid (below_then (Below.refl w.heap.size w) hb)
  have Rr1 := Lib.hid hr
  clear hr hb
  go_wp2_with fail
  refine (S2.out _ _ Rr1.out).mono ?_
  rintro e w2 ⟨r2, rfl, hr, hb⟩
  have HB2 := Lib.hid (below_then HB1.out hb)
  have Rr2 := Lib.hid hr
  clear hr hb
  go_wp2_with fail
  go_ret
  exact ⟨r2, rfl, Rr2.out, HB2.out⟩

set_option maxHeartbeats 400000 in
theorem whole_any (w : World) : Calls Try.prog 50 #[] w (GivesBig M w) := by
  have S1 : Hid (∀ w' : World, Calls Try.prog 47 #[.int .i64 512] w' (GivesBig M w')) := Lib.hid fun w' => by
    have := power_any 512 (by omega) w'
    rwa [← M_eq] at this
  go_enter Try.func50, Try.ntmps50
  go_wp2_with fail
  refine (S1.out _).mono ?_
  rintro e w1 ⟨r1, rfl, hr, hb⟩
  have HB1 := Lib.hid (below_then (Below.refl w.heap.size w) hb)
  have Rr1 := Lib.hid hr
  clear hr hb
  go_wp2_with fail
  go_ret
  exact ⟨r1, rfl, Rr1.out, HB1.out⟩

theorem cmp_ge (a b : Nat) : decide (cmpN a b ≥ 0) = decide (b ≤ a) := by
  unfold cmpN
  split
  · simp; omega
  · split <;> simp <;> omega

set_option maxHeartbeats 400000 in
theorem rminus_any (a : Nat) (ha : a < M) (w : World) : Calls Try.prog 55 #[wv a] w fun e w' => e = .returned (.bool (decide (P2 511 ≤ a))) ∧ Below w.heap.size w w' := by
  have S1 := Lib.hid (fun w' => big_any a ha w')
  have S2 := Lib.hid (fun w' => power_any 511 (by omega) w')
  have S3 := Lib.hid (fun (v1 v2 : Value) (w' : World) h1 h2 => cmp_any v1 v2 a (P2 511) w' (small_M ha) (P2_small (by omega)) h1 h2)
  clear ha
  go_enter Try.func55, Try.ntmps55
  go_wp2_with fail
  refine (S1.out _).mono ?_
  rintro e w1 ⟨r1, rfl, hr, hb⟩
  have HB1 := Lib.hid (below_then (below_al (Below.refl w.heap.size w) _) hb)
  have Rr1 := Lib.hid hr
  clear hr hb
  go_wp2_with fail
  refine (S2.out _).mono ?_
  rintro e w2 ⟨r2, rfl, hr, hb⟩
  have HB2 := Lib.hid (below_then HB1.out hb)
  have Rr2 := Lib.hid hr
  have Rr1 := Lib.hid (Rr1.out.below hb)
  clear hr hb
  go_wp2_with fail
  refine (S3.out _ _ _ Rr1.out Rr2.out).mono ?_
  rintro e w3 ⟨rfl, hb⟩
  have HB3 := Lib.hid (below_then HB2.out hb)
  clear hb
  go_wp2_with fail
  go_ret
  exact ⟨ret_bool (cmp_ge _ _), HB3.out⟩
end Go.Proofs.Ytbjofgoimkmbfaa
