/- The walk of NumComes. -/
import Derived.Test.YtchbejkmnbbakaaNum
import Derived.Test.YtchbejkmnbbakaaOpen
namespace Go.Proofs.Ytchbejkmnbbakaa
open Go.RowKit

set_option maxRecDepth 100000 in
set_option maxHeartbeats 400000 in
theorem shown01 (w : World) : Calls Try.prog 24 #[] w fun e w' => e = .returned (.bool true) ∧ w = w' := by
  go_enter Try.func24, Try.ntmps24
  go_wp2_with (first
    | (go_at_call 36; refine (sat_any _ _ _ (by omega) (by omega)).mono ?_; rintro e w' ⟨rfl, rfl⟩)
    | (go_at_call 25; refine (toward_any _ _ _ _ (by omega) (by omega) (by omega) (by omega) (by omega) (by omega)).mono ?_; rintro e w' ⟨rfl, rfl⟩)
    | (go_at_call 26; refine (has_any _ _ _ (by omega) (by omega)).mono ?_; rintro e w' ⟨rfl, rfl⟩))
  go_ret
  exact ⟨rfl, rfl⟩

theorem tmod_bd (a : Int) : -1000 < a.tmod 1000 ∧ a.tmod 1000 < 1000 := by
  have h1 := Int.tmod_lt_of_pos a (b := 1000) (by omega)
  have h2 := Int.lt_tmod_of_pos a (b := 1000) (by omega)
  omega

theorem toward_up (n t k : Int) (hk : 1 ≤ k) (h : n < t) : n < toward n t k ∧ toward n t k ≤ t ∧ toward n t k - n ≤ k := by
  unfold toward; repeat' split
  all_goals omega
theorem toward_down (n t k : Int) (hk : 1 ≤ k) (h : t < n) : toward n t k < n ∧ t ≤ toward n t k ∧ n - toward n t k ≤ k := by
  unfold toward; repeat' split
  all_goals omega
theorem toward_self (n k : Int) : toward n n k = n := by
  unfold toward; repeat' split
  all_goals omega
theorem toward_none (n t k : Int) (hk : k < 1) : toward n t k = n := by
  unfold toward; simp [hk]

set_option maxRecDepth 100000 in
set_option maxHeartbeats 400000 in
theorem walk_NumComes (v0 v1 v2 : Value) (w : World) (q0 : ∃ n : Int, v0 = .int .i64 n ∧ -9223372036854775808 ≤ n ∧ n ≤ 9223372036854775807)
    (q1 : ∃ n : Int, v1 = .int .i64 n ∧ -9223372036854775808 ≤ n ∧ n ≤ 9223372036854775807) (q2 : ∃ n : Int, v2 = .int .u8 n ∧ 0 ≤ n ∧ n ≤ 255) :
    Calls Try.prog 8 #[v0, v1, v2] w fun e w' => e = .returned (.bool true) ∧ Below w.heap.size w w' := by
  obtain ⟨now, rfl, h1, h2⟩ := q0
  obtain ⟨to_, rfl, h3, h4⟩ := q1
  obtain ⟨by_, rfl, h5, h6⟩ := q2
  have b1 := tmod_bd now
  have b2 := tmod_bd to_
  have b3 : 1 ≤ 1 + by_ % 64 ∧ 1 + by_ % 64 ≤ 64 := by omega
  obtain ⟨n0, hn0⟩ : ∃ n0, now.tmod 1000 = n0 := ⟨_, rfl⟩
  obtain ⟨t0, ht0⟩ : ∃ t0, to_.tmod 1000 = t0 := ⟨_, rfl⟩
  obtain ⟨k, hk⟩ : ∃ k, 1 + by_ % 64 = k := ⟨_, rfl⟩
  rw [hn0] at b1; rw [ht0] at b2; rw [hk] at b3
  obtain ⟨b11, b12⟩ := b1
  obtain ⟨b21, b22⟩ := b2
  obtain ⟨b31, b32⟩ := b3
  have b4 := toward_none now to_ (-k) (by omega)
  go_enter Try.func8, Try.ntmps8
  go_wp2_with (go_at_call 24; refine (shown01 _).mono ?_; rintro e w' ⟨rfl, rfl⟩)
  clear hn0 ht0 hk
  go_loop [8, 11] (fun x s => ∃ n s' : Int, x = .int .i64 n ∧ s = .int .i64 s' ∧ 0 ≤ s' ∧ s' ≤ 2000 ∧ -1000 < n ∧ n < 1000 ∧ (n = t0 ∨ (t0 - n + s' ≤ 1998 ∧ n - t0 + s' ≤ 1998))) (fun x _ => (t0 - intOf x).natAbs)
  case atStart => exact ⟨n0, 0, rfl, rfl, by omega, by omega, by omega, by omega, .inr ⟨by omega, by omega⟩⟩
  case round =>
    obtain ⟨n, s', rfl, rfl, hs1, hs2, hn1, hn2, hd⟩ := hrel
    by_cases c1 : n < t0
    · obtain ⟨f1, f2, f3⟩ := toward_up n t0 k (by omega) c1
      have f4 : n - toward n t0 k ≤ k := by omega
      have f5 : (n != t0) = true := by simp; omega
      have f6 : s' < 2100 := by omega
      go_wp2_with (go_at_call 25; refine (toward_any _ _ _ _ (by omega) (by omega) (by omega) (by omega) (by omega) (by omega)).mono ?_; rintro e w' ⟨rfl, rfl⟩)
      go_round
      case rel => exact ⟨_, _, rfl, rfl, by omega, by omega, by omega, by omega, by omega⟩
      case measure => simp [intOf]; omega
    · by_cases c2 : t0 < n
      · obtain ⟨f1, f2, f3⟩ := toward_down n t0 k (by omega) c2
        have f4 : toward n t0 k - n ≤ k := by omega
        have f5 : (n != t0) = true := by simp; omega
        have f6 : s' < 2100 := by omega
        go_wp2_with (go_at_call 25; refine (toward_any _ _ _ _ (by omega) (by omega) (by omega) (by omega) (by omega) (by omega)).mono ?_; rintro e w' ⟨rfl, rfl⟩)
        go_round
        case rel => exact ⟨_, _, rfl, rfl, by omega, by omega, by omega, by omega, by omega⟩
        case measure => simp [intOf]; omega
      · obtain rfl : n = t0 := by omega
        have e1 := toward_self n k
        have e2 := toward_none n n 0 (by omega)
        go_wp2_with (go_at_call 25; refine (toward_any _ _ _ _ (by omega) (by omega) (by omega) (by omega) (by omega) (by omega)).mono ?_; rintro e w' ⟨rfl, rfl⟩)
        go_ret
        exact ⟨ret_bool (by simp), Below.refl _ _⟩
end Go.Proofs.Ytchbejkmnbbakaa
