/- The walk of NumBounds. -/
import Derived.Test.YtcgaodencjcgnaaShown01
import Derived.Test.YtcgaodencjcgnaaOpen
namespace Go.Proofs.Ytcgaodencjcgnaa
open Go.RowKit

theorem clamp_low (n low high : Int) (h : n < low) : clamp n low high = low := by unfold clamp; rw [if_pos h]
theorem clamp_high (n low high : Int) (h : low ≤ high) (h2 : high < n) : clamp n low high = high := by unfold clamp; rw [if_neg (by omega), if_pos h2]
theorem clamp_mid (n low high : Int) (h : low ≤ n) (h2 : n ≤ high) : clamp n low high = n := by unfold clamp; rw [if_neg (by omega), if_neg (by omega)]
theorem sat_less (n most : Int) (h : n < most) : sat n most = n + 1 := by unfold sat; rw [if_pos h]
theorem sat_most (n most : Int) (h : most ≤ n) : sat n most = most := by unfold sat; rw [if_neg (by omega)]


set_option maxRecDepth 100000 in
set_option maxHeartbeats 1600000 in
theorem nb_low (n a b low high : Int) (w : World) (hlow : (if b < a then b else a) = low) (hhigh : (if a < b then b else a) = high) (h1 : -9223372036854775808 ≤ n) (h2 : n ≤ 9223372036854775807) (h3 : -9223372036854775808 ≤ low) (h4 : low ≤ 9223372036854775807) (h5 : -9223372036854775808 ≤ high) (h6 : high ≤ 9223372036854775807) (g : low ≤ high) (k : n < low) :
    Calls Try.prog 3 #[.int .i64 n, .int .i64 a, .int .i64 b] w fun e w' => e = .returned (.bool true) ∧ Below w.heap.size w w' := by
  have Y2 := Lib.hid (sat_most high high (by omega))
  have k2 : n < high := by omega
  have X1 := Lib.hid (clamp_low n low high k)
  have X2 := Lib.hid (clamp_mid low low high (by omega) (by omega))
  have Y1 := Lib.hid (sat_less n high (by omega))
  go_enter Try.func3, Try.ntmps3
  go_wp2_with fail
  refine (shown01 _).mono ?_
  rintro e w' ⟨rfl, rfl⟩
  go_wp2_with fail
  refine (clamp_any _ _ _ _).mono ?_
  rintro e w' ⟨rfl, rfl⟩
  rw [X1.out]
  go_wp2_with fail
  refine (sat_any _ _ _ (by omega) (by omega)).mono ?_
  rintro e w' ⟨rfl, rfl⟩
  rw [Y1.out]
  go_wp2_with fail
  refine (clamp_any _ _ _ _).mono ?_
  rintro e w' ⟨rfl, rfl⟩
  rw [X2.out]
  go_wp2_with fail
  refine (sat_any _ _ _ (by omega) (by omega)).mono ?_
  rintro e w' ⟨rfl, rfl⟩
  rw [Y2.out]
  go_wp2
  all_goals (go_ret; exact ⟨ret_bool (by first | rfl | (simp; omega)), Below.refl _ _⟩)

set_option maxRecDepth 100000 in
set_option maxHeartbeats 1600000 in
theorem nb_high (n a b low high : Int) (w : World) (hlow : (if b < a then b else a) = low) (hhigh : (if a < b then b else a) = high) (h1 : -9223372036854775808 ≤ n) (h2 : n ≤ 9223372036854775807) (h3 : -9223372036854775808 ≤ low) (h4 : low ≤ 9223372036854775807) (h5 : -9223372036854775808 ≤ high) (h6 : high ≤ 9223372036854775807) (g : low ≤ high) (k : high < n) :
    Calls Try.prog 3 #[.int .i64 n, .int .i64 a, .int .i64 b] w fun e w' => e = .returned (.bool true) ∧ Below w.heap.size w w' := by
  have Y2 := Lib.hid (sat_most high high (by omega))
  have X1 := Lib.hid (clamp_high n low high g k)
  have X2 := Lib.hid (clamp_mid high low high (by omega) (by omega))
  have Y1 := Lib.hid (sat_most n high (by omega))
  go_enter Try.func3, Try.ntmps3
  go_wp2_with fail
  refine (shown01 _).mono ?_
  rintro e w' ⟨rfl, rfl⟩
  go_wp2_with fail
  refine (clamp_any _ _ _ _).mono ?_
  rintro e w' ⟨rfl, rfl⟩
  rw [X1.out]
  go_wp2_with fail
  refine (sat_any _ _ _ (by omega) (by omega)).mono ?_
  rintro e w' ⟨rfl, rfl⟩
  rw [Y1.out]
  go_wp2_with fail
  refine (clamp_any _ _ _ _).mono ?_
  rintro e w' ⟨rfl, rfl⟩
  rw [X2.out]
  go_wp2_with fail
  refine (sat_any _ _ _ (by omega) (by omega)).mono ?_
  rintro e w' ⟨rfl, rfl⟩
  rw [Y2.out]
  go_wp2
  all_goals (go_ret; exact ⟨ret_bool (by first | rfl | (simp; omega)), Below.refl _ _⟩)

set_option maxRecDepth 100000 in
set_option maxHeartbeats 1600000 in
theorem nb_mid (n a b low high : Int) (w : World) (hlow : (if b < a then b else a) = low) (hhigh : (if a < b then b else a) = high) (h1 : -9223372036854775808 ≤ n) (h2 : n ≤ 9223372036854775807) (h3 : -9223372036854775808 ≤ low) (h4 : low ≤ 9223372036854775807) (h5 : -9223372036854775808 ≤ high) (h6 : high ≤ 9223372036854775807) (g : low ≤ high) (k : low ≤ n) (k2 : n < high) :
    Calls Try.prog 3 #[.int .i64 n, .int .i64 a, .int .i64 b] w fun e w' => e = .returned (.bool true) ∧ Below w.heap.size w w' := by
  have Y2 := Lib.hid (sat_most high high (by omega))
  have X1 := Lib.hid (clamp_mid n low high (by omega) (by omega))
  have X2 := X1
  have Y1 := Lib.hid (sat_less n high (by omega))
  go_enter Try.func3, Try.ntmps3
  go_wp2_with fail
  refine (shown01 _).mono ?_
  rintro e w' ⟨rfl, rfl⟩
  go_wp2_with fail
  refine (clamp_any _ _ _ _).mono ?_
  rintro e w' ⟨rfl, rfl⟩
  rw [X1.out]
  go_wp2_with fail
  refine (sat_any _ _ _ (by omega) (by omega)).mono ?_
  rintro e w' ⟨rfl, rfl⟩
  rw [Y1.out]
  go_wp2_with fail
  refine (clamp_any _ _ _ _).mono ?_
  rintro e w' ⟨rfl, rfl⟩
  rw [X2.out]
  go_wp2_with fail
  refine (sat_any _ _ _ (by omega) (by omega)).mono ?_
  rintro e w' ⟨rfl, rfl⟩
  rw [Y2.out]
  go_wp2
  all_goals (go_ret; exact ⟨ret_bool (by first | rfl | (simp; omega)), Below.refl _ _⟩)

set_option maxRecDepth 100000 in
set_option maxHeartbeats 1600000 in
theorem nb_top (n a b low high : Int) (w : World) (hlow : (if b < a then b else a) = low) (hhigh : (if a < b then b else a) = high) (h1 : -9223372036854775808 ≤ n) (h2 : n ≤ 9223372036854775807) (h3 : -9223372036854775808 ≤ low) (h4 : low ≤ 9223372036854775807) (h5 : -9223372036854775808 ≤ high) (h6 : high ≤ 9223372036854775807) (g : low ≤ high) (k : low ≤ n) (k2 : n = high) :
    Calls Try.prog 3 #[.int .i64 n, .int .i64 a, .int .i64 b] w fun e w' => e = .returned (.bool true) ∧ Below w.heap.size w w' := by
  have Y2 := Lib.hid (sat_most high high (by omega))
  have X1 := Lib.hid (clamp_mid n low high (by omega) (by omega))
  have X2 := X1
  have Y1 := Lib.hid (sat_most n high (by omega))
  subst k2
  go_enter Try.func3, Try.ntmps3
  go_wp2_with fail
  refine (shown01 _).mono ?_
  rintro e w' ⟨rfl, rfl⟩
  go_wp2_with fail
  refine (clamp_any _ _ _ _).mono ?_
  rintro e w' ⟨rfl, rfl⟩
  rw [X1.out]
  go_wp2_with fail
  refine (sat_any _ _ _ (by omega) (by omega)).mono ?_
  rintro e w' ⟨rfl, rfl⟩
  rw [Y1.out]
  go_wp2_with fail
  refine (clamp_any _ _ _ _).mono ?_
  rintro e w' ⟨rfl, rfl⟩
  rw [X2.out]
  go_wp2_with fail
  refine (sat_any _ _ _ (by omega) (by omega)).mono ?_
  rintro e w' ⟨rfl, rfl⟩
  rw [Y2.out]
  go_wp2
  all_goals (go_ret; exact ⟨ret_bool (by first | rfl | (simp; omega)), Below.refl _ _⟩)

theorem walk_NumBounds (v0 v1 v2 : Value) (w : World) (q0 : ∃ n : Int, v0 = .int .i64 n ∧ -9223372036854775808 ≤ n ∧ n ≤ 9223372036854775807)
    (q1 : ∃ n : Int, v1 = .int .i64 n ∧ -9223372036854775808 ≤ n ∧ n ≤ 9223372036854775807) (q2 : ∃ n : Int, v2 = .int .i64 n ∧ -9223372036854775808 ≤ n ∧ n ≤ 9223372036854775807) :
    Calls Try.prog 3 #[v0, v1, v2] w fun e w' => e = .returned (.bool true) ∧ Below w.heap.size w w' := by
  obtain ⟨n, rfl, h1, h2⟩ := q0
  obtain ⟨a, rfl, h3, h4⟩ := q1
  obtain ⟨b, rfl, h5, h6⟩ := q2
  obtain ⟨low, hlow⟩ : ∃ low, (if b < a then b else a) = low := ⟨_, rfl⟩
  obtain ⟨high, hhigh⟩ : ∃ high, (if a < b then b else a) = high := ⟨_, rfl⟩
  have l1 : -9223372036854775808 ≤ low := by rw [← hlow]; split <;> omega
  have l2 : low ≤ 9223372036854775807 := by rw [← hlow]; split <;> omega
  have g1 : -9223372036854775808 ≤ high := by rw [← hhigh]; split <;> omega
  have g2 : high ≤ 9223372036854775807 := by rw [← hhigh]; split <;> omega
  have lh : low ≤ high := by rw [← hhigh, ← hlow]; split <;> split <;> omega
  rcases Int.lt_or_le n low with k | k
  · exact nb_low n a b low high w hlow hhigh h1 h2 l1 l2 g1 g2 lh k
  · rcases Int.lt_or_le high n with k2 | k2
    · exact nb_high n a b low high w hlow hhigh h1 h2 l1 l2 g1 g2 lh k2
    · rcases Int.lt_or_le n high with k3 | k3
      · exact nb_mid n a b low high w hlow hhigh h1 h2 l1 l2 g1 g2 lh k k3
      · exact nb_top n a b low high w hlow hhigh h1 h2 l1 l2 g1 g2 lh k (by omega)
end Go.Proofs.Ytcgaodencjcgnaa
