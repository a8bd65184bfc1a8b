/- The walk of NumMirrors. -/
import Derived.Test.YtcgaodencjcgnaaShown01
import Derived.Test.YtcgaodencjcgnaaOpen
namespace Go.Proofs.Ytcgaodencjcgnaa
open Go.RowKit

theorem toward_neg (a b c : Int) : toward (-a) (-b) c = -toward a b c := by
  unfold toward; repeat' split
  all_goals omega
theorem clamp_neg (x l h : Int) (g : l ≤ h) : clamp (-x) (-h) (-l) = -clamp x l h := by
  unfold clamp; repeat' split
  all_goals omega
theorem toward_bd (a b c : Int) (h1 : -9223372036854775807 ≤ a) (h2 : a ≤ 9223372036854775807) (h3 : -9223372036854775807 ≤ b) (h4 : b ≤ 9223372036854775807) : -9223372036854775807 ≤ toward a b c ∧ toward a b c ≤ 9223372036854775807 := by
  unfold toward; repeat' split
  all_goals omega
theorem clamp_bd (x l h : Int) (g1 : -9223372036854775807 ≤ x) (g2 : x ≤ 9223372036854775807) (g3 : -9223372036854775807 ≤ l) (g4 : l ≤ 9223372036854775807) (g5 : -9223372036854775807 ≤ h) (g6 : h ≤ 9223372036854775807) :
    -9223372036854775807 ≤ clamp x l h ∧ clamp x l h ≤ 9223372036854775807 := by
  unfold clamp; repeat' split
  all_goals omega
theorem above (a : Int) (h1 : -9223372036854775808 ≤ a) : ∃ x, (if a < -9223372036854775807 then -9223372036854775807 else a) = x ∧ -9223372036854775807 ≤ x := by
  split
  · exact ⟨_, rfl, by omega⟩
  · exact ⟨_, rfl, by omega⟩

set_option maxRecDepth 100000 in
set_option maxHeartbeats 400000 in
theorem walk_NumMirrors (v0 v1 v2 : Value) (w : World) (q0 : ∃ n : Int, v0 = .int .i64 n ∧ -9223372036854775808 ≤ n ∧ n ≤ 9223372036854775807)
    (q1 : ∃ n : Int, v1 = .int .i64 n ∧ -9223372036854775808 ≤ n ∧ n ≤ 9223372036854775807) (q2 : ∃ n : Int, v2 = .int .i64 n ∧ -9223372036854775808 ≤ n ∧ n ≤ 9223372036854775807) :
    Calls Try.prog 4 #[v0, v1, v2] w fun e w' => e = .returned (.bool true) ∧ Below w.heap.size w w' := by
  obtain ⟨a, rfl, h1, h2⟩ := q0
  obtain ⟨b, rfl, h3, h4⟩ := q1
  obtain ⟨c, rfl, h5, h6⟩ := q2
  obtain ⟨x, hx, x1⟩ := above a h1
  obtain ⟨y, hy, y1⟩ := above b h3
  obtain ⟨z, hz, z1⟩ := above c h5
  have x2 : x ≤ 9223372036854775807 := by rw [← hx]; split <;> omega
  have y2 : y ≤ 9223372036854775807 := by rw [← hy]; split <;> omega
  have z2 : z ≤ 9223372036854775807 := by rw [← hz]; split <;> omega
  obtain ⟨low, hlow⟩ : ∃ low, (if z < y then z else y) = low := ⟨_, rfl⟩
  obtain ⟨high, hhigh⟩ : ∃ high, (if y < z then z else y) = high := ⟨_, rfl⟩
  have l1 : -9223372036854775807 ≤ low := by rw [← hlow]; split <;> omega
  have l2 : low ≤ 9223372036854775807 := by rw [← hlow]; split <;> omega
  have g1 : -9223372036854775807 ≤ high := by rw [← hhigh]; split <;> omega
  have g2 : high ≤ 9223372036854775807 := by rw [← hhigh]; split <;> omega
  have lh : low ≤ high := by rw [← hhigh, ← hlow]; split <;> split <;> omega
  have T1 := Lib.hid (toward_neg x y c)
  have C1 := Lib.hid (clamp_neg x low high lh)
  obtain ⟨t1, t2⟩ := toward_bd x y c x1 x2 y1 y2
  obtain ⟨t3, t4⟩ := clamp_bd x low high x1 x2 l1 l2 g1 g2
  go_enter Try.func4, Try.ntmps4
  go_wp2_with fail
  refine (shown01 _).mono ?_
  rintro e w' ⟨rfl, rfl⟩
  go_wp2_with fail
  refine (toward_any _ _ _ _ (by omega) (by omega) (by omega) (by omega) (by omega) (by omega)).mono ?_
  rintro e w' ⟨rfl, rfl⟩
  go_wp2_with fail
  refine (toward_any _ _ _ _ (by omega) (by omega) (by omega) (by omega) (by omega) (by omega)).mono ?_
  rintro e w' ⟨rfl, rfl⟩
  rw [T1.out]
  go_wp2_with fail
  refine (clamp_any _ _ _ _).mono ?_
  rintro e w' ⟨rfl, rfl⟩
  go_wp2_with fail
  refine (clamp_any _ _ _ _).mono ?_
  rintro e w' ⟨rfl, rfl⟩
  rw [C1.out]
  go_wp2
  go_ret
  exact ⟨rfl, Below.refl _ _⟩
end Go.Proofs.Ytcgaodencjcgnaa
