/- What holds of a policy that may be, cell by cell. -/
import Derived.Test.YtcgaodencjcgnaaPolW
import Derived.Test.YtcgaodencjcgnaaFit3
namespace Go.Proofs.Ytcgaodencjcgnaa
open Go.RowKit

theorem fit_i64 {w : World} {g : Nat → Value} (h : Fitted w g) : ∀ i, i < 5 → I64 (g i) := by
  obtain ⟨a, b, c, e1, e2, e3, r⟩ := h.perm
  have := h.o0
  have := h.o4
  intro i hi
  have mk : ∀ n : Int, 0 ≤ n → n ≤ 4 → I64 (.int .i64 n) := fun n h1 h2 => ⟨rfl, by show -9223372036854775808 ≤ n; omega, by show n ≤ 9223372036854775807; omega⟩
  rcases (show i = 0 ∨ i = 1 ∨ i = 2 ∨ i = 3 ∨ i = 4 by omega) with rfl | rfl | rfl | rfl | rfl
  · rw [h.o0]; exact mk _ (by omega) (by omega)
  · rw [e1]; exact mk _ (by omega) (by omega)
  · rw [e2]; exact mk _ (by omega) (by omega)
  · rw [e3]; exact mk _ (by omega) (by omega)
  · rw [h.o4]; exact mk _ (by omega) (by omega)
theorem hiOf_le (i : Nat) : hiOf i ≤ 65535 := by
  unfold hiOf
  repeat' split
  all_goals omega
theorem fit_i64' {w : World} {g : Nat → Value} (h : Fitted w g) : ∀ i, 9 ≤ i → i < 56 → I64 (g i) := by
  intro i h1 h2
  obtain ⟨n, e, -, hn, -⟩ := h.int i h1 h2
  have := hiOf_le i
  rw [e]
  exact ⟨rfl, by simp only [intOf]; omega, by simp only [intOf]; omega⟩
theorem fit_one {w : World} {g : Nat → Value} (h : Fitted w g) : ∀ i, i < 56 → (g i).oneCell' = true := by
  intro i hi
  by_cases h9 : 9 ≤ i
  · obtain ⟨n, e, -⟩ := h.int i h9 hi
    rw [e]; rfl
  · by_cases h5 : 5 ≤ i
    · obtain ⟨A, n, cap, ys, base, e, -⟩ := h.keys i h5 (by omega)
      rw [e]; rfl
    · have := fit_i64 h i (by omega)
      rw [this.1]; rfl
end Go.Proofs.Ytcgaodencjcgnaa
