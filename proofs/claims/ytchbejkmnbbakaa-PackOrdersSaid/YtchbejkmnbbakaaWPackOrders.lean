/- The walk of PackOrders. -/
import Derived.Test.YtchbejkmnbbakaaConv
import Derived.Test.YtchbejkmnbbakaaOpen
namespace Go.Proofs.Ytchbejkmnbbakaa
open Go.RowKit

set_option maxRecDepth 100000 in
set_option maxHeartbeats 400000 in
theorem walk_PackOrders (v0 v1 : Value) (w : World) (q0 : ∃ n : Int, v0 = .int .u64 n ∧ 0 ≤ n ∧ n ≤ 18446744073709551615)
    (q1 : ∃ n : Int, v1 = .int .u64 n ∧ 0 ≤ n ∧ n ≤ 18446744073709551615) :
    Calls Try.prog 6 #[v0, v1] w fun e w' => e = .returned (.bool true) ∧ Below w.heap.size w w' := by
  obtain ⟨a, rfl, h1, h2⟩ := q0
  obtain ⟨b, rfl, h3, h4⟩ := q1
  have hp : (2 : Int) ^ (8 * 8) = 18446744073709551616 := by decide
  have z1 : a / 2 ^ (8 * 8) = 0 := by rw [hp]; omega
  have z2 : b / 2 ^ (8 * 8) = 0 := by rw [hp]; omega
  have l1 := str_less 8 a b h1 h3 (by rw [← pow8, hp]; omega) (by rw [← pow8, hp]; omega)
  have l2 : ((strOfNums (be a 8)).toList == (strOfNums (be b 8)).toList) = decide (a = b) := by
    rw [str_beq (be_bytes a 8) (be_bytes b 8)]
    exact decide_eq_decide.2 (be_inj 8 a b h1 h3 (by rw [← pow8, hp]; omega) (by rw [← pow8, hp]; omega))
  have Z1 := Lib.hid z1
  have Z2 := Lib.hid z2
  clear hp z1 z2
  go_enter Try.func6, Try.ntmps6
  go_wp2_with fail
  refine (shown02 w).mono ?_
  rintro e w0 ⟨rfl, b0⟩
  go_wp2_with fail
  refine (put_row a 8 w0 h1 h2 (by omega) Z1.out).mono ?_
  rintro e w1 ⟨rfl, r1, b1⟩
  go_wp2_with fail
  refine (put_row b 8 w1 h3 h4 (by omega) Z2.out).mono ?_
  rintro e w2 ⟨rfl, r2, b2⟩
  have c1 := conv_row 8 8 (be_len a 8) (row_below r1 b2)
  have c2 := conv_row 8 8 (be_len b 8) r2
  have B := Lib.hid (below_next (below_next b0 b1 (Nat.le_refl _)) b2 (Nat.le_refl _))
  clear r1 r2 b1 b2 b0
  go_wp2
  go_ret
  exact ⟨ret_bool (by by_cases h : a = b <;> simp [h]), B.out⟩
end Go.Proofs.Ytchbejkmnbbakaa
