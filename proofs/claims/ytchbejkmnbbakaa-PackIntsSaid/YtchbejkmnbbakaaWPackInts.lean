/- The walk of PackInts. -/
import Derived.Test.YtchbejkmnbbakaaConv
import Derived.Test.YtchbejkmnbbakaaOpen
namespace Go.Proofs.Ytchbejkmnbbakaa
open Go.RowKit

theorem sig_be (x : Int) (h0 : -32768 ≤ x) (h1 : x ≤ 32767) : sig (be (x % 65536) 2) = x := by
  have e : num (be (x % 65536) 2) = x % 65536 := by
    rw [num_be 2 _ (by omega)]; show x % 65536 % 65536 = _; omega
  unfold sig
  rw [e]; split <;> omega
theorem sig_inj (x y : Int) (h0 : -32768 ≤ x) (h1 : x ≤ 32767) (h2 : -32768 ≤ y) (h3 : y ≤ 32767) : ((strOfNums (be (x % 65536) 2)).toList == (strOfNums (be (y % 65536) 2)).toList) = decide (x = y) := by
  rw [str_beq (be_bytes _ 2) (be_bytes _ 2)]
  refine decide_eq_decide.2 ⟨fun h => ?_, fun h => by rw [h]⟩
  have := congrArg sig h
  rwa [sig_be x h0 h1, sig_be y h2 h3] at this

set_option maxRecDepth 100000 in
set_option maxHeartbeats 400000 in
theorem walk_PackInts (v0 v1 : Value) (w : World) (q0 : ∃ n : Int, v0 = .int .i64 n ∧ -9223372036854775808 ≤ n ∧ n ≤ 9223372036854775807)
    (q1 : ∃ n : Int, v1 = .int .i64 n ∧ -9223372036854775808 ≤ n ∧ n ≤ 9223372036854775807) :
    Calls Try.prog 14 #[v0, v1] w fun e w' => e = .returned (.bool true) ∧ Below w.heap.size w w' := by
  obtain ⟨a, rfl, h1, h2⟩ := q0
  obtain ⟨b, rfl, h3, h4⟩ := q1
  obtain ⟨x, hx⟩ : ∃ x, a % 65536 - 32768 = x := ⟨_, rfl⟩
  obtain ⟨y, hy⟩ : ∃ y, b % 65536 - 32768 = y := ⟨_, rfl⟩
  have x1 : -32768 ≤ x := by omega
  have x2 : x ≤ 32767 := by omega
  have y1 : -32768 ≤ y := by omega
  have y2 : y ≤ 32767 := by omega
  have sx := Lib.hid (sig_be x x1 x2)
  have sy := Lib.hid (sig_be y y1 y2)
  have e1 := sig_inj x y x1 x2 y1 y2
  have bt : (decide (x = y) == (x == y)) = true := by by_cases h : x = y <;> simp [h]
  by_cases hm : a < -32768 ∨ 32767 < a
  · have hm1 : (decide (-32768 ≤ a) && decide (a ≤ 32767)) = false := by
      rw [Bool.and_eq_false_iff]; simp; omega
    have HM := Lib.hid hm
    clear hm
    go_enter Try.func14, Try.ntmps14
    go_wp2_with fail
    refine (shown02 w).mono ?_
    rintro e w0 ⟨rfl, b0⟩
    go_wp2_with fail
    refine (putInt_row x w0 x1 x2).mono ?_
    rintro e w1 ⟨rfl, r1, b1⟩
    go_wp2_with fail
    refine (putInt_row y w1 y1 y2).mono ?_
    rintro e w2 ⟨rfl, r2, b2⟩
    have r1' := row_below r1 b2
    go_wp2_with fail
    refine (takeInt_ok _ _ _ _ r1' (be_len _ 2)).mono ?_
    rintro e w2 ⟨rfl, rfl⟩
    go_wp2_with fail
    refine (takeInt_ok _ _ _ _ r2 (be_len _ 2)).mono ?_
    rintro e w2 ⟨rfl, rfl⟩
    rw [sx.out, sy.out]
    go_wp2_with fail
    refine (putInt_bad a _ HM.out).mono ?_
    rintro e w2 ⟨rfl, rfl⟩
    have c1 := conv_row 2 2 (be_len _ 2) r1'
    have c2 := conv_row 2 2 (be_len _ 2) r2
    have B := Lib.hid (below_next (below_next b0 b1 (Nat.le_refl _)) b2 (Nat.le_refl _))
    clear r1 b1 b2 b0 r1' r2
    go_wp2
    all_goals first
      | (exfalso; have := HM.out; omega)
      | (go_ret; exact ⟨ret_bool (by first | rfl | (simp; omega)), B.out⟩)
  · have a1 : -32768 ≤ a := by omega
    have a2 : a ≤ 32767 := by omega
    clear hm
    go_enter Try.func14, Try.ntmps14
    go_wp2_with fail
    refine (shown02 w).mono ?_
    rintro e w0 ⟨rfl, b0⟩
    go_wp2_with fail
    refine (putInt_row x w0 x1 x2).mono ?_
    rintro e w1 ⟨rfl, r1, b1⟩
    go_wp2_with fail
    refine (putInt_row y w1 y1 y2).mono ?_
    rintro e w2 ⟨rfl, r2, b2⟩
    have r1' := row_below r1 b2
    go_wp2_with fail
    refine (takeInt_ok _ _ _ _ r1' (be_len _ 2)).mono ?_
    rintro e w2 ⟨rfl, rfl⟩
    go_wp2_with fail
    refine (takeInt_ok _ _ _ _ r2 (be_len _ 2)).mono ?_
    rintro e w2 ⟨rfl, rfl⟩
    rw [sx.out, sy.out]
    go_wp2_with fail
    refine (putInt_row a _ a1 a2).mono ?_
    rintro e w3 ⟨rfl, r3, b3⟩
    have c1 := conv_row 2 2 (be_len _ 2) (row_below r1' b3)
    have c2 := conv_row 2 2 (be_len _ 2) (row_below r2 b3)
    have B := Lib.hid (below_next (below_next (below_next b0 b1 (Nat.le_refl _)) b2 (Nat.le_refl _)) b3 (Nat.le_refl _))
    clear r1 b1 b2 b0 r1' r2 r3 b3
    go_wp2
    go_ret
    exact ⟨rfl, B.out⟩
end Go.Proofs.Ytchbejkmnbbakaa
