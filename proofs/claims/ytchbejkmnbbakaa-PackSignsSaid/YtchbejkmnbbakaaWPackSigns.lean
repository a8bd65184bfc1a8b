/- The walk of PackSigns. -/
import Derived.Test.YtchbejkmnbbakaaConv
import Derived.Test.YtchbejkmnbbakaaOpen
namespace Go.Proofs.Ytchbejkmnbbakaa
open Go.RowKit

theorem be_two (n : Int) (h0 : 0 ≤ n) (h1 : n < 65536) : be n 2 = [n / 256, n % 256] := by
  rw [be_cons, be_cons, be_zero]
  have e1 : n / 2 ^ (8 * 1) % 256 = n / 256 := by
    rw [show (2 : Int) ^ (8 * 1) = 256 from by decide]; omega
  have e2 : n / 2 ^ (8 * 0) % 256 = n % 256 := by simp
  rw [e1, e2]

set_option maxRecDepth 100000 in
theorem xor_255 (a b : Int) (h0 : 0 ≤ a) (h1 : a ≤ 255) (h : b = 255 - a) : bits .xor .u8 a b = 255 := by
  obtain ⟨m, rfl⟩ := Int.eq_ofNat_of_zero_le h0
  have e : b = ((255 - m : Nat) : Int) := by omega
  rw [e, u8_xor_nat _ _ (by omega) (by omega)]
  have : ∀ m : Fin 256, m.1 ^^^ (255 - m.1) = 255 := by decide
  have := this ⟨m, by omega⟩
  simp only at this
  rw [this]; rfl

set_option maxRecDepth 100000 in
set_option maxHeartbeats 400000 in
theorem walk_PackSigns (v0 : Value) (w : World) (q0 : ∃ n : Int, v0 = .int .i64 n ∧ -9223372036854775808 ≤ n ∧ n ≤ 9223372036854775807) :
    Calls Try.prog 7 #[v0] w fun e w' => e = .returned (.bool true) ∧ Below w.heap.size w w' := by
  obtain ⟨a, rfl, h1, h2⟩ := q0
  obtain ⟨n, hn⟩ : ∃ n, a % 65536 - 32768 = n := ⟨_, rfl⟩
  have n1 : -32768 ≤ n := by omega
  have n2 : n ≤ 32767 := by omega
  obtain ⟨x, hx⟩ : ∃ x, n % 65536 = x := ⟨_, rfl⟩
  obtain ⟨y, hy⟩ : ∃ y, (-1 - n) % 65536 = y := ⟨_, rfl⟩
  have e1 := be_two x (by omega) (by omega)
  have e2 := be_two y (by omega) (by omega)
  have x1 := xor_255 (x / 256) (y / 256) (by omega) (by omega) (by omega)
  have x2 := xor_255 (x % 256) (y % 256) (by omega) (by omega) (by omega)
  have hs : (decide (128 ≤ x / 256) == decide (n < 0)) = true := by
    rw [beq_iff_eq]; exact decide_eq_decide.2 (by omega)
  have HX := Lib.hid hx
  have HY := Lib.hid hy
  have E1 := Lib.hid e1
  have E2 := Lib.hid e2
  clear hx hy e1 e2
  go_enter Try.func7, Try.ntmps7
  go_wp2_with fail
  refine (shown02 w).mono ?_
  rintro e w0 ⟨rfl, b0⟩
  go_wp2_with fail
  refine (putInt_row n w0 n1 n2).mono ?_
  rintro e w1 ⟨rfl, r1, b1⟩
  go_wp2_with fail
  refine (putInt_row (-1 - n) w1 (by omega) (by omega)).mono ?_
  rintro e w2 ⟨rfl, r2, b2⟩
  rw [HX.out, E1.out] at r1
  rw [HY.out, E2.out] at r2
  have r1' := row_below r1 b2
  obtain ⟨c | ⟨g1, o1, a1, k1⟩, -⟩ := r1'
  · simp at c
  obtain ⟨c | ⟨g2, o2, a2, k2⟩, -⟩ := r2
  · simp at c
  simp only [Option.some.injEq, Addr.mk.injEq] at a1 a2
  obtain ⟨rfl, rfl, -⟩ := a1
  obtain ⟨rfl, rfl, -⟩ := a2
  have p0 := k1 0 (by simp)
  have p1 := k1 1 (by simp)
  have q0 := k2 0 (by simp)
  have q1 := k2 1 (by simp)
  simp only [List.getElem_cons_zero, List.getElem_cons_succ, Nat.add_zero, Nat.zero_add] at p0 p1 q0 q1
  have B := Lib.hid (below_next (below_next b0 b1 (Nat.le_refl _)) b2 (Nat.le_refl _))
  clear r1 b1 b2 b0 k1 k2
  go_wp2
  go_quiet (fail)
  go_wp2
  go_ret
  exact ⟨rfl, below_drewN B.out _⟩
end Go.Proofs.Ytchbejkmnbbakaa
