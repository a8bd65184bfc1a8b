/- The walk of PackBack. -/
import Derived.Test.YtchbejkmnbbakaaConv
import Derived.Test.YtchbejkmnbbakaaOpen
namespace Go.Proofs.Ytchbejkmnbbakaa
open Go.RowKit

/-- What follows of a number m < 256^k. -/
theorem first_byte (m : Int) (j : Nat) (h0 : 0 ≤ m) (h : m / 2 ^ (8 * (j + 1)) = 0) : m / 2 ^ (8 * j) % 256 = m / 2 ^ (8 * j) := by
  rw [pow8, Int.pow_succ, ← ediv_ediv' _ _ _ (by have := pow256_pos j; omega)] at h
  rw [pow8]
  have : 0 ≤ m / 256 ^ j := Int.ediv_nonneg h0 (by have := pow256_pos j; omega)
  omega
set_option maxRecDepth 100000 in
set_option maxHeartbeats 800000 in
theorem walk_PackBack (v0 v1 : Value) (w : World) (q0 : ∃ n : Int, v0 = .int .u64 n ∧ 0 ≤ n ∧ n ≤ 18446744073709551615)
    (q1 : ∃ n : Int, v1 = .int .u8 n ∧ 0 ≤ n ∧ n ≤ 255) :
    Calls Try.prog 10 #[v0, v1] w fun e w' => e = .returned (.bool true) ∧ Below w.heap.size w w' := by
  obtain ⟨n, rfl, h1, h2⟩ := q0
  obtain ⟨size, rfl, h3, h4⟩ := q1
  obtain ⟨k, hk⟩ : ∃ k : Nat, size % 9 = k := ⟨(size % 9).toNat, by omega⟩
  have k1 : k ≤ 8 := by omega
  have key : ∃ m : Int, 0 ≤ m ∧ m ≤ 18446744073709551615 ∧ m / 2 ^ (8 * k) = 0 ∧ ((k < 8 ∧ bits .and .u64 n (IntKind.u64.wrap (IntKind.u64.wrap (2 ^ (8 * k)) - 1)) = m) ∨ (¬ k < 8 ∧ n = m)) := by
    by_cases c8 : k < 8
    · refine ⟨n % 2 ^ (8 * k), ?_, ?_, ?_, .inl ⟨c8, u64_mask (8 * k) (by omega) n h1 h2⟩⟩
      · exact Int.emod_nonneg _ (by rw [pow8]; have := pow256_pos k; omega)
      · have e := Int.emod_add_mul_ediv n (2 ^ (8 * k))
        have e2 : 0 ≤ (2 : Int) ^ (8 * k) * (n / 2 ^ (8 * k)) := Int.mul_nonneg (by rw [pow8]; have := pow256_pos k; omega) (Int.ediv_nonneg h1 (by rw [pow8]; have := pow256_pos k; omega))
        omega
      · exact Int.ediv_eq_zero_of_lt (Int.emod_nonneg _ (by rw [pow8]; have := pow256_pos k; omega)) (Int.emod_lt_of_pos _ (by rw [pow8]; exact pow256_pos k))
    · obtain rfl : k = 8 := by omega
      refine ⟨n, h1, h2, ?_, .inr ⟨c8, rfl⟩⟩
      rw [show (2 : Int) ^ (8 * 8) = 18446744073709551616 from by decide]; omega
  obtain ⟨m, m0, m1, mz, c⟩ := key
  have MZ := Lib.hid mz
  have NB := Lib.hid (num_be' m k m0 mz)
  clear mz
  by_cases hk0 : k = 0
  · have hk0' : ((k : Int) == 0) = true := by simp; omega
    clear hk0
    rcases c with ⟨c8, hm⟩ | ⟨c8, rfl⟩
    all_goals
      go_enter Try.func10, Try.ntmps10
      go_wp2_with fail
      refine (shown02 w).mono ?_
      rintro e w0 ⟨rfl, b0⟩
      go_wp2_with fail
      refine (put_row _ k w0 m0 m1 k1 MZ.out).mono ?_
      rintro e w1 ⟨rfl, r1, b1⟩
      go_wp2_with fail
      refine (take_row k k (be_len _ k) r1 k1).mono ?_
      rintro e w2 ⟨rfl, rfl⟩
      rw [NB.out]
      have B := Lib.hid (below_next b0 b1 (Nat.le_refl _))
      clear r1 b1 b0
      go_wp2
      go_ret
      exact ⟨rfl, B.out⟩
  · have hk0' : ((k : Int) == 0) = false := by simp; omega
    obtain ⟨j, hj⟩ : ∃ j, k = j + 1 := ⟨k - 1, by omega⟩
    have hjk : (k : Int) - 1 = (j : Int) := by omega
    have BC := Lib.hid (be_cons m j)
    have FB := Lib.hid (first_byte m j m0 (by rw [← hj]; exact MZ.out))
    have HJ := Lib.hid hj
    clear hj
    by_cases hf : m / 2 ^ (8 * j) = 0
    · have HF := Lib.hid hf
      clear hf
      by_cases hk1 : k = 1
      · have HK1 := Lib.hid hk1
        clear hk1
        rcases c with ⟨c8, hm⟩ | ⟨c8, rfl⟩
        all_goals
          go_enter Try.func10, Try.ntmps10
          go_wp2_with fail
          refine (shown02 w).mono ?_
          rintro e w0 ⟨rfl, b0⟩
          go_wp2_with fail
          refine (put_row _ k w0 m0 m1 k1 MZ.out).mono ?_
          rintro e w1 ⟨rfl, r1, b1⟩
          go_wp2_with fail
          refine (take_row k k (be_len _ k) r1 k1).mono ?_
          rintro e w2 ⟨rfl, rfl⟩
          rw [NB.out]
          go_wp2_with fail
          refine (put_row _ j w1 m0 m1 (by omega) HF.out).mono ?_
          rintro e w2 ⟨rfl, r2, b2⟩
          have r1' := row_below r1 b2
          rw [HJ.out, BC.out, FB.out, HF.out] at r1'
          have p0 := row_first r1'
          have hk1 := HK1.out
          obtain rfl : j = 0 := by omega
          have c1 := conv_drewN 0 0 rfl r2
          have c2 := conv_drewN 0 0 rfl (row_empty w2 (some ⟨w0.heap.size, 0, none⟩))
          rw [be_zero] at c1
          have B := Lib.hid (below_next (below_next b0 b1 (Nat.le_refl _)) b2 (Nat.le_refl _))
          clear r1 r1' r2 b2 b1 b0
          go_wp2
          go_quiet (fail)
          go_wp2
          go_ret
          exact ⟨rfl, below_drewN B.out _⟩
      · have hk2 : 1 < k := by omega
        rcases c with ⟨c8, hm⟩ | ⟨c8, rfl⟩
        all_goals
          go_enter Try.func10, Try.ntmps10
          go_wp2_with fail
          refine (shown02 w).mono ?_
          rintro e w0 ⟨rfl, b0⟩
          go_wp2_with fail
          refine (put_row _ k w0 m0 m1 k1 MZ.out).mono ?_
          rintro e w1 ⟨rfl, r1, b1⟩
          go_wp2_with fail
          refine (take_row k k (be_len _ k) r1 k1).mono ?_
          rintro e w2 ⟨rfl, rfl⟩
          rw [NB.out]
          go_wp2_with fail
          refine (put_row _ j w1 m0 m1 (by omega) HF.out).mono ?_
          rintro e w2 ⟨rfl, r2, b2⟩
          have r1' := row_below r1 b2
          rw [HJ.out, BC.out, FB.out, HF.out] at r1'
          have p0 := row_first r1'
          have c1 := conv_drewN j j (be_len _ j) r2
          have c2 := conv_drewN (k - 1) (k - 1) (by rw [be_len]; have := HJ.out; omega) (row_tail r1')
          have B := Lib.hid (below_next (below_next b0 b1 (Nat.le_refl _)) b2 (Nat.le_refl _))
          clear r1 r1' r2 b2 b1 b0
          go_wp2
          go_quiet (fail)
          go_wp2
          go_ret
          exact ⟨rfl, below_drewN B.out _⟩
    · have hf' : (m / 2 ^ (8 * j) != 0) = true := by simpa using hf
      have HF' := Lib.hid hf'
      clear hf
      rcases c with ⟨c8, hm⟩ | ⟨c8, rfl⟩
      all_goals
        go_enter Try.func10, Try.ntmps10
        go_wp2_with fail
        refine (shown02 w).mono ?_
        rintro e w0 ⟨rfl, b0⟩
        go_wp2_with fail
        refine (put_row _ k w0 m0 m1 k1 MZ.out).mono ?_
        rintro e w1 ⟨rfl, r1, b1⟩
        go_wp2_with fail
        refine (take_row k k (be_len _ k) r1 k1).mono ?_
        rintro e w2 ⟨rfl, rfl⟩
        rw [NB.out]
        go_wp2_with fail
        refine (put_bad _ j w1 m0 m1 (by omega) (by omega) (.inr (.inr (by rw [show (8 * (j : Int)).toNat = 8 * j from by omega]; exact HF'.out)))).mono ?_
        rintro e w2 ⟨rfl, rfl⟩
        rw [HJ.out, BC.out, FB.out] at r1
        have p0 := row_first r1
        have B := Lib.hid (below_next b0 b1 (Nat.le_refl _))
        clear r1 b1 b0
        go_wp2
        go_ret
        exact ⟨rfl, B.out⟩
end Go.Proofs.Ytchbejkmnbbakaa
