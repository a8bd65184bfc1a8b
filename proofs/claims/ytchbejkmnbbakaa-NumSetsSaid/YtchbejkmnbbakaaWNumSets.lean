/- The walk of NumSets. -/
import Derived.Test.YtchbejkmnbbakaaWNumComes
namespace Go.Proofs.Ytchbejkmnbbakaa
open Go.RowKit
theorem ofInt_i64 (a : Nat) (ha : a < 9223372036854775808) : (BitVec.ofInt 64 (a : Int)).toNat = a := by
  rw [BitVec.ofInt_natCast, BitVec.toNat_ofNat]; exact Nat.mod_eq_of_lt (by omega)
theorem i64_or_nat (a b : Nat) (ha : a < 9223372036854775808) (hb : b < 9223372036854775808) : bits .or .i64 (a : Int) (b : Int) = ((a ||| b : Nat) : Int) := by
  have hx : a ||| b < 2 ^ 63 := Nat.or_lt_two_pow (by omega) (by omega)
  show IntKind.i64.wrap ((BitVec.ofInt 64 (a : Int) ||| BitVec.ofInt 64 (b : Int)).toNat : Int) = _
  rw [BitVec.toNat_or, ofInt_i64 a ha, ofInt_i64 b hb, IntKind.wrap_i64]
  omega

theorem has_nat (n i : Nat) : has (n : Int) (i : Int) = (decide (i ≤ 62) && (n / 2 ^ i % 2 == 1)) := by
  have e : (n : Int) / 2 ^ i % 2 = ((n / 2 ^ i % 2 : Nat) : Int) := by simp
  unfold has
  rw [Int.toNat_natCast, e]
  congr 1
  · exact decide_eq_decide.2 (by omega)
  · rw [Bool.eq_iff_iff]; simp; omega
theorem pow_le_20 (n i : Nat) (h : n < 1048576) (h1 : n / 2 ^ i % 2 = 1) : 2 ^ i ≤ 1048576 := by
  rcases Nat.lt_or_ge i 20 with hi | hi
  · have := Nat.pow_le_pow_right (n := 2) (by omega) (show i ≤ 20 by omega); omega
  · have := Nat.pow_le_pow_right (n := 2) (by omega) hi
    rw [Nat.div_eq_of_lt (by omega)] at h1; omega
theorem hit_aux (_x a r q : Nat) (ha : a ≤ 1048576) (hr : r < a) (hq : q = r + a) : wrap64 ((r : Int) + wrap64 (a : Int)) = (q : Int) := by
  have w1 : wrap64 (a : Int) = (a : Int) := IntWalk.wrap64_in _ ⟨by omega, by omega⟩
  rw [w1, IntWalk.wrap64_in _ ⟨by omega, by omega⟩]
  omega
theorem set_hit (s : Int) (i : Nat) (h0 : 0 ≤ s) (h1 : s < 1048576) (h : has s i = true) : wrap64 (s % 2 ^ i + wrap64 (2 ^ i)) = s % 2 ^ (i + 1) := by
  obtain ⟨n, rfl⟩ := Int.eq_ofNat_of_zero_le h0
  rw [has_nat] at h
  simp at h
  have hp := pow_le_20 n i (by omega) h.2
  have e := Nat.mod_mul (x := n) (a := 2 ^ i) (b := 2)
  rw [h.2, ← Nat.pow_succ] at e
  have hm : n % 2 ^ i < 2 ^ i := Nat.mod_lt _ (Nat.two_pow_pos i)
  have c1 : ((2 : Int) ^ i) = ((2 ^ i : Nat) : Int) := by simp
  have c2 : (n : Int) % ((2 ^ i : Nat) : Int) = ((n % 2 ^ i : Nat) : Int) := by simp
  have c3 : (n : Int) % 2 ^ (i + 1) = ((n % 2 ^ (i + 1) : Nat) : Int) := by simp
  have e' : n % 2 ^ (i + 1) = n % 2 ^ i + 2 ^ i := by rw [e, Nat.mul_one]
  rw [c3, c1, c2]
  exact hit_aux n _ _ _ hp hm e'
theorem set_miss (s : Int) (i : Nat) (h0 : 0 ≤ s) (h1 : s < 1048576) (h : has s i = false) : s % 2 ^ i = s % 2 ^ (i + 1) := by
  obtain ⟨n, rfl⟩ := Int.eq_ofNat_of_zero_le h0
  rw [has_nat] at h
  have c2 : (n : Int) % 2 ^ i = ((n % 2 ^ i : Nat) : Int) := by simp
  have c3 : (n : Int) % 2 ^ (i + 1) = ((n % 2 ^ (i + 1) : Nat) : Int) := by simp
  rw [c2, c3]
  rcases Nat.lt_or_ge i 63 with hi | hi
  · have e := Nat.mod_mul (x := n) (a := 2 ^ i) (b := 2)
    rw [← Nat.pow_succ] at e
    have : n / 2 ^ i % 2 = 0 := by simp at h; have := h (by omega); omega
    rw [this] at e
    rw [e]; simp
  · have p1 := Nat.pow_le_pow_right (n := 2) (by omega) hi
    have p2 := Nat.pow_le_pow_right (n := 2) (by omega) (show 63 ≤ i + 1 by omega)
    rw [Nat.mod_eq_of_lt (by omega), Nat.mod_eq_of_lt (by omega)]

theorem has_bit (n : Nat) (i : Int) (h0 : 0 ≤ i) : has n i = (decide (i ≤ 62) && n.testBit i.toNat) := by
  obtain ⟨j, rfl⟩ := Int.eq_ofNat_of_zero_le h0
  rw [has_nat, Int.toNat_natCast, Nat.testBit_eq_decide_div_mod_eq]
  congr 1
  exact decide_eq_decide.2 (by omega)
theorem set_more (s k : Int) (h0 : 0 ≤ s) (h1 : s < 1048576) (k0 : 0 ≤ k) (k1 : k < 32) :
    ∃ m : Int, bits .or .i64 s (wrap64 (2 ^ k.toNat)) = m ∧ 0 ≤ m ∧ m ≤ 9223372036854775807 ∧ ∀ i, i ≤ 64 → has m i = (has s i || i == k) := by
  obtain ⟨n, rfl⟩ := Int.eq_ofNat_of_zero_le h0
  obtain ⟨j, rfl⟩ := Int.eq_ofNat_of_zero_le k0
  have hp := Nat.pow_le_pow_right (n := 2) (by omega) (show j ≤ 31 by omega)
  have c1 : ((2 : Int) ^ j) = ((2 ^ j : Nat) : Int) := by simp
  have ho : n ||| 2 ^ j < 2 ^ 32 := Nat.or_lt_two_pow (by omega) (by omega)
  have hpos : (0 : Int) ≤ ((2 ^ j : Nat) : Int) := Int.natCast_nonneg _
  have w1 : wrap64 ((2 ^ j : Nat) : Int) = ((2 ^ j : Nat) : Int) := IntWalk.wrap64_in _ ⟨by omega, by omega⟩
  refine ⟨((n ||| 2 ^ j : Nat) : Int), ?_, by omega, by omega, fun i hi => ?_⟩
  · rw [Int.toNat_natCast, c1, w1]
    exact i64_or_nat n (2 ^ j) (by omega) (by omega)
  · rcases Int.lt_or_le i 0 with h | h
    · have e1 : ∀ x, has x i = false := fun x => by unfold has; rw [decide_eq_false (by omega)]; rfl
      rw [e1, e1]; simp; omega
    · rw [has_bit _ _ h, has_bit _ _ h, Nat.testBit_or, Nat.testBit_two_pow]
      obtain ⟨l, rfl⟩ := Int.eq_ofNat_of_zero_le h
      rw [Int.toNat_natCast]
      by_cases h2 : l ≤ 62
      · rw [decide_eq_true (by omega)]
        simp only [Bool.true_and]
        congr 1
        rw [Bool.eq_iff_iff]; simp; omega
      · rw [decide_eq_false (by omega)]
        simp; omega

set_option maxRecDepth 100000 in
set_option maxHeartbeats 400000 in
theorem walk_NumSets (v0 v1 : Value) (w : World) (q0 : ∃ n : Int, v0 = .int .i64 n ∧ -9223372036854775808 ≤ n ∧ n ≤ 9223372036854775807)
    (q1 : ∃ n : Int, v1 = .int .i64 n ∧ -9223372036854775808 ≤ n ∧ n ≤ 9223372036854775807) :
    Calls Try.prog 9 #[v0, v1] w fun e w' => e = .returned (.bool true) ∧ Below w.heap.size w w' := by
  obtain ⟨set_, rfl, h1, h2⟩ := q0
  obtain ⟨which, rfl, h3, h4⟩ := q1
  obtain ⟨s, hs⟩ : ∃ s, set_ % 1048576 = s := ⟨_, rfl⟩
  obtain ⟨k, hk⟩ : ∃ k, which % 32 = k := ⟨_, rfl⟩
  have s1 : 0 ≤ s := by omega
  have s2 : s < 1048576 := by omega
  have k1 : 0 ≤ k := by omega
  have k2 : k < 32 := by omega
  go_enter Try.func9, Try.ntmps9
  go_wp2_with (go_at_call 24; refine (shown01 _).mono ?_; rintro e w' ⟨rfl, rfl⟩)
  clear hs hk h1 h2 h3 h4
  go_outline
  go_loop [8, 9] (fun x y => ∃ i : Nat, i ≤ 64 ∧ y = .int .i64 i ∧ x = .int .i64 (s % 2 ^ i)) (fun _ y => 64 - (intOf y).toNat)
  case atStart => exact ⟨0, by omega, rfl, by simp⟩
  case round =>
    obtain ⟨i, hi, rfl, rfl⟩ := hrel
    by_cases hlt : i < 64
    · go_wp2_with (go_at_call 26; refine (has_any _ _ _ (by omega) (by omega)).mono ?_; rintro e w' ⟨rfl, rfl⟩)
      all_goals
        go_round
        case rel =>
          first
          | (have h : has s i = true := by assumption
             have e := set_hit s i s1 s2 h
             exact ⟨i + 1, by omega, by go_num, by rw [e]⟩)
          | (have h : has s i = false := by assumption
             have e := set_miss s i s1 s2 h
             exact ⟨i + 1, by omega, by go_num, by rw [e]⟩)
        case measure => simp [intOf]; omega
    · obtain rfl : i = 64 := by omega
      have e64 : s % 18446744073709551616 = s := Int.emod_eq_of_lt s1 (by omega)
      obtain ⟨m, hm, m0, m1, hor⟩ := set_more s k s1 s2 k1 k2
      have HOR := Lib.hid hor
      clear hor
      go_wp2
      clear hm
      go_loop [11] (fun y => ∃ i : Nat, i ≤ 65 ∧ y = .int .i64 ((i : Int) - 1)) (fun y => 65 - (intOf y + 1).toNat)
      case atStart => exact ⟨0, by omega, rfl⟩
      case round =>
        obtain ⟨i, hi, rfl⟩ := hrel
        by_cases hlt : i < 65
        · have hor := HOR.out ((i : Int) - 1) (by omega)
          have hlt' : (i : Int) - 1 < 64 := by omega
          rcases Bool.eq_false_or_eq_true (has s ((i : Int) - 1)) with e1 | e1
          · rw [e1, Bool.true_or] at hor
            go_wp2_with (go_at_call 26; refine (has_any _ _ _ (by omega) (by omega)).mono ?_; rintro e w' ⟨rfl, rfl⟩)
            go_round
            case rel => exact ⟨i + 1, by omega, by go_num⟩
            case measure => simp [intOf]; omega
          · rcases Bool.eq_false_or_eq_true ((i : Int) - 1 == k) with e2 | e2
            · rw [e1, e2, Bool.false_or] at hor
              go_wp2_with (go_at_call 26; refine (has_any _ _ _ (by omega) (by omega)).mono ?_; rintro e w' ⟨rfl, rfl⟩)
              go_round
              case rel => exact ⟨i + 1, by omega, by go_num⟩
              case measure => simp [intOf]; omega
            · rw [e1, e2, Bool.false_or] at hor
              go_wp2_with (go_at_call 26; refine (has_any _ _ _ (by omega) (by omega)).mono ?_; rintro e w' ⟨rfl, rfl⟩)
              go_round
              case rel => exact ⟨i + 1, by omega, by go_num⟩
              case measure => simp [intOf]; omega
        · obtain rfl : i = 65 := by omega
          have g1 : has (-1 - s) k = false := by unfold has; rw [decide_eq_false (by omega)]; rfl
          have g2 : has s (-1 - k) = false := by unfold has; rw [decide_eq_false (by omega)]; rfl
          have g3 : has s 63 = false := by unfold has; rw [decide_eq_false (by omega)]; rfl
          go_wp2_with (go_at_call 26; refine (has_any _ _ _ (by omega) (by omega)).mono ?_; rintro e w' ⟨rfl, rfl⟩)
          go_ret
          exact ⟨rfl, Below.refl _ _⟩
end Go.Proofs.Ytchbejkmnbbakaa
