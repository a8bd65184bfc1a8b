/- The walk of PackParts. -/
import Derived.Test.YtchbejkmnbbakaaApp
import Derived.Test.YtchbejkmnbbakaaOpen
namespace Go.Proofs.Ytchbejkmnbbakaa
open Go.RowKit

theorem flat_two (v : Value) (w : World) (base : Nat) (h : Value.okWide Try.prog w .any base 57 v) : ∃ a b : Int, v = .agg #[.int .u8 a, .int .u8 b] ∧ 0 ≤ a ∧ a ≤ 255 ∧ 0 ≤ b ∧ b ≤ 255 := by
  obtain ⟨cs, rfl, hs, hc⟩ := flat (ts := [5, 5]) (.inr ⟨_, _, Try.underlying57⟩) (by kernel_rfl) (by kernel_rfl) h
  obtain ⟨l⟩ := cs
  match l, hs with
  | [x, y], _ =>
    obtain ⟨a, rfl, a1, a2⟩ := opn_u8 Try.underlying5 (hc 0 _ x rfl rfl)
    obtain ⟨b, rfl, b1, b2⟩ := opn_u8 Try.underlying5 (hc 1 _ y rfl rfl)
    exact ⟨a, b, rfl, a1, a2, b1, b2⟩

set_option maxRecDepth 100000 in
set_option maxHeartbeats 800000 in
theorem walk_PackParts (v0 v1 v2 : Value) (w : World) (q0 : ∃ n : Int, v0 = .int .u32 n ∧ 0 ≤ n ∧ n ≤ 4294967295)
    (q1 : ∃ n : Int, v1 = .int .u32 n ∧ 0 ≤ n ∧ n ≤ 4294967295) (q2 : ∃ base, Value.okWide Try.prog w .any base 57 v2) :
    Calls Try.prog 11 #[v0, v1, v2] w fun e w' => e = .returned (.bool true) ∧ Below w.heap.size w w' := by
  obtain ⟨a, rfl, h1, h2⟩ := q0
  obtain ⟨b, rfl, h3, h4⟩ := q1
  obtain ⟨base, q2⟩ := q2
  obtain ⟨s0, s1, rfl, h5, h6, h7, h8⟩ := flat_two _ _ _ q2
  clear q2
  obtain ⟨m, hm⟩ : ∃ m : Nat, s0 % 5 = m := ⟨(s0 % 5).toNat, by omega⟩
  obtain ⟨k, hk⟩ : ∃ k : Nat, s1 % 5 = k := ⟨(s1 % 5).toNat, by omega⟩
  have m1 : m ≤ 4 := by omega
  have k1 : k ≤ 4 := by omega
  obtain ⟨x, hx⟩ : ∃ x, a % 2 ^ (8 * m) = x := ⟨_, rfl⟩
  obtain ⟨y, hy⟩ : ∃ y, b % 2 ^ (8 * k) = y := ⟨_, rfl⟩
  have mx := u64_mask (8 * m) (by omega) a h1 (by omega)
  have my := u64_mask (8 * k) (by omega) b h3 (by omega)
  rw [hx] at mx
  rw [hy] at my
  have hx0 : 0 ≤ x := by rw [← hx]; exact Int.emod_nonneg _ (by rw [pow8]; have := pow256_pos m; omega)
  have hy0 : 0 ≤ y := by rw [← hy]; exact Int.emod_nonneg _ (by rw [pow8]; have := pow256_pos k; omega)
  have hx1 : x < 256 ^ m := by rw [← hx, pow8]; exact Int.emod_lt_of_pos _ (pow256_pos m)
  have hy1 : y < 256 ^ k := by rw [← hy, pow8]; exact Int.emod_lt_of_pos _ (pow256_pos k)
  obtain ⟨z, hz, z0, z1, z2, z3⟩ := join_num x y m k (by omega) hx0 hx1 hy0 hy1
  have zx : x / 2 ^ (8 * m) = 0 := by rw [pow8]; exact Int.ediv_eq_zero_of_lt hx0 hx1
  have zy : y / 2 ^ (8 * k) = 0 := by rw [pow8]; exact Int.ediv_eq_zero_of_lt hy0 hy1
  have big : ∀ j : Nat, j ≤ 4 → (256 : Int) ^ j ≤ 4294967296 := by
    intro j hj
    have h1 : 256 ^ j ≤ 256 ^ 4 := Nat.pow_le_pow_right (by omega) hj
    have h2 : (256 : Int) ^ j = ((256 ^ j : Nat) : Int) := by rw [Int.natCast_pow]; rfl
    rw [show (256 : Nat) ^ 4 = 4294967296 from by decide] at h1
    rw [h2]; exact Int.ofNat_le.2 h1
  have bx := big m m1
  have bY := big k k1
  have hx2 : x ≤ 18446744073709551615 := by omega
  have hy2 : y ≤ 18446744073709551615 := by omega
  have NZ := Lib.hid (num_be' z (m + k) z0 z2)
  have st : (strOfNums (be z (m + k))).toList = (strOfNums (be x m)).toList ++ (strOfNums (be y k)).toList := by
    rw [z3, str_toList, str_toList, str_toList, List.map_append]
  have ST := Lib.hid st
  have ZX := Lib.hid zx
  have ZY := Lib.hid zy
  have Z2 := Lib.hid z2
  have Z3 := Lib.hid z3
  have hmk : (m : Int) + (k : Int) = ((m + k : Nat) : Int) := by omega
  have HMK := Lib.hid hmk
  clear hx hy hx1 hy1 big bx bY z2 z3 st zx zy hmk
  go_enter Try.func11, Try.ntmps11
  go_wp2_with fail
  refine (shown02 _).mono ?_
  rintro e w0 ⟨rfl, b0⟩
  have p0 := cell_boxed b0 0
  have p1 := cell_boxed b0 1
  simp only [List.getElem?_toArray, List.getElem?_cons_zero, List.getElem?_cons_succ] at p0 p1
  have b0' := below_box b0
  go_wp2_with fail
  refine (put_row x m w0 hx0 hx2 (by omega) ZX.out).mono ?_
  rintro e w1 ⟨rfl, r1, b1⟩
  clear b0 p0 p1
  go_wp2_with fail
  refine (put_row y k w1 hy0 hy2 (by omega) ZY.out).mono ?_
  rintro e w2 ⟨rfl, r2, b2⟩
  have r1' := row_below r1 b2
  clear r1
  go_wp2_with fail
  rw [HMK.out]
  refine (put_row z (m + k) w2 z0 z1 (by omega) Z2.out).mono ?_
  rintro e w3 ⟨rfl, r3, b3⟩
  have r1 := row_below r1' b3
  have r2' := row_below r2 b3
  clear r1' r2
  have B3 := Lib.hid (below_next (below_next (below_next b0' b1 (Nat.le_refl _)) b2 (Nat.le_refl _)) b3 (Nat.le_refl _))
  clear b0' b1 b2 b3
  have ba : ∀ o, Below w3.heap.size w3 (w3.alloc o) := fun o => (Below.refl _ _).alloc (Nat.le_refl _) o
  go_wp2_with (first
    | (at_builtin
       refine wpList_append_bytes _ rfl (.tmp 69) (.tmp 70) rfl w3.heap.size _ 0 0 [] rfl rfl (own_lit w3 _ (Nat.le_refl _)) _ m m (be x m) (be_len x m) rfl (row_below r1 (ba _)) (by omega) (ba _).size ?_
       intro A1 cap1 w4 o1 b4
       have c4 := (ba _).trans b4)
    | (at_builtin
       refine wpList_append_bytes _ rfl (.tmp 71) (.tmp 72) rfl w3.heap.size A1 cap1 m ([] ++ be x m) (be_len x m) rfl o1 _ k k (be y k) (be_len y k) rfl (row_below r2' c4) (by omega) c4.size ?_
       intro A2 cap2 w5 o2 b5
       have c5 := c4.trans b5)
    | fail)
  have r := o2.row
  have e0 : [] ++ be x m ++ be y k = be z (m + k) := by rw [Z3.out]; rfl
  rw [e0] at r
  refine (take_row (m + k) cap2 (be_len z (m + k)) r (by omega)).mono ?_
  rintro e w6 ⟨rfl, rfl⟩
  rw [NZ.out]
  have k3 := conv_row (m + k) (m + k) (be_len _ _) (row_below r3 c5)
  have k1' := conv_row m m (be_len _ _) (row_below r1 c5)
  have k2' := conv_row k k (be_len _ _) (row_below r2' c5)
  have B := Lib.hid (below_next B3.out c5 (Nat.le_refl _))
  have l1 : (strOfNums (be x m)).size = m := by rw [strOfNums_size, be_len]
  have l2 : (strOfNums (be y k)).size = k := by rw [strOfNums_size, be_len]
  have st := ST.out
  have sa : (strOfNums (be x m) ++ strOfNums (be y k)).toList = (strOfNums (be x m)).toList ++ (strOfNums (be y k)).toList := by
    rw [Lib.toList_data, Lib.toList_data, Lib.toList_data]; simp
  clear r r1 r2' r3 o1 o2 b4 c4 b5 c5 ba e0
  go_wp2
  go_ret
  exact ⟨rfl, B.out⟩
end Go.Proofs.Ytchbejkmnbbakaa
