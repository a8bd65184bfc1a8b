/- sidestickref08.Fit, walked. -/
import Derived.Test.YtakahkpogooepaaMsgU
namespace Go.Proofs.Ytakahkpogooepaa
open Go.RowKit

theorem i64_maskN (k : Nat) (hk : k ≤ 62) (n m : Int) (hm : m = ((2 ^ k - 1 : Nat) : Int)) : bits .and .i64 n m = n % 2 ^ k := by
  subst hm
  have hp : 0 < 2 ^ k := Nat.two_pow_pos k
  have hp2 : 2 ^ k ≤ 2 ^ 62 := Nat.pow_le_pow_right (by omega) hk
  have e1 : (BitVec.ofInt 64 ((2 ^ k - 1 : Nat) : Int)).toNat = 2 ^ k - 1 := by
    rw [BitVec.ofInt_natCast, BitVec.toNat_ofNat]
    exact Nat.mod_eq_of_lt (by omega)
  have e2 : (BitVec.ofInt 64 n &&& BitVec.ofInt 64 ((2 ^ k - 1 : Nat) : Int)).toNat = (n % 18446744073709551616).toNat % 2 ^ k := by
    rw [BitVec.toNat_and, e1, Nat.and_two_pow_sub_one_eq_mod, BitVec.toNat_ofInt]
    rfl
  have e3 : (((n % 18446744073709551616).toNat % 2 ^ k : Nat) : Int) = n % 2 ^ k := by
    have hd : ((2 : Int) ^ k) ∣ 18446744073709551616 := by
      have : (18446744073709551616 : Int) = 2 ^ k * 2 ^ (64 - k) := by rw [← Int.pow_add, show k + (64 - k) = 64 by omega]; rfl
      exact ⟨_, this⟩
    rw [Int.natCast_emod, Int.toNat_of_nonneg (by omega), Int.natCast_pow]
    exact Int.emod_emod_of_dvd n hd
  have h4 : (n % 18446744073709551616).toNat % 2 ^ k < 2 ^ k := Nat.mod_lt _ hp
  show IntKind.i64.wrap ((BitVec.ofInt 64 n &&& BitVec.ofInt 64 ((2 ^ k - 1 : Nat) : Int)).toNat : Int) = _
  rw [e2, IntWalk.i64_in _ (by omega), e3]
theorem and65535 (n : Int) : bits .and .i64 n 65535 = n % 65536 := i64_maskN 16 (by omega) n 65535 (by decide)
theorem and4294967295 (n : Int) : bits .and .i64 n 4294967295 = n % 4294967296 := i64_maskN 32 (by omega) n 4294967295 (by decide)
theorem and3 (n : Int) : bits .and .i64 n 3 = n % 4 := i64_maskN 2 (by omega) n 3 (by decide)
theorem rem_twice (n m : Int) (hm : 0 < m) : n.tmod m % m = n % m ∧ -m < n.tmod m ∧ n.tmod m < m := by
  have h3 : n.tmod m < m := Int.tmod_lt_of_pos n hm
  have h4 : -m < n.tmod m := by
    rcases Int.le_total 0 n with h | h
    · have := Int.tmod_nonneg m h; omega
    · have h5 := Int.tmod_lt_of_pos (-n) hm
      rw [Int.neg_tmod] at h5
      omega
  refine ⟨?_, h4, h3⟩
  have h6 := Int.mul_tdiv_add_tmod n m
  have h7 : n % m = (n.tmod m + m * n.tdiv m) % m := by rw [Int.add_comm, h6]
  rw [h7, Int.add_mul_emod_self_left]
theorem named_any (a0 a1 a2 a3 a4 a5 a6 a7 a8 a9 a10 a11 : Int) (w : World) (h1 : 1 ≤ a0) (h2 : a0 ≤ 11) :
    Calls Try.prog 21 #[.agg #[.int .i64 a0, .int .i64 a1, .int .i64 a2, .int .i64 a3, .int .i64 a4, .int .i64 a5, .int .i64 a6, .bool (a7 == 1), .int .i64 a8, .int .i64 a9, .int .i64 a10, .int .i64 a11]] w fun e' w' => e' = .returned (.agg (msgV (named12 a0 a1 a2 a3 a4 a5 a6 a7 a8 a9 a10 a11))) ∧ Below w.heap.size w w' := by
  have h : a0 = 1 ∨ a0 = 2 ∨ a0 = 3 ∨ a0 = 4 ∨ a0 = 5 ∨ a0 = 6 ∨ a0 = 7 ∨ a0 = 8 ∨ a0 = 9 ∨ a0 = 10 ∨ a0 = 11 := by omega
  rcases h with rfl | rfl | rfl | rfl | rfl | rfl | rfl | rfl | rfl | rfl | rfl
  · exact named_1 a1 a2 a3 a4 a5 a6 a7 a8 a9 a10 a11 w
  · exact named_2 a1 a2 a3 a4 a5 a6 a7 a8 a9 a10 a11 w
  · exact named_3 a1 a2 a3 a4 a5 a6 a7 a8 a9 a10 a11 w
  · exact named_4 a1 a2 a3 a4 a5 a6 a7 a8 a9 a10 a11 w
  · exact named_5 a1 a2 a3 a4 a5 a6 a7 a8 a9 a10 a11 w
  · exact named_6 a1 a2 a3 a4 a5 a6 a7 a8 a9 a10 a11 w
  · exact named_7 a1 a2 a3 a4 a5 a6 a7 a8 a9 a10 a11 w
  · exact named_8 a1 a2 a3 a4 a5 a6 a7 a8 a9 a10 a11 w
  · exact named_9 a1 a2 a3 a4 a5 a6 a7 a8 a9 a10 a11 w
  · exact named_10 a1 a2 a3 a4 a5 a6 a7 a8 a9 a10 a11 w
  · exact named_11 a1 a2 a3 a4 a5 a6 a7 a8 a9 a10 a11 w
def fitL (l : List Int) : List Int := match l with
  | [a0, a1, a2, a3, a4, a5, a6, a7, a8, a9, a10, a11] => named12 (1 + a0 % 11) (a1 % 4294967296) (a2 % 4) (a3 % 5) (a4 % 65536) (a5 % 5) (1 + a6 % 3) a7 (a8 % 65536 - 32768) (a9 % 65536 - 32768) (a10 % 65536 - 32768) (a11 % 65536 - 32768)
  | _ => l
set_option maxRecDepth 100000 in
set_option maxHeartbeats 3200000 in
theorem fit_lit (a0 a1 a2 a3 a4 a5 a6 a7 a8 a9 a10 a11 : Int) (w : World) :
    Calls Try.prog 10 #[.agg #[.int .i64 a0, .int .i64 a1, .int .i64 a2, .int .i64 a3, .int .i64 a4, .int .i64 a5, .int .i64 a6, .bool (a7 == 1), .int .i64 a8, .int .i64 a9, .int .i64 a10, .int .i64 a11]] w fun e' w' => e' = .returned (.agg (msgV (named12 (1 + a0 % 11) (a1 % 4294967296) (a2 % 4) (a3 % 5) (a4 % 65536) (a5 % 5) (1 + a6 % 3) a7 (a8 % 65536 - 32768) (a9 % 65536 - 32768) (a10 % 65536 - 32768) (a11 % 65536 - 32768)))) ∧ Below w.heap.size w w' := by
  obtain ⟨u0, v0, y0⟩ := rem_twice a0 11 (by omega)
  obtain ⟨u3, v3, y3⟩ := rem_twice a3 5 (by omega)
  obtain ⟨u5, v5, y5⟩ := rem_twice a5 5 (by omega)
  obtain ⟨u6, v6, y6⟩ := rem_twice a6 3 (by omega)
  have CN := Lib.hid (fun W => named_any (1 + a0 % 11) (a1 % 4294967296) (a2 % 4) (a3 % 5) (a4 % 65536) (a5 % 5) (1 + a6 % 3) a7 (a8 % 65536 - 32768) (a9 % 65536 - 32768) (a10 % 65536 - 32768) (a11 % 65536 - 32768) W (by omega) (by omega))
  rw [← u0, ← u3, ← u5, ← u6] at CN
  have p0 : 0 ≤ (a0.tmod 11 % 11) := by rw [u0]; omega
  have q0 : (a0.tmod 11 % 11) ≤ 10 := by rw [u0]; omega
  have p6 : 0 ≤ (a6.tmod 3 % 3) := by rw [u6]; omega
  have q6 : (a6.tmod 3 % 3) ≤ 2 := by rw [u6]; omega
  rw [← u0, ← u3, ← u5, ← u6]
  obtain ⟨b, hb⟩ : ∃ b, b = (a7 == 1) := ⟨_, rfl⟩
  rw [← hb] at CN ⊢
  clear hb u0 u3 u5 u6
  generalize hres : msgV (named12 _ _ _ _ _ _ _ _ _ _ _ _) = res at *
  have RS : Hid (res.size = 12) := Lib.hid (by rw [← hres]; exact msgV_size _)
  have RO := Lib.hid (show (res.all (·.oneCell')) = true by rw [← hres]; exact msgV_one _)
  clear hres
  have m1 := and4294967295 a1
  have m2 := and3 a2
  have m4 := and65535 a4
  have m8 := and65535 a8
  have m9 := and65535 a9
  have m10 := and65535 a10
  have m11 := and65535 a11
  go_enter Try.func10, Try.ntmps10
  go_wp2_with fail
  refine wp_loop_rounds 5 ?_
  rw [rounds_succ]
  go_wp2_with fail
  rw [rounds_succ]
  go_wp2_with fail
  rw [rounds_succ]
  go_wp2_with fail
  rw [rounds_succ]
  go_wp2_with fail
  rw [rounds_succ]
  go_wp2_with fail
  have ZB := Lib.hid (below_alloc2 w (.cells #[.int .i64 (1 + (a0.tmod 11 % 11)), .int .i64 (a1 % 4294967296), .int .i64 (a2 % 4), .int .i64 (a3.tmod 5 % 5), .int .i64 (a4 % 65536), .int .i64 (a5.tmod 5 % 5), .int .i64 (1 + (a6.tmod 3 % 3)), .bool b, .int .i64 (a8 % 65536 - 32768), .int .i64 (a9 % 65536 - 32768), .int .i64 (a10 % 65536 - 32768), .int .i64 (a11 % 65536 - 32768)] 24) (.cells #[.int .i64 0, .int .i64 0, .int .i64 0, .int .i64 0, .int .i64 0, .int .i64 0, .int .i64 0, .bool false, .int .i64 0, .int .i64 0, .int .i64 0, .int .i64 0] 24))
  have KZ := Lib.hid (Blk.new' (w.alloc (.cells #[.int .i64 (1 + (a0.tmod 11 % 11)), .int .i64 (a1 % 4294967296), .int .i64 (a2 % 4), .int .i64 (a3.tmod 5 % 5), .int .i64 (a4 % 65536), .int .i64 (a5.tmod 5 % 5), .int .i64 (1 + (a6.tmod 3 % 3)), .bool b, .int .i64 (a8 % 65536 - 32768), .int .i64 (a9 % 65536 - 32768), .int .i64 (a10 % 65536 - 32768), .int .i64 (a11 % 65536 - 32768)] 24)) #[.int .i64 0, .int .i64 0, .int .i64 0, .int .i64 0, .int .i64 0, .int .i64 0, .int .i64 0, .bool false, .int .i64 0, .int .i64 0, .int .i64 0, .int .i64 0] 24 (g := w.heap.size + 1) (by simp))
  ((with_reducible refine (CN.out _).mono ?_))
  rintro e' w2 ⟨rfl, b2⟩
  replace KZ := Lib.hid (KZ.out.below b2)
  replace ZB := Lib.hid (bt ZB.out b2)
  clear b2
  go_wp2_with ((with_reducible show wpList _ _ _ (⟨_, .store 24 _ _, _, _, _, none⟩ :: _) _ _); (with_reducible refine wpBlk_store (g := w.heap.size + 1) (cs := res) agg_msg ?_ ?_ KZ ?_ ?_ ?_ ?_); (· exact wanted0 rfl); (· exact ⟨rfl, rfl, rfl⟩); (· rfl); (· exact RS.out); (· exact RO.out))
  refine bodyPost_ret (v := .agg res) (results_blk agg_msg rfl _ _ (w.heap.size + 1) _ rfl (KZ.out.setRow _) RS.out) rfl ⟨rfl, below_setRow ZB.out (by omega) _⟩
theorem fit_msg (l : List Int) (hl : IsMsgL l) (w : World) : Calls Try.prog 10 #[.agg (msgV l)] w fun e' w' => e' = .returned (.agg (msgV (fitL l))) ∧ Below w.heap.size w w' := by
  obtain ⟨h1, -⟩ := hl
  match l, h1 with
  | [a0, a1, a2, a3, a4, a5, a6, a7, a8, a9, a10, a11], _ => exact fit_lit a0 a1 a2 a3 a4 a5 a6 a7 a8 a9 a10 a11 w
end Go.Proofs.Ytakahkpogooepaa
