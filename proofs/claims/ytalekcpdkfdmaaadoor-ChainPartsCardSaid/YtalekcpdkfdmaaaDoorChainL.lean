/- The head of the laws of chapter 23; records. -/
import Derived.Test.YtalekcpdkfdmaaaDoorChain
import Derived.Test.YtalekcpdkfdmaaaDoorShaL
namespace Go.Proofs.YtalekcpdkfdmaaaDoor
open Go.RowKit

theorem i64_maskN (k : Nat) (hk : k ≤ 62) (n m : Int) (hm : m = ((2 ^ k - 1 : Nat) : Int)) : bits .and .i64 n m = n % 2 ^ k := by
  subst hm
  have hp : 0 < 2 ^ k := Nat.two_pow_pos k
  have hp2 : 2 ^ k ≤ 2 ^ 62 := Nat.pow_le_pow_right (by omega) hk
  have e1 : (BitVec.ofInt 64 ((2 ^ k - 1 : Nat) : Int)).toNat = 2 ^ k - 1 := by
    rw [BitVec.ofInt_natCast, BitVec.toNat_ofNat]
    exact Nat.mod_eq_of_lt (by omega)
  have e2 : (BitVec.ofInt 64 n &&& BitVec.ofInt 64 ((2 ^ k - 1 : Nat) : Int)).toNat = (n % 18446744073709551616).toNat % 2 ^ k := by
    rw [BitVec.toNat_and, e1, Nat.and_two_pow_sub_one_eq_mod, BitVec.toNat_ofInt]
    rfl
  have e3 : (((n % 18446744073709551616).toNat % 2 ^ k : Nat) : Int) = n % 2 ^ k := by
    have hd : ((2 : Int) ^ k) ∣ 18446744073709551616 := by
      have : (18446744073709551616 : Int) = 2 ^ k * 2 ^ (64 - k) := by rw [← Int.pow_add, show k + (64 - k) = 64 by omega]; rfl
      exact ⟨_, this⟩
    rw [Int.natCast_emod, Int.toNat_of_nonneg (by omega), Int.natCast_pow]
    exact Int.emod_emod_of_dvd n hd
  have h4 : (n % 18446744073709551616).toNat % 2 ^ k < 2 ^ k := Nat.mod_lt _ hp
  show IntKind.i64.wrap ((BitVec.ofInt 64 n &&& BitVec.ofInt 64 ((2 ^ k - 1 : Nat) : Int)).toNat : Int) = _
  rw [e2, IntWalk.i64_in _ (by omega), e3]
theorem and255 (n : Int) : bits .and .i64 n 255 = n % 256 := i64_maskN 8 (by omega) n 255 (by decide)
theorem and65535 (n : Int) : bits .and .i64 n 65535 = n % 65536 := i64_maskN 16 (by omega) n 65535 (by decide)
theorem and4294967295 (n : Int) : bits .and .i64 n 4294967295 = n % 4294967296 := i64_maskN 32 (by omega) n 4294967295 (by decide)
theorem build_b32 : Tryd.prog.built 28 [] = some (u8V (zeros 32)) := by kernel_rfl
theorem eql_b10 (x y : List Int) (hx : x.length = 10) (hy : y.length = 10) (W : World) : (binOp .eql 44 (.agg (u8V x)) (.agg (u8V y))).run Tryd.prog W = .ok (.bool (decide (x = y))) W := by
  obtain ⟨i, hi⟩ := info_u8e
  have := run_eq_u8 Tryd.underlying44 Tryd.underlying5 (by kernel_rfl) hi 9998 x y hx hy W
  simp [go_sem, this]
set_option maxHeartbeats 1000000 in
theorem eql_rec (a b c d e f a' b' c' d' e' f' : Int) (W : World) :
    (binOp .eql 48 (.agg #[.int .i64 a, .int .i64 b, .int .i64 c, .int .i64 d, .int .i64 e, .int .i64 f]) (.agg #[.int .i64 a', .int .i64 b', .int .i64 c', .int .i64 d', .int .i64 e', .int .i64 f'])).run Tryd.prog W = .ok (.bool (decide (a = a' ∧ b = b' ∧ c = c' ∧ d = d' ∧ e = e' ∧ f = f'))) W := by
  by_cases e1 : a = a'
  · by_cases e2 : b = b'
    · by_cases e3 : c = c'
      · by_cases e4 : d = d'
        · by_cases e5 : e = e'
          · by_cases e6 : f = f'
            · simp [go_sem, e1, e2, e3, e4, e5, e6]
            · simp [go_sem, e1, e2, e3, e4, e5, e6]
          · simp [go_sem, e1, e2, e3, e4, e5]
        · simp [go_sem, e1, e2, e3, e4]
      · simp [go_sem, e1, e2, e3]
    · simp [go_sem, e1, e2]
  · simp [go_sem, e1]
theorem be_mod_inj (k : Nat) (a b : Int) : be (a % 256 ^ k) k = be (b % 256 ^ k) k ↔ a % 256 ^ k = b % 256 ^ k := by
  have hp := pow256_pos k
  exact be_inj k _ _ (Int.emod_nonneg _ (by omega)) (Int.emod_nonneg _ (by omega)) (Int.emod_lt_of_pos _ hp) (Int.emod_lt_of_pos _ hp)
theorem recB_inj (k s q e c h k' s' q' e' c' h' : Int) : recB k s q e c h = recB k' s' q' e' c' h' ↔ (k % 256 = k' % 256 ∧ s % 256 = s' % 256 ∧ q % 4294967296 = q' % 4294967296 ∧ e % 65536 = e' % 65536 ∧ c % 256 = c' % 256 ∧ h % 256 = h' % 256) := by
  constructor
  · intro hh
    unfold recB at hh
    obtain ⟨hh, h6⟩ := List.append_inj' hh (by simp [be_len])
    obtain ⟨hh, h5⟩ := List.append_inj' hh (by simp [be_len])
    obtain ⟨hh, h4⟩ := List.append_inj' hh (by simp [be_len])
    obtain ⟨hh, h3⟩ := List.append_inj' hh (by simp [be_len])
    obtain ⟨h1, h2⟩ := List.append_inj' hh (by simp [be_len])
    exact ⟨(be_mod_inj 1 k k').1 h1, (be_mod_inj 1 s s').1 h2, (be_mod_inj 4 q q').1 h3, (be_mod_inj 2 e e').1 h4, (be_mod_inj 1 c c').1 h5, (be_mod_inj 1 h h').1 h6⟩
  · rintro ⟨h1, h2, h3, h4, h5, h6⟩
    unfold recB
    rw [h1, h2, h3, h4, h5, h6]
theorem flat_rec (v : Value) (w : World) (base : Nat) (h : Value.okWide Tryd.prog w .any base 48 v) : ∃ (n0 : Int) (n1 : Int) (n2 : Int) (n3 : Int) (n4 : Int) (n5 : Int), v = .agg #[.int .i64 n0, .int .i64 n1, .int .i64 n2, .int .i64 n3, .int .i64 n4, .int .i64 n5] ∧ (-9223372036854775808 ≤ n0 ∧ n0 ≤ 9223372036854775807) ∧ (-9223372036854775808 ≤ n1 ∧ n1 ≤ 9223372036854775807) ∧ (-9223372036854775808 ≤ n2 ∧ n2 ≤ 9223372036854775807) ∧ (-9223372036854775808 ≤ n3 ∧ n3 ≤ 9223372036854775807) ∧ (-9223372036854775808 ≤ n4 ∧ n4 ≤ 9223372036854775807) ∧ (-9223372036854775808 ≤ n5 ∧ n5 ≤ 9223372036854775807) := by
  obtain ⟨cs, rfl, hs, hc⟩ := flat (ts := [3, 3, 3, 3, 46, 3]) (.inl ⟨_, Tryd.underlying48⟩) (by kernel_rfl) (by kernel_rfl) h
  obtain ⟨l⟩ := cs
  match l, hs with
  | [x0, x1, x2, x3, x4, x5], _ =>
    obtain ⟨n0, rfl, a0, b0⟩ := opn_i64 Tryd.underlying3 (hc 0 _ x0 rfl rfl)
    obtain ⟨n1, rfl, a1, b1⟩ := opn_i64 Tryd.underlying3 (hc 1 _ x1 rfl rfl)
    obtain ⟨n2, rfl, a2, b2⟩ := opn_i64 Tryd.underlying3 (hc 2 _ x2 rfl rfl)
    obtain ⟨n3, rfl, a3, b3⟩ := opn_i64 Tryd.underlying3 (hc 3 _ x3 rfl rfl)
    obtain ⟨n4, rfl, a4, b4⟩ := opn_i64 Tryd.underlying46 (hc 4 _ x4 rfl rfl)
    obtain ⟨n5, rfl, a5, b5⟩ := opn_i64 Tryd.underlying3 (hc 5 _ x5 rfl rfl)
    exact ⟨n0, n1, n2, n3, n4, n5, rfl, ⟨a0, b0⟩, ⟨a1, b1⟩, ⟨a2, b2⟩, ⟨a3, b3⟩, ⟨a4, b4⟩, ⟨a5, b5⟩⟩

set_option maxRecDepth 100000 in
set_option maxHeartbeats 400000 in
theorem of_nil (w : World) : Calls Tryd.prog 32 #[.slice none 0 0] w fun e w' => e = .returned (.agg (u8V (zeros 32))) ∧ Below w.heap.size w w' := by
  have BB := Lib.hid (Below.refl w.heap.size w)
  go_enter Tryd.func32, Tryd.ntmps32
  go_wp2_with ((with_reducible show wpList _ _ _ (⟨_, .alloc 28, _, _, _, none⟩ :: _) _ _); (with_reducible refine wpRow_alloc zeroT_b32 ?_ ?_ ?_); (· exact wanted0 rfl); (· rfl); refine Marker.mk ?_)
  refine Marker.in ?_
  have K2 := Lib.hid (Blk.new w (u8V (zeros 32)) 28)
  replace BB := Lib.hid (below_alloc1 w (.cells (u8V (zeros 32)) 28))
  generalize w.alloc (.cells (u8V (zeros 32)) 28) = w1 at *
  have l1 := K2.out.lt
  go_wp2_with ((with_reducible show wpList _ _ _ (⟨_, .alloc 28, _, _, _, none⟩ :: _) _ _); (with_reducible refine wpRow_alloc zeroT_b32 ?_ ?_ ?_); (· exact wanted0 rfl); (· rfl); refine Marker.mk ?_)
  refine Marker.in ?_
  have bel := below_alloc1 w1 (.cells (u8V (zeros 32)) 28)
  replace K2 := Lib.hid (K2.out.below bel)
  replace BB := Lib.hid (bt BB.out bel)
  have K3 := Lib.hid (Blk.new w1 (u8V (zeros 32)) 28)
  clear bel
  generalize w1.alloc (.cells (u8V (zeros 32)) 28) = w2 at *
  generalize w1.heap.size = g3 at *
  go_wp2_with fail
  refine wp_loop_rounds 1 ?_
  rw [rounds_succ]
  go_wp2_with (first | ((with_reducible show wpList _ _ _ (⟨_, .load 28 _, _, _, _, none⟩ :: _) _ _); (with_reducible refine wpBlk_load (g := g3) agg_b32 ?_ ?_ K3 ?_ ?_); (· exact wanted0 rfl); (· exact ⟨rfl, rfl⟩); (· rw [u8V_size, zeros_len])) | ((with_reducible show wpList _ _ _ (⟨_, .store 28 _ _, _, _, _, none⟩ :: _) _ _); (with_reducible refine wpBlk_store (g := w.heap.size) (cs := u8V (zeros 32)) agg_b32 ?_ ?_ K2 ?_ ?_ ?_ ?_); (· exact wanted0 rfl); (· exact ⟨rfl, rfl, rfl⟩); (· rw [u8V_size, zeros_len]); (· rw [u8V_size, zeros_len]); (· exact u8V_one _); refine Marker.mk ?_))
  refine Marker.in ?_
  go_wp2_with fail
  refine bodyPost_ret (v := .agg (u8V (zeros 32))) (results_blk agg_b32 rfl _ _ w.heap.size _ rfl (K2.out.setRow (u8V (zeros 32))) (by rw [u8V_size, zeros_len])) rfl ⟨rfl, below_setRow BB.out (by omega) _⟩
set_option maxRecDepth 100000 in
set_option maxHeartbeats 400000 in
theorem shown23 (w : World) : Calls Tryd.prog 30 #[] w fun e w' => e = .returned (.bool true) ∧ Below w.heap.size w w' := by
  have e1 : recB 8 2 258 3 4 5 = [8, 2, 0, 0, 1, 2, 0, 3, 4, 5] := by decide
  have EQ := eql_b32_self (zeros 32) (zeros_len 32)
  have EQ2 : ∀ W, (binOp .eql 44 (.agg (u8V [8, 2, 0, 0, 1, 2, 0, 3, 4, 5])) (.agg #[.int .u8 8, .int .u8 2, .int .u8 0, .int .u8 0, .int .u8 1, .int .u8 2, .int .u8 0, .int .u8 3, .int .u8 4, .int .u8 5])).run Tryd.prog W = .ok (.bool true) W := fun W => eql_b10 [8, 2, 0, 0, 1, 2, 0, 3, 4, 5] [8, 2, 0, 0, 1, 2, 0, 3, 4, 5] rfl rfl W
  have BB := Lib.hid (Below.refl w.heap.size w)
  go_enter Tryd.func30, Tryd.ntmps30
  go_wp2_with fail
  ((with_reducible refine (of_nil _).mono ?_))
  rintro e w1 ⟨rfl, b1⟩
  replace BB := Lib.hid (bt BB.out b1)
  clear b1
  go_wp2_with ((with_reducible show wpList _ _ _ (⟨some 2, _, _, _, _, _⟩ :: _) _ _); refine wpList_build' rfl 28 #[] rfl (u8V (zeros 32)) build_b32 ?_)
  ((with_reducible refine (rec_any 8 2 258 3 4 5 _).mono ?_))
  rintro e w2 ⟨rfl, b2⟩
  replace BB := Lib.hid (bt BB.out b2)
  rw [e1]
  clear b2 e1 EQ
  go_wp2_with fail
  go_ret
  exact ⟨rfl, BB.out⟩
set_option maxRecDepth 100000 in
set_option maxHeartbeats 400000 in
theorem small_any (k s q e c h : Int) (w : World) :
    Calls Tryd.prog 35 #[.agg #[.int .i64 k, .int .i64 s, .int .i64 q, .int .i64 e, .int .i64 c, .int .i64 h]] w fun e' w' => e' = .returned (.agg #[.int .i64 (k % 256), .int .i64 (s % 256), .int .i64 (q % 4294967296), .int .i64 (e % 65536), .int .i64 (c % 256), .int .i64 (h % 256)]) ∧ Below w.heap.size w w' := by
  have BB := Lib.hid (Below.refl w.heap.size w)
  go_enter Tryd.func35, Tryd.ntmps35
  go_wp2_with ((with_reducible show wpList _ _ _ (⟨_, .alloc 48, _, _, _, none⟩ :: _) _ _); (with_reducible refine wpRow_alloc zeroT_rec ?_ ?_ ?_); (· exact wanted0 rfl); (· rfl); refine Marker.mk ?_)
  refine Marker.in ?_
  have KR := Lib.hid ((Blk.new w #[.int .i64 k, .int .i64 s, .int .i64 q, .int .i64 e, .int .i64 c, .int .i64 h] 48).alloc (.cells (i64V (zeros 6)) 48))
  have K2 := Lib.hid (Blk.new' (w.alloc (.cells #[.int .i64 k, .int .i64 s, .int .i64 q, .int .i64 e, .int .i64 c, .int .i64 h] 48)) (i64V (zeros 6)) 48 (g := w.heap.size + 1) (by simp))
  replace BB := Lib.hid (below_alloc2 w (.cells #[.int .i64 k, .int .i64 s, .int .i64 q, .int .i64 e, .int .i64 c, .int .i64 h] 48) (.cells (i64V (zeros 6)) 48))
  generalize (w.alloc (.cells #[.int .i64 k, .int .i64 s, .int .i64 q, .int .i64 e, .int .i64 c, .int .i64 h] 48)).alloc (.cells (i64V (zeros 6)) 48) = w1 at *
  have g2e : w.heap.size ≤ w.heap.size + 1 := Nat.le_succ _
  generalize w.heap.size + 1 = g2 at *
  have ck := (blk_cells KR.out).1
  have a1 := and255 k
  have a2 := and255 s
  have a3 := and4294967295 q
  have a4 := and65535 e
  have a5 := and255 c
  have a6 := and255 h
  go_wp2_with ((with_reducible show wpList _ _ _ (⟨_, .store 48 _ _, _, _, _, none⟩ :: _) _ _); (with_reducible refine wpBlk_store (g := g2) (cs := #[.int .i64 (k % 256), .int .i64 (s % 256), .int .i64 (q % 4294967296), .int .i64 (e % 65536), .int .i64 (c % 256), .int .i64 (h % 256)]) agg_rec ?_ ?_ K2 ?_ ?_ ?_ ?_); (· exact wanted0 rfl); (· exact ⟨rfl, rfl, rfl⟩); (· rfl); (· rfl); (· simp [Value.oneCell']); refine Marker.mk ?_)
  refine Marker.in ?_
  clear ck a1 a2 a3 a4 a5 a6
  go_wp2_with fail
  refine bodyPost_ret (v := .agg #[.int .i64 (k % 256), .int .i64 (s % 256), .int .i64 (q % 4294967296), .int .i64 (e % 65536), .int .i64 (c % 256), .int .i64 (h % 256)]) (results_blk agg_rec rfl _ _ g2 _ rfl (K2.out.setRow _) rfl) rfl ⟨rfl, below_setRow BB.out (by omega) _⟩
end Go.Proofs.YtalekcpdkfdmaaaDoor
