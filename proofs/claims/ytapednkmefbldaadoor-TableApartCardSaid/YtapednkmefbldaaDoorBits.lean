/- Small laws on int's bits: a mask of low bits is a remainder, whatever the sign. -/
import Derived.WalkKit
namespace Go.Proofs.YtapednkmefbldaaDoor

theorem i64_mask (k : Nat) (hk : k ≤ 62) (a : Int) (m : Int) (hm : m = ((2 ^ k - 1 : Nat) : Int)) : bits .and .i64 a m = a % (2 ^ k : Nat) := by
  subst hm
  have hp : 2 ^ k ≤ 2 ^ 62 := Nat.pow_le_pow_right (by omega) hk
  have hp0 : 0 < 2 ^ k := Nat.two_pow_pos k
  show IntKind.i64.wrap ((BitVec.ofInt 64 a &&& BitVec.ofInt 64 ((2 ^ k - 1 : Nat) : Int)).toNat : Int) = _
  rw [BitVec.toNat_and, BitVec.toNat_ofInt, BitVec.ofInt_natCast, BitVec.toNat_ofNat, Nat.mod_eq_of_lt (by omega), Nat.and_two_pow_sub_one_eq_mod]
  have e : (((a % ((2 ^ 64 : Nat) : Int)).toNat % 2 ^ k : Nat) : Int) = a % ((2 ^ k : Nat) : Int) := by
    rw [Int.natCast_emod, Int.toNat_of_nonneg (Int.emod_nonneg _ (by omega))]
    apply Int.emod_emod_of_dvd
    exact_mod_cast Nat.pow_dvd_pow 2 (by omega)
  rw [e]
  have h1 := Int.emod_nonneg a (b := ((2 ^ k : Nat) : Int)) (by omega)
  have h2 := Int.emod_lt_of_pos a (b := ((2 ^ k : Nat) : Int)) (by omega)
  exact IntWalk.i64_in _ (by omega)

theorem i64_and1 (a : Int) : bits .and .i64 a 1 = a % 2 := i64_mask 1 (by omega) a 1 rfl
theorem i64_and3 (a : Int) : bits .and .i64 a 3 = a % 4 := i64_mask 2 (by omega) a 3 rfl
theorem i64_and7 (a : Int) : bits .and .i64 a 7 = a % 8 := i64_mask 3 (by omega) a 7 rfl
theorem i64_and15 (a : Int) : bits .and .i64 a 15 = a % 16 := i64_mask 4 (by omega) a 15 rfl
theorem i64_and31 (a : Int) : bits .and .i64 a 31 = a % 32 := i64_mask 5 (by omega) a 31 rfl
theorem i64_and255 (a : Int) : bits .and .i64 a 255 = a % 256 := i64_mask 8 (by omega) a 255 rfl
theorem i64_and1023 (a : Int) : bits .and .i64 a 1023 = a % 1024 := i64_mask 10 (by omega) a 1023 rfl
theorem i64_and65535 (a : Int) : bits .and .i64 a 65535 = a % 65536 := i64_mask 16 (by omega) a 65535 rfl
theorem i64_and20 (a : Int) : bits .and .i64 a 1048575 = a % 1048576 := i64_mask 20 (by omega) a 1048575 rfl
theorem i64_and32 (a : Int) : bits .and .i64 a 4294967295 = a % 4294967296 := i64_mask 32 (by omega) a 4294967295 rfl
attribute [go_sem] i64_and1 i64_and3 i64_and7 i64_and15 i64_and31 i64_and255 i64_and1023 i64_and65535 i64_and20 i64_and32
end Go.Proofs.YtapednkmefbldaaDoor
