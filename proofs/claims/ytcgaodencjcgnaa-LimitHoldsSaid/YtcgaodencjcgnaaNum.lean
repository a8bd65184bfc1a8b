/- Contracts of package num: Sat, Clamp, Toward, Has. -/
import Derived.Test.YtcgaodencjcgnaaProg
import Derived.Test.YtcgaodencjcgnaaBits
import Derived.WalkKit
import Derived.WalkSpells
import Derived.WalkLawsBesides
import Derived.Lib.Hide
namespace Go.Proofs.Ytcgaodencjcgnaa
open Go.RowKit

theorem ret_int {k : IntKind} {a b : Int} (h : a = b) : Ending.returned (.int k a) = .returned (.int k b) := by rw [h]
theorem ret_bool {a b : Bool} (h : a = b) : Ending.returned (.bool a) = .returned (.bool b) := by rw [h]

def sat (n most : Int) : Int := if n < most then n + 1 else most
def clamp (n low high : Int) : Int := if n < low then low else if high < n then high else n
def toward (now to_ by_ : Int) : Int :=
  if by_ < 1 then now
  else if now ≤ to_ then (if to_ - now ≤ by_ then to_ else now + by_)
  else if now - to_ ≤ by_ then to_ else now - by_
def has (set_ i : Int) : Bool := decide (0 ≤ set_ ∧ 0 ≤ i ∧ i ≤ 62) && (set_ / 2 ^ i.toNat % 2 == 1)

theorem u64_wrap (n : Int) : IntKind.u64.wrap n = n % 18446744073709551616 := by
  simp [IntKind.wrap, IntKind.bits, IntKind.signed]
theorem u64_sub (a b : Int) (h1 : -9223372036854775808 ≤ b) (h2 : a ≤ 9223372036854775807) (h : b ≤ a) :
    IntKind.u64.wrap (IntKind.u64.wrap a - IntKind.u64.wrap b) = a - b := by
  simp only [u64_wrap]; omega

set_option maxHeartbeats 400000 in
theorem sat_any (n most : Int) (w : World) (h1 : -9223372036854775808 ≤ n) (h3 : most ≤ 9223372036854775807) :
    Calls Try.prog 9 #[.int .i64 n, .int .i64 most] w fun e w' => e = .returned (.int .i64 (sat n most)) ∧ w = w' := by
  go_enter Try.func9, Try.ntmps9
  go_wp2
  all_goals
    go_ret
    refine ⟨ret_int ?_, rfl⟩
    unfold sat
    split <;> omega

set_option maxHeartbeats 400000 in
theorem clamp_any (n low high : Int) (w : World) :
    Calls Try.prog 8 #[.int .i64 n, .int .i64 low, .int .i64 high] w fun e w' => e = .returned (.int .i64 (clamp n low high)) ∧ w = w' := by
  go_enter Try.func8, Try.ntmps8
  go_wp2
  all_goals
    go_ret
    refine ⟨ret_int ?_, rfl⟩
    unfold clamp
    repeat' split
    all_goals omega

set_option maxHeartbeats 400000 in
theorem toward_any (now to_ by_ : Int) (w : World) (h1 : -9223372036854775808 ≤ now) (h2 : now ≤ 9223372036854775807) (h3 : -9223372036854775808 ≤ to_) (h4 : to_ ≤ 9223372036854775807)
    (h5 : -9223372036854775808 ≤ by_) (h6 : by_ ≤ 9223372036854775807) :
    Calls Try.prog 10 #[.int .i64 now, .int .i64 to_, .int .i64 by_] w fun e w' => e = .returned (.int .i64 (toward now to_ by_)) ∧ w = w' := by
  by_cases hc : now ≤ to_
  · have e1 := u64_sub to_ now h1 h4 hc
    go_enter Try.func10, Try.ntmps10
    go_wp2
    all_goals
      go_ret
      refine ⟨ret_int ?_, rfl⟩
      unfold toward
      repeat' split
      all_goals omega
  · have e1 := u64_sub now to_ h3 h2 (by omega)
    go_enter Try.func10, Try.ntmps10
    go_wp2
    all_goals
      go_ret
      refine ⟨ret_int ?_, rfl⟩
      unfold toward
      repeat' split
      all_goals omega

set_option maxHeartbeats 400000 in
theorem has_any (set_ i : Int) (w : World) (h1 : -9223372036854775808 ≤ set_) (h2 : set_ ≤ 9223372036854775807) :
    Calls Try.prog 15 #[.int .i64 set_, .int .i64 i] w fun e w' => e = .returned (.bool (has set_ i)) ∧ w = w' := by
  go_enter Try.func15, Try.ntmps15
  go_wp2
  all_goals
    go_ret
    refine ⟨ret_bool ?_, rfl⟩
    unfold has
  · rw [decide_eq_false (by omega)]; rfl
  · rw [decide_eq_true (by omega)]; rfl
  · rw [decide_eq_false (by omega)]; rfl
  · rw [decide_eq_false (by omega)]; rfl
end Go.Proofs.Ytcgaodencjcgnaa
