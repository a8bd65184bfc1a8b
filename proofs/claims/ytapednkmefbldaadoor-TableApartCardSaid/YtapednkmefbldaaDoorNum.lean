/- Contracts of package num: Sat, Clamp, Toward, Has. -/
import Derived.Test.YtapednkmefbldaaDoorProg
import Derived.Test.YtapednkmefbldaaDoorBits
import Derived.WalkKit
import Derived.WalkSpells
import Derived.WalkLawsBesides
import Derived.Lib.Hide
namespace Go.Proofs.YtapednkmefbldaaDoor
open Go.RowKit

theorem ret_int {k : IntKind} {a b : Int} (h : a = b) : Ending.returned (.int k a) = .returned (.int k b) := by rw [h]
theorem ret_bool {a b : Bool} (h : a = b) : Ending.returned (.bool a) = .returned (.bool b) := by rw [h]

def sat (n most : Int) : Int := if n < most then n + 1 else most
def clamp (n low high : Int) : Int := if n < low then low else if high < n then high else n
def toward (now to_ by_ : Int) : Int :=
  if by_ < 1 then now
  else if now ≤ to_ then (if to_ - now ≤ by_ then to_ else now + by_)
  else if now - to_ ≤ by_ then to_ else now - by_
def has (set_ i : Int) : Bool := decide (0 ≤ set_ ∧ 0 ≤ i ∧ i ≤ 62) && (set_ / 2 ^ i.toNat % 2 == 1)

theorem u64_wrap (n : Int) : IntKind.u64.wrap n = n % 18446744073709551616 := by
  simp [IntKind.wrap, IntKind.bits, IntKind.signed]
theorem u64_sub (a b : Int) (h1 : -9223372036854775808 ≤ b) (h2 : a ≤ 9223372036854775807) (h : b ≤ a) :
    IntKind.u64.wrap (IntKind.u64.wrap a - IntKind.u64.wrap b) = a - b := by
  simp only [u64_wrap]; omega

set_option maxHeartbeats 400000 in
theorem sat_any (n most : Int) (w : World) (h1 : -9223372036854775808 ≤ n) (h3 : most ≤ 9223372036854775807) :
    Calls Tryd.prog 78 #[.int .i64 n, .int .i64 most] w fun e w' => e = .returned (.int .i64 (sat n most)) ∧ w = w' := by
  go_enter Tryd.func78, Tryd.ntmps78
  go_wp2
  all_goals
    go_ret
    refine ⟨ret_int ?_, rfl⟩
    unfold sat
    split <;> omega



end Go.Proofs.YtapednkmefbldaaDoor
