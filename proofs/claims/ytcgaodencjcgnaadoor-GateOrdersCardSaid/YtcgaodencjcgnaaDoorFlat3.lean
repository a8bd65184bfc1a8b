/- [3]byte by value. -/
import Derived.Test.YtcgaodencjcgnaaDoorOpen
import Derived.Test.YtcgaodencjcgnaaDoorProg
namespace Go.Proofs.YtcgaodencjcgnaaDoor
open Go.RowKit

theorem flat_three (v : Value) (w : World) (base : Nat) (h : Value.okWide Tryd.prog w .any base 44 v) : ∃ a b c : Int, v = .agg #[.int .u8 a, .int .u8 b, .int .u8 c] ∧ 0 ≤ a ∧ a ≤ 255 ∧ 0 ≤ b ∧ b ≤ 255 ∧ 0 ≤ c ∧ c ≤ 255 := by
  obtain ⟨cs, rfl, hs, hc⟩ := flat (ts := [5, 5, 5]) (.inr ⟨_, _, Tryd.underlying44⟩) (by kernel_rfl) (by kernel_rfl) h
  obtain ⟨l⟩ := cs
  match l, hs with
  | [x, y, z], _ =>
    obtain ⟨a, rfl, a1, a2⟩ := opn_u8 Tryd.underlying5 (hc 0 _ x rfl rfl)
    obtain ⟨b, rfl, b1, b2⟩ := opn_u8 Tryd.underlying5 (hc 1 _ y rfl rfl)
    obtain ⟨c, rfl, c1, c2⟩ := opn_u8 Tryd.underlying5 (hc 2 _ z rfl rfl)
    exact ⟨a, b, c, rfl, a1, a2, b1, b2, c1, c2⟩

end Go.Proofs.YtcgaodencjcgnaaDoor
