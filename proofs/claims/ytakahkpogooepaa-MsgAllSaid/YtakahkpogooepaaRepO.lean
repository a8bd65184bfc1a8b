/- A reply that was handed in. -/
import Derived.Test.YtakahkpogooepaaRepS
import Derived.Test.YtakahkpogooepaaMsgO
namespace Go.Proofs.Ytakahkpogooepaa
open Go.RowKit Go.WideShapes Go.ChangeShapes

theorem flat_rep (v : Value) (w : World) (base : Nat) (h : Value.okWide Try.prog w .any base 40 v) : ∃ (n0 : Int) (n1 : Int) (n2 : Int) (n3 : Int) (n4 : Int) (n5 : Int) (n6 : Int) (n7 : Int) (n8 : Int) (n9 : Int) (n10 : Int) (n11 : Int) (n12 : Int) (n13 : Int), v = .agg #[.int .i64 n0, .int .i64 n1, .int .i64 n2, .int .i64 n3, .int .i64 n4, .int .i64 n5, .int .u8 n6, .int .u8 n7, .int .u8 n8, .int .u8 n9, .int .u8 n10, .int .u8 n11, .int .u8 n12, .int .u8 n13] ∧ (-9223372036854775808 ≤ n0 ∧ n0 ≤ 9223372036854775807) ∧ (-9223372036854775808 ≤ n1 ∧ n1 ≤ 9223372036854775807) ∧ (-9223372036854775808 ≤ n2 ∧ n2 ≤ 9223372036854775807) ∧ (-9223372036854775808 ≤ n3 ∧ n3 ≤ 9223372036854775807) ∧ (-9223372036854775808 ≤ n4 ∧ n4 ≤ 9223372036854775807) ∧ (-9223372036854775808 ≤ n5 ∧ n5 ≤ 9223372036854775807) ∧ (0 ≤ n6 ∧ n6 ≤ 255) ∧ (0 ≤ n7 ∧ n7 ≤ 255) ∧ (0 ≤ n8 ∧ n8 ≤ 255) ∧ (0 ≤ n9 ∧ n9 ≤ 255) ∧ (0 ≤ n10 ∧ n10 ≤ 255) ∧ (0 ≤ n11 ∧ n11 ≤ 255) ∧ (0 ≤ n12 ∧ n12 ≤ 255) ∧ (0 ≤ n13 ∧ n13 ≤ 255) := by
  obtain ⟨cs, rfl, hs, hc⟩ := flat (ts := [3, 3, 3, 3, 3, 28, 5, 5, 5, 5, 5, 5, 5, 5]) (.inl ⟨_, Try.underlying40⟩) (by kernel_rfl) (by kernel_rfl) h
  obtain ⟨l⟩ := cs
  match l, hs with
  | [x0, x1, x2, x3, x4, x5, x6, x7, x8, x9, x10, x11, x12, x13], _ =>
    obtain ⟨n0, rfl, a0, b0⟩ := opn_i64 Try.underlying3 (hc 0 _ x0 rfl rfl)
    obtain ⟨n1, rfl, a1, b1⟩ := opn_i64 Try.underlying3 (hc 1 _ x1 rfl rfl)
    obtain ⟨n2, rfl, a2, b2⟩ := opn_i64 Try.underlying3 (hc 2 _ x2 rfl rfl)
    obtain ⟨n3, rfl, a3, b3⟩ := opn_i64 Try.underlying3 (hc 3 _ x3 rfl rfl)
    obtain ⟨n4, rfl, a4, b4⟩ := opn_i64 Try.underlying3 (hc 4 _ x4 rfl rfl)
    obtain ⟨n5, rfl, a5, b5⟩ := opn_i64 Try.underlying28 (hc 5 _ x5 rfl rfl)
    obtain ⟨n6, rfl, a6, b6⟩ := opn_u8 Try.underlying5 (hc 6 _ x6 rfl rfl)
    obtain ⟨n7, rfl, a7, b7⟩ := opn_u8 Try.underlying5 (hc 7 _ x7 rfl rfl)
    obtain ⟨n8, rfl, a8, b8⟩ := opn_u8 Try.underlying5 (hc 8 _ x8 rfl rfl)
    obtain ⟨n9, rfl, a9, b9⟩ := opn_u8 Try.underlying5 (hc 9 _ x9 rfl rfl)
    obtain ⟨n10, rfl, a10, b10⟩ := opn_u8 Try.underlying5 (hc 10 _ x10 rfl rfl)
    obtain ⟨n11, rfl, a11, b11⟩ := opn_u8 Try.underlying5 (hc 11 _ x11 rfl rfl)
    obtain ⟨n12, rfl, a12, b12⟩ := opn_u8 Try.underlying5 (hc 12 _ x12 rfl rfl)
    obtain ⟨n13, rfl, a13, b13⟩ := opn_u8 Try.underlying5 (hc 13 _ x13 rfl rfl)
    exact ⟨n0, n1, n2, n3, n4, n5, n6, n7, n8, n9, n10, n11, n12, n13, rfl, ⟨a0, b0⟩, ⟨a1, b1⟩, ⟨a2, b2⟩, ⟨a3, b3⟩, ⟨a4, b4⟩, ⟨a5, b5⟩, ⟨a6, b6⟩, ⟨a7, b7⟩, ⟨a8, b8⟩, ⟨a9, b9⟩, ⟨a10, b10⟩, ⟨a11, b11⟩, ⟨a12, b12⟩, ⟨a13, b13⟩⟩
theorem rep_of (v : Value) (w : World) (base : Nat) (h : Value.okWide Try.prog w .any base 40 v) : ∃ l, IsRepL l ∧ v = .agg (repV l) := by
  obtain ⟨n0, n1, n2, n3, n4, n5, n6, n7, n8, n9, n10, n11, n12, n13, rfl, -, -, -, -, -, -, h6, h7, h8, h9, h10, h11, h12, h13⟩ := flat_rep v w base h
  refine ⟨[n0, n1, n2, n3, n4, n5, n6, n7, n8, n9, n10, n11, n12, n13], ⟨rfl, fun i hi h14 => ?_⟩, rfl⟩
  have hh : i = 6 ∨ i = 7 ∨ i = 8 ∨ i = 9 ∨ i = 10 ∨ i = 11 ∨ i = 12 ∨ i = 13 := by omega
  rcases hh with rfl | rfl | rfl | rfl | rfl | rfl | rfl | rfl
  · exact h6
  · exact h7
  · exact h8
  · exact h9
  · exact h10
  · exact h11
  · exact h12
  · exact h13
end Go.Proofs.Ytakahkpogooepaa
