/- A message that was handed in. -/
import Derived.Test.YtakahkpogooepaaMsgS
import Derived.Test.YtakahkpogooepaaOpen
namespace Go.Proofs.Ytakahkpogooepaa
open Go.RowKit Go.WideShapes Go.ChangeShapes

set_option maxRecDepth 100000 in
theorem flat_msg (v : Value) (w : World) (base : Nat) (h : Value.okWide Try.prog w .any base 24 v) : ∃ (n0 : Int) (n1 : Int) (n2 : Int) (n3 : Int) (n4 : Int) (n5 : Int) (n6 : Int) (n7 : Bool) (n8 : Int) (n9 : Int) (n10 : Int) (n11 : Int), v = .agg #[.int .i64 n0, .int .i64 n1, .int .i64 n2, .int .i64 n3, .int .i64 n4, .int .i64 n5, .int .i64 n6, .bool n7, .int .i64 n8, .int .i64 n9, .int .i64 n10, .int .i64 n11] ∧ (-9223372036854775808 ≤ n0 ∧ n0 ≤ 9223372036854775807) ∧ (-9223372036854775808 ≤ n1 ∧ n1 ≤ 9223372036854775807) ∧ (-9223372036854775808 ≤ n2 ∧ n2 ≤ 9223372036854775807) ∧ (-9223372036854775808 ≤ n3 ∧ n3 ≤ 9223372036854775807) ∧ (-9223372036854775808 ≤ n4 ∧ n4 ≤ 9223372036854775807) ∧ (-9223372036854775808 ≤ n5 ∧ n5 ≤ 9223372036854775807) ∧ (-9223372036854775808 ≤ n6 ∧ n6 ≤ 9223372036854775807) ∧ (-9223372036854775808 ≤ n8 ∧ n8 ≤ 9223372036854775807) ∧ (-9223372036854775808 ≤ n9 ∧ n9 ≤ 9223372036854775807) ∧ (-9223372036854775808 ≤ n10 ∧ n10 ≤ 9223372036854775807) ∧ (-9223372036854775808 ≤ n11 ∧ n11 ≤ 9223372036854775807) := by
  obtain ⟨cs, rfl, hs, hc⟩ := flat (ts := [3, 3, 3, 3, 3, 3, 3, 4, 3, 3, 3, 3]) (.inl ⟨_, Try.underlying24⟩) (by kernel_rfl) (by kernel_rfl) h
  obtain ⟨l⟩ := cs
  match l, hs with
  | [x0, x1, x2, x3, x4, x5, x6, x7, x8, x9, x10, x11], _ =>
    obtain ⟨n0, rfl, a0, b0⟩ := opn_i64 Try.underlying3 (hc 0 _ x0 rfl rfl)
    obtain ⟨n1, rfl, a1, b1⟩ := opn_i64 Try.underlying3 (hc 1 _ x1 rfl rfl)
    obtain ⟨n2, rfl, a2, b2⟩ := opn_i64 Try.underlying3 (hc 2 _ x2 rfl rfl)
    obtain ⟨n3, rfl, a3, b3⟩ := opn_i64 Try.underlying3 (hc 3 _ x3 rfl rfl)
    obtain ⟨n4, rfl, a4, b4⟩ := opn_i64 Try.underlying3 (hc 4 _ x4 rfl rfl)
    obtain ⟨n5, rfl, a5, b5⟩ := opn_i64 Try.underlying3 (hc 5 _ x5 rfl rfl)
    obtain ⟨n6, rfl, a6, b6⟩ := opn_i64 Try.underlying3 (hc 6 _ x6 rfl rfl)
    obtain ⟨n7, rfl⟩ := cell_bool Try.underlying4 (hc 7 _ x7 rfl rfl)
    obtain ⟨n8, rfl, a8, b8⟩ := opn_i64 Try.underlying3 (hc 8 _ x8 rfl rfl)
    obtain ⟨n9, rfl, a9, b9⟩ := opn_i64 Try.underlying3 (hc 9 _ x9 rfl rfl)
    obtain ⟨n10, rfl, a10, b10⟩ := opn_i64 Try.underlying3 (hc 10 _ x10 rfl rfl)
    obtain ⟨n11, rfl, a11, b11⟩ := opn_i64 Try.underlying3 (hc 11 _ x11 rfl rfl)
    exact ⟨n0, n1, n2, n3, n4, n5, n6, n7, n8, n9, n10, n11, rfl, ⟨a0, b0⟩, ⟨a1, b1⟩, ⟨a2, b2⟩, ⟨a3, b3⟩, ⟨a4, b4⟩, ⟨a5, b5⟩, ⟨a6, b6⟩, ⟨a8, b8⟩, ⟨a9, b9⟩, ⟨a10, b10⟩, ⟨a11, b11⟩⟩

set_option maxRecDepth 100000 in
theorem msg_of (v : Value) (w : World) (base : Nat) (h : Value.okWide Try.prog w .any base 24 v) : ∃ l, IsMsgL l ∧ v = .agg (msgV l) := by
  obtain ⟨n0, n1, n2, n3, n4, n5, n6, n7, n8, n9, n10, n11, rfl, -⟩ := flat_msg v w base h
  refine ⟨[n0, n1, n2, n3, n4, n5, n6, if n7 then 1 else 0, n8, n9, n10, n11], ⟨rfl, ?_⟩, ?_⟩
  · cases n7
    · exact .inl rfl
    · exact .inr rfl
  · cases n7 <;> rfl
set_option maxRecDepth 100000 in
theorem zeroT_msgy : ZeroT Try.prog 24 (msgV (z12 0)) := zeroT_msg
theorem row_take8 {w : World} {A : Option Addr} {xs : List Int} (h : Row w A xs) (m : Nat) : Row w A (xs.take m) := by
  obtain ⟨h1, h2⟩ := h
  refine ⟨?_, fun z hz => h2 z (List.mem_of_mem_take hz)⟩
  rcases h1 with h1 | ⟨b, off, e, hc⟩
  · subst h1; exact .inl (by simp)
  · refine .inr ⟨b, off, e, fun i hi => ?_⟩
    have hi2 : i < xs.length := by simp at hi; omega
    rw [hc i hi2]
    simp
end Go.Proofs.Ytakahkpogooepaa
