/- The walk of DoorCounts. -/
import Derived.Test.YtapednkmefbldaaDoorDoorL
namespace Go.Proofs.YtapednkmefbldaaDoor
open Go.RowKit

set_option maxRecDepth 100000 in
theorem flat_two32 (v : Value) (w : World) (base : Nat) (h : Value.okWide Tryd.prog w .any base 44 v) : ∃ (n0 : Int) (n1 : Int), v = .agg #[.int .u32 n0, .int .u32 n1] ∧ (0 ≤ n0 ∧ n0 ≤ 4294967295) ∧ (0 ≤ n1 ∧ n1 ≤ 4294967295) := by
  obtain ⟨cs, rfl, hs, hc⟩ := flat (ts := [43, 43]) (.inr ⟨_, _, Tryd.underlying44⟩) (by kernel_rfl) (by kernel_rfl) h
  obtain ⟨l⟩ := cs
  match l, hs with
  | [x0, x1], _ =>
    obtain ⟨n0, rfl, a0, b0⟩ := opn_u32 Tryd.underlying43 (hc 0 _ x0 rfl rfl)
    obtain ⟨n1, rfl, a1, b1⟩ := opn_u32 Tryd.underlying43 (hc 1 _ x1 rfl rfl)
    exact ⟨n0, n1, rfl, ⟨a0, b0⟩, ⟨a1, b1⟩⟩

set_option maxRecDepth 100000 in
set_option maxHeartbeats 1600000 in
theorem neq_door_self (many : Int) (op : Bool) (nc : List Int) (h : nc.length = 8) (W : World) : (binOp .neq 46 (.agg (doorV many op nc)) (.agg (doorV many op nc))).run Tryd.prog W = .ok (.bool false) W := by
  obtain ⟨a, b, c, d, e, f, g, i, rfl⟩ : ∃ a b c d e f g i, nc = [a, b, c, d, e, f, g, i] := by
    match nc, h with
    | [a, b, c, d, e, f, g, i], _ => exact ⟨a, b, c, d, e, f, g, i, rfl⟩
  have e1 : doorV many op [a, b, c, d, e, f, g, i] = #[.int .i64 many, .bool op, .int .u8 a, .int .u8 b, .int .u8 c, .int .u8 d, .int .u8 e, .int .u8 f, .int .u8 g, .int .u8 i] := rfl
  obtain ⟨i0, hi⟩ := info_u8e
  have hx := run_eq_u8 Tryd.underlying29 Tryd.underlying5 (by kernel_rfl) hi 9997 [a, b, c, d, e, f, g, i] [a, b, c, d, e, f, g, i] rfl rfl W
  rw [decide_eq_true rfl] at hx
  simp only [u8V, List.map_cons, List.map_nil, Nat.reduceAdd] at hx
  rw [e1]
  simp [go_sem, hx]
theorem neq_b8_self (x : List Int) (hx : x.length = 8) (W : World) : (binOp .neq 29 (.agg (u8V x)) (.agg (u8V x))).run Tryd.prog W = .ok (.bool false) W := by
  obtain ⟨i0, hi⟩ := info_u8e
  have h := run_eq_u8 Tryd.underlying29 Tryd.underlying5 (by kernel_rfl) hi 9998 x x hx hx W
  rw [decide_eq_true rfl] at h
  simp [go_sem, h]
theorem neq_b8_zero (W : World) : (binOp .neq 29 (.agg (u8V (zeros 8))) (.agg #[.int .u8 0, .int .u8 0, .int .u8 0, .int .u8 0, .int .u8 0, .int .u8 0, .int .u8 0, .int .u8 0])).run Tryd.prog W = .ok (.bool false) W := neq_b8_self (zeros 8) z8_len W
end Go.Proofs.YtapednkmefbldaaDoor
