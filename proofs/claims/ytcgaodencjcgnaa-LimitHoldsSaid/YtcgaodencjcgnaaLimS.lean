/- limit.Set at the document's example. -/
import Derived.Test.YtcgaodencjcgnaaLim
import Derived.Test.YtcgaodencjcgnaaPolW
import Derived.Test.YtcgaodencjcgnaaFit3
namespace Go.Proofs.Ytcgaodencjcgnaa
open Go.RowKit

def q21 : Nat → Value := fun i => if i = 51 then .int .i64 100 else if i = 54 then .int .i64 30 else if i < 5 then .int .i64 0 else if i ≤ 8 then .slice none 0 0 else .int .i64 0
theorem built_21 : Try.prog.built 32 [(17, .agg #[.int .i64 0, .int .i64 100, .int .i64 0, .int .i64 0]), (18, .int .i64 30)] = some (mkc 56 q21) := by kernel_rfl
theorem q21_one : ∀ i, i < 56 → (q21 i).oneCell' = true := by
  intro i hi
  unfold q21
  repeat' split
  all_goals rfl
set_option maxRecDepth 100000 in
set_option maxHeartbeats 4000000 in
theorem set_shown (w : World) :
    Calls Try.prog 16 #[.agg (mkc 56 q21), .agg #[.int .i64 0, .int .i64 0, .int .i64 0, .int .i64 0, .int .i64 0, .int .i64 0, .int .i64 0, .int .i64 0, .int .i64 0, .int .i64 0, .int .i64 0, .int .i64 0], .int .i64 1, .agg #[.int .i64 0, .int .i64 500, .int .i64 0, .int .i64 0], .agg #[.int .i64 1, .int .i64 2, .int .i64 9]] w fun e w' => e = .returned (.agg #[.int .i64 1, .int .i64 0, .int .i64 100, .int .i64 0, .int .i64 0, .int .i64 0, .int .i64 0, .int .i64 0, .int .i64 0, .int .i64 1, .int .i64 2, .int .i64 9]) ∧ Below w.heap.size w w' := by
  have j0 : ∀ w, (Instr.index 29 (.agg #[.int .i64 0, .int .i64 500, .int .i64 0, .int .i64 0]) (.int .i64 0)).run Try.prog w = .ok (.int .i64 0) w := fun _ => by kernel_rfl
  have j1 : ∀ w, (Instr.index 29 (.agg #[.int .i64 0, .int .i64 500, .int .i64 0, .int .i64 0]) (.int .i64 1)).run Try.prog w = .ok (.int .i64 500) w := fun _ => by kernel_rfl
  have j2 : ∀ w, (Instr.index 29 (.agg #[.int .i64 0, .int .i64 500, .int .i64 0, .int .i64 0]) (.int .i64 2)).run Try.prog w = .ok (.int .i64 0) w := fun _ => by kernel_rfl
  have j3 : ∀ w, (Instr.index 29 (.agg #[.int .i64 0, .int .i64 500, .int .i64 0, .int .i64 0]) (.int .i64 3)).run Try.prog w = .ok (.int .i64 0) w := fun _ => by kernel_rfl
  have e51 : q21 51 = .int .i64 100 := rfl
  have hl : (51 : Nat) < 56 := by omega
  go_enter Try.func16, Try.ntmps16
  go_wp2_with fail
  have c0 : clamp 0 (-100) 100 = 0 := rfl
  have c1 : clamp 500 (-100) 100 = 100 := rfl
  refine wp_loop_rounds 5 ?_
  rw [rounds_succ]
  go_wp2_with (go_at_call 8; ((with_reducible refine (clamp_any _ _ _ _).mono ?_)); rintro e w1 ⟨rfl, rfl⟩)
  rw [rounds_succ]
  go_wp2_with (go_at_call 8; ((with_reducible refine (clamp_any _ _ _ _).mono ?_)); rintro e w1 ⟨rfl, rfl⟩)
  rw [rounds_succ]
  go_wp2_with (go_at_call 8; ((with_reducible refine (clamp_any _ _ _ _).mono ?_)); rintro e w1 ⟨rfl, rfl⟩)
  rw [rounds_succ]
  go_wp2_with (go_at_call 8; ((with_reducible refine (clamp_any _ _ _ _).mono ?_)); rintro e w1 ⟨rfl, rfl⟩)
  rw [rounds_succ]
  go_wp2_with (go_at_call 8; ((with_reducible refine (clamp_any _ _ _ _).mono ?_)); rintro e w1 ⟨rfl, rfl⟩)
  refine bodyPost_ret (v := .agg #[.int .i64 1, .int .i64 0, .int .i64 100, .int .i64 0, .int .i64 0, .int .i64 0, .int .i64 0, .int .i64 0, .int .i64 0, .int .i64 1, .int .i64 2, .int .i64 9]) (by simp [results, Try.results16, go_sem]) rfl ⟨rfl, ?_⟩
  exact bt (bt (below_alloc3 w _ _ _) (below_alloc1 _ _)) (below_alloc1 _ _)
end Go.Proofs.Ytcgaodencjcgnaa
