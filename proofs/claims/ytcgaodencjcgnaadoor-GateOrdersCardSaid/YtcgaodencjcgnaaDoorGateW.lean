/- The head of the gate laws. -/
import Derived.Test.YtcgaodencjcgnaaDoorGate
namespace Go.Proofs.YtcgaodencjcgnaaDoor
open Go.RowKit

def zp : Nat → Value := fun i => if i < 5 then .int .i64 0 else if i ≤ 8 then .slice none 0 0 else .int .i64 0
theorem built_zp : Tryd.prog.built 28 [] = some (mkc 56 zp) := by kernel_rfl
theorem zp_int : ∀ i, 9 ≤ i → i < 56 → I64 (zp i) := by
  intro i h1 h2
  unfold zp
  rw [if_neg (by omega), if_neg (by omega)]
  exact ⟨rfl, by decide, by decide⟩
set_option maxRecDepth 100000 in
set_option maxHeartbeats 800000 in
theorem shown22 (w : World) (hc : Cmds w) : Calls Tryd.prog 6 #[] w fun e w' => e = .returned (.bool true) ∧ Below w.heap.size w w' := by
  have HC := Lib.hid hc
  have e20 : judge zp 1 0 2 1 0 10 0 0 0 = 20 := by rfl
  clear hc
  go_enter Tryd.func6, Tryd.ntmps6
  go_wp2_with (first
    | ((with_reducible show wpList _ _ _ (⟨some 1, _, _, _, _, _⟩ :: _) _ _); refine wpList_build' rfl 28 #[] rfl (mkc 56 zp) built_zp ?_)
    | (go_at_call 8; refine (judge_any zp 1 0 2 1 0 10 0 0 0 _ _ _ _ _ _ _ _ _ _ _ _ _ _ _ zp_int HC.out).mono ?_; rintro e w1 ⟨rfl, b1⟩))
  go_ret
  exact ⟨rfl, b1⟩
end Go.Proofs.YtcgaodencjcgnaaDoor
