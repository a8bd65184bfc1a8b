/- sidestickref04: turn, Start, roots. -/
import Derived.Test.YtalekcpdkfdmaaaDoorShaQ
import Derived.Test.YtalekcpdkfdmaaaDoorStep
namespace Go.Proofs.YtalekcpdkfdmaaaDoor
open Go.RowKit

theorem drew2 (w : World) (m q : Nat) : (w.drewN m).drewN q = w.drewN (m + q) := by simp
set_option maxRecDepth 100000 in
set_option maxHeartbeats 400000 in
theorem turn_2 (x : Int) (w : World) : Calls Tryd.prog 38 #[.int .u32 x, .int .i64 2] w fun e w' => e = .returned (.int .u32 (rr x 2)) ∧ ∃ q, w' = w.drewN q := by
  go_enter Tryd.func38, Tryd.ntmps38
  go_wp2_with fail
  go_quiet (fail)
  go_wp2_with fail
  go_ret
  exact ⟨by rw [← rr_turn]; rfl, _, rfl⟩
set_option maxRecDepth 100000 in
set_option maxHeartbeats 400000 in
theorem turn_6 (x : Int) (w : World) : Calls Tryd.prog 38 #[.int .u32 x, .int .i64 6] w fun e w' => e = .returned (.int .u32 (rr x 6)) ∧ ∃ q, w' = w.drewN q := by
  go_enter Tryd.func38, Tryd.ntmps38
  go_wp2_with fail
  go_quiet (fail)
  go_wp2_with fail
  go_ret
  exact ⟨by rw [← rr_turn]; rfl, _, rfl⟩
set_option maxRecDepth 100000 in
set_option maxHeartbeats 400000 in
theorem turn_7 (x : Int) (w : World) : Calls Tryd.prog 38 #[.int .u32 x, .int .i64 7] w fun e w' => e = .returned (.int .u32 (rr x 7)) ∧ ∃ q, w' = w.drewN q := by
  go_enter Tryd.func38, Tryd.ntmps38
  go_wp2_with fail
  go_quiet (fail)
  go_wp2_with fail
  go_ret
  exact ⟨by rw [← rr_turn]; rfl, _, rfl⟩
set_option maxRecDepth 100000 in
set_option maxHeartbeats 400000 in
theorem turn_11 (x : Int) (w : World) : Calls Tryd.prog 38 #[.int .u32 x, .int .i64 11] w fun e w' => e = .returned (.int .u32 (rr x 11)) ∧ ∃ q, w' = w.drewN q := by
  go_enter Tryd.func38, Tryd.ntmps38
  go_wp2_with fail
  go_quiet (fail)
  go_wp2_with fail
  go_ret
  exact ⟨by rw [← rr_turn]; rfl, _, rfl⟩
set_option maxRecDepth 100000 in
set_option maxHeartbeats 400000 in
theorem turn_13 (x : Int) (w : World) : Calls Tryd.prog 38 #[.int .u32 x, .int .i64 13] w fun e w' => e = .returned (.int .u32 (rr x 13)) ∧ ∃ q, w' = w.drewN q := by
  go_enter Tryd.func38, Tryd.ntmps38
  go_wp2_with fail
  go_quiet (fail)
  go_wp2_with fail
  go_ret
  exact ⟨by rw [← rr_turn]; rfl, _, rfl⟩
set_option maxRecDepth 100000 in
set_option maxHeartbeats 400000 in
theorem turn_17 (x : Int) (w : World) : Calls Tryd.prog 38 #[.int .u32 x, .int .i64 17] w fun e w' => e = .returned (.int .u32 (rr x 17)) ∧ ∃ q, w' = w.drewN q := by
  go_enter Tryd.func38, Tryd.ntmps38
  go_wp2_with fail
  go_quiet (fail)
  go_wp2_with fail
  go_ret
  exact ⟨by rw [← rr_turn]; rfl, _, rfl⟩
set_option maxRecDepth 100000 in
set_option maxHeartbeats 400000 in
theorem turn_18 (x : Int) (w : World) : Calls Tryd.prog 38 #[.int .u32 x, .int .i64 18] w fun e w' => e = .returned (.int .u32 (rr x 18)) ∧ ∃ q, w' = w.drewN q := by
  go_enter Tryd.func38, Tryd.ntmps38
  go_wp2_with fail
  go_quiet (fail)
  go_wp2_with fail
  go_ret
  exact ⟨by rw [← rr_turn]; rfl, _, rfl⟩
set_option maxRecDepth 100000 in
set_option maxHeartbeats 400000 in
theorem turn_19 (x : Int) (w : World) : Calls Tryd.prog 38 #[.int .u32 x, .int .i64 19] w fun e w' => e = .returned (.int .u32 (rr x 19)) ∧ ∃ q, w' = w.drewN q := by
  go_enter Tryd.func38, Tryd.ntmps38
  go_wp2_with fail
  go_quiet (fail)
  go_wp2_with fail
  go_ret
  exact ⟨by rw [← rr_turn]; rfl, _, rfl⟩
set_option maxRecDepth 100000 in
set_option maxHeartbeats 400000 in
theorem turn_22 (x : Int) (w : World) : Calls Tryd.prog 38 #[.int .u32 x, .int .i64 22] w fun e w' => e = .returned (.int .u32 (rr x 22)) ∧ ∃ q, w' = w.drewN q := by
  go_enter Tryd.func38, Tryd.ntmps38
  go_wp2_with fail
  go_quiet (fail)
  go_wp2_with fail
  go_ret
  exact ⟨by rw [← rr_turn]; rfl, _, rfl⟩
set_option maxRecDepth 100000 in
set_option maxHeartbeats 400000 in
theorem turn_25 (x : Int) (w : World) : Calls Tryd.prog 38 #[.int .u32 x, .int .i64 25] w fun e w' => e = .returned (.int .u32 (rr x 25)) ∧ ∃ q, w' = w.drewN q := by
  go_enter Tryd.func38, Tryd.ntmps38
  go_wp2_with fail
  go_quiet (fail)
  go_wp2_with fail
  go_ret
  exact ⟨by rw [← rr_turn]; rfl, _, rfl⟩
theorem turn_all (x n : Int) (w : World) (hn : n = 2 ∨ n = 6 ∨ n = 7 ∨ n = 11 ∨ n = 13 ∨ n = 17 ∨ n = 18 ∨ n = 19 ∨ n = 22 ∨ n = 25) :
    Calls Tryd.prog 38 #[.int .u32 x, .int .i64 n] w fun e w' => e = .returned (.int .u32 (rr x n.toNat)) ∧ ∃ q, w' = w.drewN q := by
  rcases hn with rfl | rfl | rfl | rfl | rfl | rfl | rfl | rfl | rfl | rfl
  · exact turn_2 x w
  · exact turn_6 x w
  · exact turn_7 x w
  · exact turn_11 x w
  · exact turn_13 x w
  · exact turn_17 x w
  · exact turn_18 x w
  · exact turn_19 x w
  · exact turn_22 x w
  · exact turn_25 x w
theorem rstart_any (w : World) : Calls Tryd.prog 22 #[] w fun e w' => e = .returned (.agg startS.cells) ∧ Below w.heap.size w w' := by
  go_enter Tryd.func22, Tryd.ntmps22
  go_wp2_with ((with_reducible show wpList _ _ _ (⟨_, .alloc 24, _, _, _, none⟩ :: _) _ _); (with_reducible refine wpRow_alloc zeroT_8 ?_ ?_ ?_); (· exact wanted0 rfl); (· rfl); refine Marker.mk ?_)
  refine Marker.in ?_
  have KR := Lib.hid (Blk.new w (u32V (zeros 8)) 24)
  have BB := Lib.hid (below_alloc1 w (.cells (u32V (zeros 8)) 24))
  generalize w.alloc (.cells (u32V (zeros 8)) 24) = w3 at *
  go_wp2_with ((with_reducible show wpList _ _ _ (⟨_, .store 24 _ _, _, _, _, none⟩ :: _) _ _); (with_reducible refine wpBlk_store (g := w.heap.size) (cs := startS.cells) agg_8 ?_ ?_ KR ?_ ?_ ?_ ?_); (· exact wanted0 rfl); (· exact ⟨rfl, rfl, rfl⟩); (· rw [u32V_size, zeros_len]); (· rfl); (· exact St.cells_one _))
  refine bodyPost_ret (v := .agg startS.cells) (results_blk agg_8 rfl _ _ (w.heap.size) _ rfl (KR.out.setRow _) (St.cells_size _)) rfl ⟨rfl, below_setRow BB.out (by omega) _⟩
theorem rootsL_len : rootsL.length = 64 := rfl
theorem build_roots : Tryd.prog.built 56 (rootsL.mapIdx fun i x => (i, Value.int .u32 x)) = some (u32V rootsL) := by kernel_rfl
theorem build_w64 : Tryd.prog.built 56 [] = some (u32V (zeros 64)) := by kernel_rfl
set_option maxRecDepth 100000 in
set_option maxHeartbeats 800000 in
theorem rroots_any (w : World) : Calls Tryd.prog 39 #[] w fun e w' => e = .returned (.agg (u32V rootsL)) ∧ Below w.heap.size w w' := by
  have BR := Lib.hid build_roots
  go_enter Tryd.func39, Tryd.ntmps39
  go_wp2_with ((with_reducible show wpList _ _ _ (⟨_, .alloc 56, _, _, _, none⟩ :: _) _ _); (with_reducible refine wpRow_alloc zeroT_64 ?_ ?_ ?_); (· exact wanted0 rfl); (· rfl); refine Marker.mk ?_)
  refine Marker.in ?_
  have KR := Lib.hid (Blk.new w (u32V (zeros 64)) 56)
  have BB := Lib.hid (below_alloc1 w (.cells (u32V (zeros 64)) 56))
  generalize w.alloc (.cells (u32V (zeros 64)) 56) = w3 at *
  go_wp2_with (first | ((with_reducible show wpList _ _ _ (⟨some 1, _, _, _, _, _⟩ :: _) _ _); refine wpList_build' rfl 56 _ rfl (u32V rootsL) BR.out ?_) | ((with_reducible show wpList _ _ _ (⟨_, .store 56 _ _, _, _, _, none⟩ :: _) _ _); (with_reducible refine wpBlk_store (g := w.heap.size) (cs := u32V rootsL) agg_64 ?_ ?_ KR ?_ ?_ ?_ ?_); (· exact wanted0 rfl); (· exact ⟨rfl, rfl, rfl⟩); (· rw [u32V_size, zeros_len]); (· rw [u32V_size, rootsL_len]); (· exact u32V_one _)))
  refine bodyPost_ret (v := .agg (u32V rootsL)) (results_blk agg_64 rfl _ _ (w.heap.size) _ rfl (KR.out.setRow _) (by rw [u32V_size, rootsL_len])) rfl ⟨rfl, below_setRow BB.out (by omega) _⟩
end Go.Proofs.YtalekcpdkfdmaaaDoor
