/- sidestickref08.replies: a reply with just the fields that its kind names. -/
import Derived.Test.YtakahkpogooepaaRepS
namespace Go.Proofs.Ytakahkpogooepaa
open Go.RowKit

def replies14 (k s r t e c n0 n1 n2 n3 n4 n5 n6 n7 : Int) : List Int :=
  if k = 129 then [k, 0, 0, 0, 0, 0, n0, n1, n2, n3, n4, n5, n6, n7] else if k = 130 then [k, 0, r, t, e, 0, 0, 0, 0, 0, 0, 0, 0, 0] else if k = 131 then [k, s, 0, 0, 0, 0, 0, 0, 0, 0, 0, 0, 0, 0] else if k = 132 then [k, s, 0, 0, 0, c, 0, 0, 0, 0, 0, 0, 0, 0]
  else if k = 133 then [k, 0, 0, 0, e, 0, 0, 0, 0, 0, 0, 0, 0, 0] else if k = 134 ∨ k = 135 then [k, 0, 0, t, e, 0, 0, 0, 0, 0, 0, 0, 0, 0] else if k = 136 then [k, 0, 0, t, 0, c, 0, 0, 0, 0, 0, 0, 0, 0] else z14 k
set_option maxRecDepth 100000 in
set_option maxHeartbeats 1600000 in
theorem replies_129 (s r t e c n0 n1 n2 n3 n4 n5 n6 n7 : Int) (w : World) :
    Calls Try.prog 32 #[.agg #[.int .i64 129, .int .i64 s, .int .i64 r, .int .i64 t, .int .i64 e, .int .i64 c, .int .u8 n0, .int .u8 n1, .int .u8 n2, .int .u8 n3, .int .u8 n4, .int .u8 n5, .int .u8 n6, .int .u8 n7]] w fun e' w' => e' = .returned (.agg (repV (replies14 129 s r t e c n0 n1 n2 n3 n4 n5 n6 n7))) ∧ Below w.heap.size w w' := by
  have er : Hid (#[.int .i64 129, .int .i64 0, .int .i64 0, .int .i64 0, .int .i64 0, .int .i64 0, .int .u8 n0, .int .u8 n1, .int .u8 n2, .int .u8 n3, .int .u8 n4, .int .u8 n5, .int .u8 n6, .int .u8 n7] = repV (replies14 129 s r t e c n0 n1 n2 n3 n4 n5 n6 n7)) := Lib.hid (by rfl)
  rw [← er.out]
  clear er
  go_enter Try.func32, Try.ntmps32
  go_wp2_with fail
  refine bodyPost_ret (by simp [results, Try.results32, go_sem]) rfl ⟨rfl, ?_⟩
  exact below_alloc3 w _ _ _
set_option maxRecDepth 100000 in
set_option maxHeartbeats 1600000 in
theorem replies_130 (s r t e c n0 n1 n2 n3 n4 n5 n6 n7 : Int) (w : World) :
    Calls Try.prog 32 #[.agg #[.int .i64 130, .int .i64 s, .int .i64 r, .int .i64 t, .int .i64 e, .int .i64 c, .int .u8 n0, .int .u8 n1, .int .u8 n2, .int .u8 n3, .int .u8 n4, .int .u8 n5, .int .u8 n6, .int .u8 n7]] w fun e' w' => e' = .returned (.agg (repV (replies14 130 s r t e c n0 n1 n2 n3 n4 n5 n6 n7))) ∧ Below w.heap.size w w' := by
  have er : Hid (#[.int .i64 130, .int .i64 0, .int .i64 r, .int .i64 t, .int .i64 e, .int .i64 0, .int .u8 0, .int .u8 0, .int .u8 0, .int .u8 0, .int .u8 0, .int .u8 0, .int .u8 0, .int .u8 0] = repV (replies14 130 s r t e c n0 n1 n2 n3 n4 n5 n6 n7)) := Lib.hid (by rfl)
  rw [← er.out]
  clear er
  go_enter Try.func32, Try.ntmps32
  go_wp2_with fail
  refine bodyPost_ret (by simp [results, Try.results32, go_sem]) rfl ⟨rfl, ?_⟩
  exact below_alloc3 w _ _ _
set_option maxRecDepth 100000 in
set_option maxHeartbeats 1600000 in
theorem replies_131 (s r t e c n0 n1 n2 n3 n4 n5 n6 n7 : Int) (w : World) :
    Calls Try.prog 32 #[.agg #[.int .i64 131, .int .i64 s, .int .i64 r, .int .i64 t, .int .i64 e, .int .i64 c, .int .u8 n0, .int .u8 n1, .int .u8 n2, .int .u8 n3, .int .u8 n4, .int .u8 n5, .int .u8 n6, .int .u8 n7]] w fun e' w' => e' = .returned (.agg (repV (replies14 131 s r t e c n0 n1 n2 n3 n4 n5 n6 n7))) ∧ Below w.heap.size w w' := by
  have er : Hid (#[.int .i64 131, .int .i64 s, .int .i64 0, .int .i64 0, .int .i64 0, .int .i64 0, .int .u8 0, .int .u8 0, .int .u8 0, .int .u8 0, .int .u8 0, .int .u8 0, .int .u8 0, .int .u8 0] = repV (replies14 131 s r t e c n0 n1 n2 n3 n4 n5 n6 n7)) := Lib.hid (by rfl)
  rw [← er.out]
  clear er
  go_enter Try.func32, Try.ntmps32
  go_wp2_with fail
  refine bodyPost_ret (by simp [results, Try.results32, go_sem]) rfl ⟨rfl, ?_⟩
  exact below_alloc3 w _ _ _
set_option maxRecDepth 100000 in
set_option maxHeartbeats 1600000 in
theorem replies_132 (s r t e c n0 n1 n2 n3 n4 n5 n6 n7 : Int) (w : World) :
    Calls Try.prog 32 #[.agg #[.int .i64 132, .int .i64 s, .int .i64 r, .int .i64 t, .int .i64 e, .int .i64 c, .int .u8 n0, .int .u8 n1, .int .u8 n2, .int .u8 n3, .int .u8 n4, .int .u8 n5, .int .u8 n6, .int .u8 n7]] w fun e' w' => e' = .returned (.agg (repV (replies14 132 s r t e c n0 n1 n2 n3 n4 n5 n6 n7))) ∧ Below w.heap.size w w' := by
  have er : Hid (#[.int .i64 132, .int .i64 s, .int .i64 0, .int .i64 0, .int .i64 0, .int .i64 c, .int .u8 0, .int .u8 0, .int .u8 0, .int .u8 0, .int .u8 0, .int .u8 0, .int .u8 0, .int .u8 0] = repV (replies14 132 s r t e c n0 n1 n2 n3 n4 n5 n6 n7)) := Lib.hid (by rfl)
  rw [← er.out]
  clear er
  go_enter Try.func32, Try.ntmps32
  go_wp2_with fail
  refine bodyPost_ret (by simp [results, Try.results32, go_sem]) rfl ⟨rfl, ?_⟩
  exact below_alloc3 w _ _ _
set_option maxRecDepth 100000 in
set_option maxHeartbeats 1600000 in
theorem replies_133 (s r t e c n0 n1 n2 n3 n4 n5 n6 n7 : Int) (w : World) :
    Calls Try.prog 32 #[.agg #[.int .i64 133, .int .i64 s, .int .i64 r, .int .i64 t, .int .i64 e, .int .i64 c, .int .u8 n0, .int .u8 n1, .int .u8 n2, .int .u8 n3, .int .u8 n4, .int .u8 n5, .int .u8 n6, .int .u8 n7]] w fun e' w' => e' = .returned (.agg (repV (replies14 133 s r t e c n0 n1 n2 n3 n4 n5 n6 n7))) ∧ Below w.heap.size w w' := by
  have er : Hid (#[.int .i64 133, .int .i64 0, .int .i64 0, .int .i64 0, .int .i64 e, .int .i64 0, .int .u8 0, .int .u8 0, .int .u8 0, .int .u8 0, .int .u8 0, .int .u8 0, .int .u8 0, .int .u8 0] = repV (replies14 133 s r t e c n0 n1 n2 n3 n4 n5 n6 n7)) := Lib.hid (by rfl)
  rw [← er.out]
  clear er
  go_enter Try.func32, Try.ntmps32
  go_wp2_with fail
  refine bodyPost_ret (by simp [results, Try.results32, go_sem]) rfl ⟨rfl, ?_⟩
  exact below_alloc3 w _ _ _
set_option maxRecDepth 100000 in
set_option maxHeartbeats 1600000 in
theorem replies_134 (s r t e c n0 n1 n2 n3 n4 n5 n6 n7 : Int) (w : World) :
    Calls Try.prog 32 #[.agg #[.int .i64 134, .int .i64 s, .int .i64 r, .int .i64 t, .int .i64 e, .int .i64 c, .int .u8 n0, .int .u8 n1, .int .u8 n2, .int .u8 n3, .int .u8 n4, .int .u8 n5, .int .u8 n6, .int .u8 n7]] w fun e' w' => e' = .returned (.agg (repV (replies14 134 s r t e c n0 n1 n2 n3 n4 n5 n6 n7))) ∧ Below w.heap.size w w' := by
  have er : Hid (#[.int .i64 134, .int .i64 0, .int .i64 0, .int .i64 t, .int .i64 e, .int .i64 0, .int .u8 0, .int .u8 0, .int .u8 0, .int .u8 0, .int .u8 0, .int .u8 0, .int .u8 0, .int .u8 0] = repV (replies14 134 s r t e c n0 n1 n2 n3 n4 n5 n6 n7)) := Lib.hid (by rfl)
  rw [← er.out]
  clear er
  go_enter Try.func32, Try.ntmps32
  go_wp2_with fail
  refine bodyPost_ret (by simp [results, Try.results32, go_sem]) rfl ⟨rfl, ?_⟩
  exact below_alloc3 w _ _ _
set_option maxRecDepth 100000 in
set_option maxHeartbeats 1600000 in
theorem replies_135 (s r t e c n0 n1 n2 n3 n4 n5 n6 n7 : Int) (w : World) :
    Calls Try.prog 32 #[.agg #[.int .i64 135, .int .i64 s, .int .i64 r, .int .i64 t, .int .i64 e, .int .i64 c, .int .u8 n0, .int .u8 n1, .int .u8 n2, .int .u8 n3, .int .u8 n4, .int .u8 n5, .int .u8 n6, .int .u8 n7]] w fun e' w' => e' = .returned (.agg (repV (replies14 135 s r t e c n0 n1 n2 n3 n4 n5 n6 n7))) ∧ Below w.heap.size w w' := by
  have er : Hid (#[.int .i64 135, .int .i64 0, .int .i64 0, .int .i64 t, .int .i64 e, .int .i64 0, .int .u8 0, .int .u8 0, .int .u8 0, .int .u8 0, .int .u8 0, .int .u8 0, .int .u8 0, .int .u8 0] = repV (replies14 135 s r t e c n0 n1 n2 n3 n4 n5 n6 n7)) := Lib.hid (by rfl)
  rw [← er.out]
  clear er
  go_enter Try.func32, Try.ntmps32
  go_wp2_with fail
  refine bodyPost_ret (by simp [results, Try.results32, go_sem]) rfl ⟨rfl, ?_⟩
  exact below_alloc3 w _ _ _
set_option maxRecDepth 100000 in
set_option maxHeartbeats 1600000 in
theorem replies_136 (s r t e c n0 n1 n2 n3 n4 n5 n6 n7 : Int) (w : World) :
    Calls Try.prog 32 #[.agg #[.int .i64 136, .int .i64 s, .int .i64 r, .int .i64 t, .int .i64 e, .int .i64 c, .int .u8 n0, .int .u8 n1, .int .u8 n2, .int .u8 n3, .int .u8 n4, .int .u8 n5, .int .u8 n6, .int .u8 n7]] w fun e' w' => e' = .returned (.agg (repV (replies14 136 s r t e c n0 n1 n2 n3 n4 n5 n6 n7))) ∧ Below w.heap.size w w' := by
  have er : Hid (#[.int .i64 136, .int .i64 0, .int .i64 0, .int .i64 t, .int .i64 0, .int .i64 c, .int .u8 0, .int .u8 0, .int .u8 0, .int .u8 0, .int .u8 0, .int .u8 0, .int .u8 0, .int .u8 0] = repV (replies14 136 s r t e c n0 n1 n2 n3 n4 n5 n6 n7)) := Lib.hid (by rfl)
  rw [← er.out]
  clear er
  go_enter Try.func32, Try.ntmps32
  go_wp2_with fail
  refine bodyPost_ret (by simp [results, Try.results32, go_sem]) rfl ⟨rfl, ?_⟩
  exact below_alloc3 w _ _ _
end Go.Proofs.Ytakahkpogooepaa
