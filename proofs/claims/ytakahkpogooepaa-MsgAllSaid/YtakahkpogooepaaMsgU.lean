/- sidestickref08.Fit: a message that may be. -/
import Derived.Test.YtakahkpogooepaaMsgS
namespace Go.Proofs.Ytakahkpogooepaa
open Go.RowKit

def named12 (k s r t e m c n x0 x1 x2 x3 : Int) : List Int :=
  if k = 1 ∨ k = 2 then [k, 0, r, 0, 0, 0, 0, 0, 0, 0, 0, 0] else if k = 5 then [k, s, 0, 0, 0, 0, 0, n, 0, 0, 0, 0] else if k = 6 then [k, s, 0, t, 0, 0, 0, 0, 0, 0, 0, 0] else if k = 7 then [k, s, 0, 0, e, 0, 0, 0, 0, 0, 0, 0]
  else if k = 10 then [k, s, 0, 0, e, m, 0, 0, 0, 0, 0, 0] else if k = 11 then [k, s, 0, 0, e, 0, c, 0, x0, x1, x2, x3] else [k, s, 0, 0, 0, 0, 0, 0, 0, 0, 0, 0]
def inb (n : Int) : Bool := n == 1
set_option maxRecDepth 100000 in
set_option maxHeartbeats 1600000 in
theorem named_1 (s r t e m c n x0 x1 x2 x3 : Int) (w : World) :
    Calls Try.prog 21 #[.agg #[.int .i64 1, .int .i64 s, .int .i64 r, .int .i64 t, .int .i64 e, .int .i64 m, .int .i64 c, .bool (n == 1), .int .i64 x0, .int .i64 x1, .int .i64 x2, .int .i64 x3]] w fun e' w' => e' = .returned (.agg (msgV (named12 1 s r t e m c n x0 x1 x2 x3))) ∧ Below w.heap.size w w' := by
  obtain ⟨b, hb⟩ : ∃ b, b = (n == 1) := ⟨_, rfl⟩
  have er : Hid (#[.int .i64 1, .int .i64 0, .int .i64 r, .int .i64 0, .int .i64 0, .int .i64 0, .int .i64 0, .bool false, .int .i64 0, .int .i64 0, .int .i64 0, .int .i64 0] = msgV (named12 1 s r t e m c n x0 x1 x2 x3)) := Lib.hid (by rfl)
  rw [← hb]
  rw [← er.out]
  clear er hb
  go_enter Try.func21, Try.ntmps21
  go_wp2_with fail
  refine bodyPost_ret (by simp [results, Try.results21, go_sem]) rfl ⟨rfl, ?_⟩
  exact below_alloc3 w _ _ _
set_option maxRecDepth 100000 in
set_option maxHeartbeats 1600000 in
theorem named_2 (s r t e m c n x0 x1 x2 x3 : Int) (w : World) :
    Calls Try.prog 21 #[.agg #[.int .i64 2, .int .i64 s, .int .i64 r, .int .i64 t, .int .i64 e, .int .i64 m, .int .i64 c, .bool (n == 1), .int .i64 x0, .int .i64 x1, .int .i64 x2, .int .i64 x3]] w fun e' w' => e' = .returned (.agg (msgV (named12 2 s r t e m c n x0 x1 x2 x3))) ∧ Below w.heap.size w w' := by
  obtain ⟨b, hb⟩ : ∃ b, b = (n == 1) := ⟨_, rfl⟩
  have er : Hid (#[.int .i64 2, .int .i64 0, .int .i64 r, .int .i64 0, .int .i64 0, .int .i64 0, .int .i64 0, .bool false, .int .i64 0, .int .i64 0, .int .i64 0, .int .i64 0] = msgV (named12 2 s r t e m c n x0 x1 x2 x3)) := Lib.hid (by rfl)
  rw [← hb]
  rw [← er.out]
  clear er hb
  go_enter Try.func21, Try.ntmps21
  go_wp2_with fail
  refine bodyPost_ret (by simp [results, Try.results21, go_sem]) rfl ⟨rfl, ?_⟩
  exact below_alloc3 w _ _ _
set_option maxRecDepth 100000 in
set_option maxHeartbeats 1600000 in
theorem named_3 (s r t e m c n x0 x1 x2 x3 : Int) (w : World) :
    Calls Try.prog 21 #[.agg #[.int .i64 3, .int .i64 s, .int .i64 r, .int .i64 t, .int .i64 e, .int .i64 m, .int .i64 c, .bool (n == 1), .int .i64 x0, .int .i64 x1, .int .i64 x2, .int .i64 x3]] w fun e' w' => e' = .returned (.agg (msgV (named12 3 s r t e m c n x0 x1 x2 x3))) ∧ Below w.heap.size w w' := by
  obtain ⟨b, hb⟩ : ∃ b, b = (n == 1) := ⟨_, rfl⟩
  have er : Hid (#[.int .i64 3, .int .i64 s, .int .i64 0, .int .i64 0, .int .i64 0, .int .i64 0, .int .i64 0, .bool false, .int .i64 0, .int .i64 0, .int .i64 0, .int .i64 0] = msgV (named12 3 s r t e m c n x0 x1 x2 x3)) := Lib.hid (by rfl)
  rw [← hb]
  rw [← er.out]
  clear er hb
  go_enter Try.func21, Try.ntmps21
  go_wp2_with fail
  refine bodyPost_ret (by simp [results, Try.results21, go_sem]) rfl ⟨rfl, ?_⟩
  exact below_alloc3 w _ _ _
set_option maxRecDepth 100000 in
set_option maxHeartbeats 1600000 in
theorem named_4 (s r t e m c n x0 x1 x2 x3 : Int) (w : World) :
    Calls Try.prog 21 #[.agg #[.int .i64 4, .int .i64 s, .int .i64 r, .int .i64 t, .int .i64 e, .int .i64 m, .int .i64 c, .bool (n == 1), .int .i64 x0, .int .i64 x1, .int .i64 x2, .int .i64 x3]] w fun e' w' => e' = .returned (.agg (msgV (named12 4 s r t e m c n x0 x1 x2 x3))) ∧ Below w.heap.size w w' := by
  obtain ⟨b, hb⟩ : ∃ b, b = (n == 1) := ⟨_, rfl⟩
  have er : Hid (#[.int .i64 4, .int .i64 s, .int .i64 0, .int .i64 0, .int .i64 0, .int .i64 0, .int .i64 0, .bool false, .int .i64 0, .int .i64 0, .int .i64 0, .int .i64 0] = msgV (named12 4 s r t e m c n x0 x1 x2 x3)) := Lib.hid (by rfl)
  rw [← hb]
  rw [← er.out]
  clear er hb
  go_enter Try.func21, Try.ntmps21
  go_wp2_with fail
  refine bodyPost_ret (by simp [results, Try.results21, go_sem]) rfl ⟨rfl, ?_⟩
  exact below_alloc3 w _ _ _
set_option maxRecDepth 100000 in
set_option maxHeartbeats 1600000 in
theorem named_5 (s r t e m c n x0 x1 x2 x3 : Int) (w : World) :
    Calls Try.prog 21 #[.agg #[.int .i64 5, .int .i64 s, .int .i64 r, .int .i64 t, .int .i64 e, .int .i64 m, .int .i64 c, .bool (n == 1), .int .i64 x0, .int .i64 x1, .int .i64 x2, .int .i64 x3]] w fun e' w' => e' = .returned (.agg (msgV (named12 5 s r t e m c n x0 x1 x2 x3))) ∧ Below w.heap.size w w' := by
  obtain ⟨b, hb⟩ : ∃ b, b = (n == 1) := ⟨_, rfl⟩
  have er : Hid (#[.int .i64 5, .int .i64 s, .int .i64 0, .int .i64 0, .int .i64 0, .int .i64 0, .int .i64 0, .bool b, .int .i64 0, .int .i64 0, .int .i64 0, .int .i64 0] = msgV (named12 5 s r t e m c n x0 x1 x2 x3)) := Lib.hid (by rw [hb]; rfl)
  rw [← hb]
  rw [← er.out]
  clear er hb
  go_enter Try.func21, Try.ntmps21
  go_wp2_with fail
  refine bodyPost_ret (by simp [results, Try.results21, go_sem]) rfl ⟨rfl, ?_⟩
  exact below_alloc3 w _ _ _
set_option maxRecDepth 100000 in
set_option maxHeartbeats 1600000 in
theorem named_6 (s r t e m c n x0 x1 x2 x3 : Int) (w : World) :
    Calls Try.prog 21 #[.agg #[.int .i64 6, .int .i64 s, .int .i64 r, .int .i64 t, .int .i64 e, .int .i64 m, .int .i64 c, .bool (n == 1), .int .i64 x0, .int .i64 x1, .int .i64 x2, .int .i64 x3]] w fun e' w' => e' = .returned (.agg (msgV (named12 6 s r t e m c n x0 x1 x2 x3))) ∧ Below w.heap.size w w' := by
  obtain ⟨b, hb⟩ : ∃ b, b = (n == 1) := ⟨_, rfl⟩
  have er : Hid (#[.int .i64 6, .int .i64 s, .int .i64 0, .int .i64 t, .int .i64 0, .int .i64 0, .int .i64 0, .bool false, .int .i64 0, .int .i64 0, .int .i64 0, .int .i64 0] = msgV (named12 6 s r t e m c n x0 x1 x2 x3)) := Lib.hid (by rfl)
  rw [← hb]
  rw [← er.out]
  clear er hb
  go_enter Try.func21, Try.ntmps21
  go_wp2_with fail
  refine bodyPost_ret (by simp [results, Try.results21, go_sem]) rfl ⟨rfl, ?_⟩
  exact below_alloc3 w _ _ _
set_option maxRecDepth 100000 in
set_option maxHeartbeats 1600000 in
theorem named_7 (s r t e m c n x0 x1 x2 x3 : Int) (w : World) :
    Calls Try.prog 21 #[.agg #[.int .i64 7, .int .i64 s, .int .i64 r, .int .i64 t, .int .i64 e, .int .i64 m, .int .i64 c, .bool (n == 1), .int .i64 x0, .int .i64 x1, .int .i64 x2, .int .i64 x3]] w fun e' w' => e' = .returned (.agg (msgV (named12 7 s r t e m c n x0 x1 x2 x3))) ∧ Below w.heap.size w w' := by
  obtain ⟨b, hb⟩ : ∃ b, b = (n == 1) := ⟨_, rfl⟩
  have er : Hid (#[.int .i64 7, .int .i64 s, .int .i64 0, .int .i64 0, .int .i64 e, .int .i64 0, .int .i64 0, .bool false, .int .i64 0, .int .i64 0, .int .i64 0, .int .i64 0] = msgV (named12 7 s r t e m c n x0 x1 x2 x3)) := Lib.hid (by rfl)
  rw [← hb]
  rw [← er.out]
  clear er hb
  go_enter Try.func21, Try.ntmps21
  go_wp2_with fail
  refine bodyPost_ret (by simp [results, Try.results21, go_sem]) rfl ⟨rfl, ?_⟩
  exact below_alloc3 w _ _ _
set_option maxRecDepth 100000 in
set_option maxHeartbeats 1600000 in
theorem named_8 (s r t e m c n x0 x1 x2 x3 : Int) (w : World) :
    Calls Try.prog 21 #[.agg #[.int .i64 8, .int .i64 s, .int .i64 r, .int .i64 t, .int .i64 e, .int .i64 m, .int .i64 c, .bool (n == 1), .int .i64 x0, .int .i64 x1, .int .i64 x2, .int .i64 x3]] w fun e' w' => e' = .returned (.agg (msgV (named12 8 s r t e m c n x0 x1 x2 x3))) ∧ Below w.heap.size w w' := by
  obtain ⟨b, hb⟩ : ∃ b, b = (n == 1) := ⟨_, rfl⟩
  have er : Hid (#[.int .i64 8, .int .i64 s, .int .i64 0, .int .i64 0, .int .i64 0, .int .i64 0, .int .i64 0, .bool false, .int .i64 0, .int .i64 0, .int .i64 0, .int .i64 0] = msgV (named12 8 s r t e m c n x0 x1 x2 x3)) := Lib.hid (by rfl)
  rw [← hb]
  rw [← er.out]
  clear er hb
  go_enter Try.func21, Try.ntmps21
  go_wp2_with fail
  refine bodyPost_ret (by simp [results, Try.results21, go_sem]) rfl ⟨rfl, ?_⟩
  exact below_alloc3 w _ _ _
set_option maxRecDepth 100000 in
set_option maxHeartbeats 1600000 in
theorem named_9 (s r t e m c n x0 x1 x2 x3 : Int) (w : World) :
    Calls Try.prog 21 #[.agg #[.int .i64 9, .int .i64 s, .int .i64 r, .int .i64 t, .int .i64 e, .int .i64 m, .int .i64 c, .bool (n == 1), .int .i64 x0, .int .i64 x1, .int .i64 x2, .int .i64 x3]] w fun e' w' => e' = .returned (.agg (msgV (named12 9 s r t e m c n x0 x1 x2 x3))) ∧ Below w.heap.size w w' := by
  obtain ⟨b, hb⟩ : ∃ b, b = (n == 1) := ⟨_, rfl⟩
  have er : Hid (#[.int .i64 9, .int .i64 s, .int .i64 0, .int .i64 0, .int .i64 0, .int .i64 0, .int .i64 0, .bool false, .int .i64 0, .int .i64 0, .int .i64 0, .int .i64 0] = msgV (named12 9 s r t e m c n x0 x1 x2 x3)) := Lib.hid (by rfl)
  rw [← hb]
  rw [← er.out]
  clear er hb
  go_enter Try.func21, Try.ntmps21
  go_wp2_with fail
  refine bodyPost_ret (by simp [results, Try.results21, go_sem]) rfl ⟨rfl, ?_⟩
  exact below_alloc3 w _ _ _
set_option maxRecDepth 100000 in
set_option maxHeartbeats 1600000 in
theorem named_10 (s r t e m c n x0 x1 x2 x3 : Int) (w : World) :
    Calls Try.prog 21 #[.agg #[.int .i64 10, .int .i64 s, .int .i64 r, .int .i64 t, .int .i64 e, .int .i64 m, .int .i64 c, .bool (n == 1), .int .i64 x0, .int .i64 x1, .int .i64 x2, .int .i64 x3]] w fun e' w' => e' = .returned (.agg (msgV (named12 10 s r t e m c n x0 x1 x2 x3))) ∧ Below w.heap.size w w' := by
  obtain ⟨b, hb⟩ : ∃ b, b = (n == 1) := ⟨_, rfl⟩
  have er : Hid (#[.int .i64 10, .int .i64 s, .int .i64 0, .int .i64 0, .int .i64 e, .int .i64 m, .int .i64 0, .bool false, .int .i64 0, .int .i64 0, .int .i64 0, .int .i64 0] = msgV (named12 10 s r t e m c n x0 x1 x2 x3)) := Lib.hid (by rfl)
  rw [← hb]
  rw [← er.out]
  clear er hb
  go_enter Try.func21, Try.ntmps21
  go_wp2_with fail
  refine bodyPost_ret (by simp [results, Try.results21, go_sem]) rfl ⟨rfl, ?_⟩
  exact below_alloc3 w _ _ _
set_option maxRecDepth 100000 in
set_option maxHeartbeats 1600000 in
theorem named_11 (s r t e m c n x0 x1 x2 x3 : Int) (w : World) :
    Calls Try.prog 21 #[.agg #[.int .i64 11, .int .i64 s, .int .i64 r, .int .i64 t, .int .i64 e, .int .i64 m, .int .i64 c, .bool (n == 1), .int .i64 x0, .int .i64 x1, .int .i64 x2, .int .i64 x3]] w fun e' w' => e' = .returned (.agg (msgV (named12 11 s r t e m c n x0 x1 x2 x3))) ∧ Below w.heap.size w w' := by
  obtain ⟨b, hb⟩ : ∃ b, b = (n == 1) := ⟨_, rfl⟩
  have er : Hid (#[.int .i64 11, .int .i64 s, .int .i64 0, .int .i64 0, .int .i64 e, .int .i64 0, .int .i64 c, .bool false, .int .i64 x0, .int .i64 x1, .int .i64 x2, .int .i64 x3] = msgV (named12 11 s r t e m c n x0 x1 x2 x3)) := Lib.hid (by rfl)
  rw [← hb]
  rw [← er.out]
  clear er hb
  go_enter Try.func21, Try.ntmps21
  go_wp2_with fail
  refine bodyPost_ret (by simp [results, Try.results21, go_sem]) rfl ⟨rfl, ?_⟩
  exact below_alloc3 w _ _ _
end Go.Proofs.Ytakahkpogooepaa
