/- Several texts in one. -/
import Derived.Test.YtapednkmefbldaaDoorJmR
import Derived.Test.YtapednkmefbldaaDoorCopy

/- sidestickref08.Fit: a message that may be. -/
namespace Go.Proofs.YtapednkmefbldaaDoor
open Go.RowKit

def named12 (k s r t e m c n x0 x1 x2 x3 : Int) : List Int :=
  if k = 1 ∨ k = 2 then [k, 0, r, 0, 0, 0, 0, 0, 0, 0, 0, 0] else if k = 5 then [k, s, 0, 0, 0, 0, 0, n, 0, 0, 0, 0] else if k = 6 then [k, s, 0, t, 0, 0, 0, 0, 0, 0, 0, 0] else if k = 7 then [k, s, 0, 0, e, 0, 0, 0, 0, 0, 0, 0]
  else if k = 10 then [k, s, 0, 0, e, m, 0, 0, 0, 0, 0, 0] else if k = 11 then [k, s, 0, 0, e, 0, c, 0, x0, x1, x2, x3] else [k, s, 0, 0, 0, 0, 0, 0, 0, 0, 0, 0]
def inb (n : Int) : Bool := n == 1
set_option maxRecDepth 100000 in
set_option maxHeartbeats 1600000 in
theorem named_1 (s r t e m c n x0 x1 x2 x3 : Int) (w : World) :
    Calls Tryd.prog 45 #[.agg #[.int .i64 1, .int .i64 s, .int .i64 r, .int .i64 t, .int .i64 e, .int .i64 m, .int .i64 c, .bool (n == 1), .int .i64 x0, .int .i64 x1, .int .i64 x2, .int .i64 x3]] w fun e' w' => e' = .returned (.agg (msgV (named12 1 s r t e m c n x0 x1 x2 x3))) ∧ Below w.heap.size w w' := by
  obtain ⟨b, hb⟩ : ∃ b, b = (n == 1) := ⟨_, rfl⟩
  have er : Hid (#[.int .i64 1, .int .i64 0, .int .i64 r, .int .i64 0, .int .i64 0, .int .i64 0, .int .i64 0, .bool false, .int .i64 0, .int .i64 0, .int .i64 0, .int .i64 0] = msgV (named12 1 s r t e m c n x0 x1 x2 x3)) := Lib.hid (by rfl)
  rw [← hb]
  rw [← er.out]
  clear er hb
  go_enter Tryd.func45, Tryd.ntmps45
  go_wp2_with fail
  refine bodyPost_ret (by simp [results, Tryd.results45, go_sem]) rfl ⟨rfl, ?_⟩
  exact below_alloc3 w _ _ _
set_option maxRecDepth 100000 in
set_option maxHeartbeats 1600000 in
theorem named_2 (s r t e m c n x0 x1 x2 x3 : Int) (w : World) :
    Calls Tryd.prog 45 #[.agg #[.int .i64 2, .int .i64 s, .int .i64 r, .int .i64 t, .int .i64 e, .int .i64 m, .int .i64 c, .bool (n == 1), .int .i64 x0, .int .i64 x1, .int .i64 x2, .int .i64 x3]] w fun e' w' => e' = .returned (.agg (msgV (named12 2 s r t e m c n x0 x1 x2 x3))) ∧ Below w.heap.size w w' := by
  obtain ⟨b, hb⟩ : ∃ b, b = (n == 1) := ⟨_, rfl⟩
  have er : Hid (#[.int .i64 2, .int .i64 0, .int .i64 r, .int .i64 0, .int .i64 0, .int .i64 0, .int .i64 0, .bool false, .int .i64 0, .int .i64 0, .int .i64 0, .int .i64 0] = msgV (named12 2 s r t e m c n x0 x1 x2 x3)) := Lib.hid (by rfl)
  rw [← hb]
  rw [← er.out]
  clear er hb
  go_enter Tryd.func45, Tryd.ntmps45
  go_wp2_with fail
  refine bodyPost_ret (by simp [results, Tryd.results45, go_sem]) rfl ⟨rfl, ?_⟩
  exact below_alloc3 w _ _ _
set_option maxRecDepth 100000 in
set_option maxHeartbeats 1600000 in
theorem named_3 (s r t e m c n x0 x1 x2 x3 : Int) (w : World) :
    Calls Tryd.prog 45 #[.agg #[.int .i64 3, .int .i64 s, .int .i64 r, .int .i64 t, .int .i64 e, .int .i64 m, .int .i64 c, .bool (n == 1), .int .i64 x0, .int .i64 x1, .int .i64 x2, .int .i64 x3]] w fun e' w' => e' = .returned (.agg (msgV (named12 3 s r t e m c n x0 x1 x2 x3))) ∧ Below w.heap.size w w' := by
  obtain ⟨b, hb⟩ : ∃ b, b = (n == 1) := ⟨_, rfl⟩
  have er : Hid (#[.int .i64 3, .int .i64 s, .int .i64 0, .int .i64 0, .int .i64 0, .int .i64 0, .int .i64 0, .bool false, .int .i64 0, .int .i64 0, .int .i64 0, .int .i64 0] = msgV (named12 3 s r t e m c n x0 x1 x2 x3)) := Lib.hid (by rfl)
  rw [← hb]
  rw [← er.out]
  clear er hb
  go_enter Tryd.func45, Tryd.ntmps45
  go_wp2_with fail
  refine bodyPost_ret (by simp [results, Tryd.results45, go_sem]) rfl ⟨rfl, ?_⟩
  exact below_alloc3 w _ _ _
set_option maxRecDepth 100000 in
set_option maxHeartbeats 1600000 in
theorem named_4 (s r t e m c n x0 x1 x2 x3 : Int) (w : World) :
    Calls Tryd.prog 45 #[.agg #[.int .i64 4, .int .i64 s, .int .i64 r, .int .i64 t, .int .i64 e, .int .i64 m, .int .i64 c, .bool (n == 1), .int .i64 x0, .int .i64 x1, .int .i64 x2, .int .i64 x3]] w fun e' w' => e' = .returned (.agg (msgV (named12 4 s r t e m c n x0 x1 x2 x3))) ∧ Below w.heap.size w w' := by
  obtain ⟨b, hb⟩ : ∃ b, b = (n == 1) := ⟨_, rfl⟩
  have er : Hid (#[.int .i64 4, .int .i64 s, .int .i64 0, .int .i64 0, .int .i64 0, .int .i64 0, .int .i64 0, .bool false, .int .i64 0, .int .i64 0, .int .i64 0, .int .i64 0] = msgV (named12 4 s r t e m c n x0 x1 x2 x3)) := Lib.hid (by rfl)
  rw [← hb]
  rw [← er.out]
  clear er hb
  go_enter Tryd.func45, Tryd.ntmps45
  go_wp2_with fail
  refine bodyPost_ret (by simp [results, Tryd.results45, go_sem]) rfl ⟨rfl, ?_⟩
  exact below_alloc3 w _ _ _
set_option maxRecDepth 100000 in
set_option maxHeartbeats 1600000 in
theorem named_5 (s r t e m c n x0 x1 x2 x3 : Int) (w : World) :
    Calls Tryd.prog 45 #[.agg #[.int .i64 5, .int .i64 s, .int .i64 r, .int .i64 t, .int .i64 e, .int .i64 m, .int .i64 c, .bool (n == 1), .int .i64 x0, .int .i64 x1, .int .i64 x2, .int .i64 x3]] w fun e' w' => e' = .returned (.agg (msgV (named12 5 s r t e m c n x0 x1 x2 x3))) ∧ Below w.heap.size w w' := by
  obtain ⟨b, hb⟩ : ∃ b, b = (n == 1) := ⟨_, rfl⟩
  have er : Hid (#[.int .i64 5, .int .i64 s, .int .i64 0, .int .i64 0, .int .i64 0, .int .i64 0, .int .i64 0, .bool b, .int .i64 0, .int .i64 0, .int .i64 0, .int .i64 0] = msgV (named12 5 s r t e m c n x0 x1 x2 x3)) := Lib.hid (by rw [hb]; rfl)
  rw [← hb]
  rw [← er.out]
  clear er hb
  go_enter Tryd.func45, Tryd.ntmps45
  go_wp2_with fail
  refine bodyPost_ret (by simp [results, Tryd.results45, go_sem]) rfl ⟨rfl, ?_⟩
  exact below_alloc3 w _ _ _
set_option maxRecDepth 100000 in
set_option maxHeartbeats 1600000 in
theorem named_6 (s r t e m c n x0 x1 x2 x3 : Int) (w : World) :
    Calls Tryd.prog 45 #[.agg #[.int .i64 6, .int .i64 s, .int .i64 r, .int .i64 t, .int .i64 e, .int .i64 m, .int .i64 c, .bool (n == 1), .int .i64 x0, .int .i64 x1, .int .i64 x2, .int .i64 x3]] w fun e' w' => e' = .returned (.agg (msgV (named12 6 s r t e m c n x0 x1 x2 x3))) ∧ Below w.heap.size w w' := by
  obtain ⟨b, hb⟩ : ∃ b, b = (n == 1) := ⟨_, rfl⟩
  have er : Hid (#[.int .i64 6, .int .i64 s, .int .i64 0, .int .i64 t, .int .i64 0, .int .i64 0, .int .i64 0, .bool false, .int .i64 0, .int .i64 0, .int .i64 0, .int .i64 0] = msgV (named12 6 s r t e m c n x0 x1 x2 x3)) := Lib.hid (by rfl)
  rw [← hb]
  rw [← er.out]
  clear er hb
  go_enter Tryd.func45, Tryd.ntmps45
  go_wp2_with fail
  refine bodyPost_ret (by simp [results, Tryd.results45, go_sem]) rfl ⟨rfl, ?_⟩
  exact below_alloc3 w _ _ _
set_option maxRecDepth 100000 in
set_option maxHeartbeats 1600000 in
theorem named_7 (s r t e m c n x0 x1 x2 x3 : Int) (w : World) :
    Calls Tryd.prog 45 #[.agg #[.int .i64 7, .int .i64 s, .int .i64 r, .int .i64 t, .int .i64 e, .int .i64 m, .int .i64 c, .bool (n == 1), .int .i64 x0, .int .i64 x1, .int .i64 x2, .int .i64 x3]] w fun e' w' => e' = .returned (.agg (msgV (named12 7 s r t e m c n x0 x1 x2 x3))) ∧ Below w.heap.size w w' := by
  obtain ⟨b, hb⟩ : ∃ b, b = (n == 1) := ⟨_, rfl⟩
  have er : Hid (#[.int .i64 7, .int .i64 s, .int .i64 0, .int .i64 0, .int .i64 e, .int .i64 0, .int .i64 0, .bool false, .int .i64 0, .int .i64 0, .int .i64 0, .int .i64 0] = msgV (named12 7 s r t e m c n x0 x1 x2 x3)) := Lib.hid (by rfl)
  rw [← hb]
  rw [← er.out]
  clear er hb
  go_enter Tryd.func45, Tryd.ntmps45
  go_wp2_with fail
  refine bodyPost_ret (by simp [results, Tryd.results45, go_sem]) rfl ⟨rfl, ?_⟩
  exact below_alloc3 w _ _ _
set_option maxRecDepth 100000 in
set_option maxHeartbeats 1600000 in
theorem named_8 (s r t e m c n x0 x1 x2 x3 : Int) (w : World) :
    Calls Tryd.prog 45 #[.agg #[.int .i64 8, .int .i64 s, .int .i64 r, .int .i64 t, .int .i64 e, .int .i64 m, .int .i64 c, .bool (n == 1), .int .i64 x0, .int .i64 x1, .int .i64 x2, .int .i64 x3]] w fun e' w' => e' = .returned (.agg (msgV (named12 8 s r t e m c n x0 x1 x2 x3))) ∧ Below w.heap.size w w' := by
  obtain ⟨b, hb⟩ : ∃ b, b = (n == 1) := ⟨_, rfl⟩
  have er : Hid (#[.int .i64 8, .int .i64 s, .int .i64 0, .int .i64 0, .int .i64 0, .int .i64 0, .int .i64 0, .bool false, .int .i64 0, .int .i64 0, .int .i64 0, .int .i64 0] = msgV (named12 8 s r t e m c n x0 x1 x2 x3)) := Lib.hid (by rfl)
  rw [← hb]
  rw [← er.out]
  clear er hb
  go_enter Tryd.func45, Tryd.ntmps45
  go_wp2_with fail
  refine bodyPost_ret (by simp [results, Tryd.results45, go_sem]) rfl ⟨rfl, ?_⟩
  exact below_alloc3 w _ _ _
set_option maxRecDepth 100000 in
set_option maxHeartbeats 1600000 in
theorem named_9 (s r t e m c n x0 x1 x2 x3 : Int) (w : World) :
    Calls Tryd.prog 45 #[.agg #[.int .i64 9, .int .i64 s, .int .i64 r, .int .i64 t, .int .i64 e, .int .i64 m, .int .i64 c, .bool (n == 1), .int .i64 x0, .int .i64 x1, .int .i64 x2, .int .i64 x3]] w fun e' w' => e' = .returned (.agg (msgV (named12 9 s r t e m c n x0 x1 x2 x3))) ∧ Below w.heap.size w w' := by
  obtain ⟨b, hb⟩ : ∃ b, b = (n == 1) := ⟨_, rfl⟩
  have er : Hid (#[.int .i64 9, .int .i64 s, .int .i64 0, .int .i64 0, .int .i64 0, .int .i64 0, .int .i64 0, .bool false, .int .i64 0, .int .i64 0, .int .i64 0, .int .i64 0] = msgV (named12 9 s r t e m c n x0 x1 x2 x3)) := Lib.hid (by rfl)
  rw [← hb]
  rw [← er.out]
  clear er hb
  go_enter Tryd.func45, Tryd.ntmps45
  go_wp2_with fail
  refine bodyPost_ret (by simp [results, Tryd.results45, go_sem]) rfl ⟨rfl, ?_⟩
  exact below_alloc3 w _ _ _
set_option maxRecDepth 100000 in
set_option maxHeartbeats 1600000 in
theorem named_10 (s r t e m c n x0 x1 x2 x3 : Int) (w : World) :
    Calls Tryd.prog 45 #[.agg #[.int .i64 10, .int .i64 s, .int .i64 r, .int .i64 t, .int .i64 e, .int .i64 m, .int .i64 c, .bool (n == 1), .int .i64 x0, .int .i64 x1, .int .i64 x2, .int .i64 x3]] w fun e' w' => e' = .returned (.agg (msgV (named12 10 s r t e m c n x0 x1 x2 x3))) ∧ Below w.heap.size w w' := by
  obtain ⟨b, hb⟩ : ∃ b, b = (n == 1) := ⟨_, rfl⟩
  have er : Hid (#[.int .i64 10, .int .i64 s, .int .i64 0, .int .i64 0, .int .i64 e, .int .i64 m, .int .i64 0, .bool false, .int .i64 0, .int .i64 0, .int .i64 0, .int .i64 0] = msgV (named12 10 s r t e m c n x0 x1 x2 x3)) := Lib.hid (by rfl)
  rw [← hb]
  rw [← er.out]
  clear er hb
  go_enter Tryd.func45, Tryd.ntmps45
  go_wp2_with fail
  refine bodyPost_ret (by simp [results, Tryd.results45, go_sem]) rfl ⟨rfl, ?_⟩
  exact below_alloc3 w _ _ _
set_option maxRecDepth 100000 in
set_option maxHeartbeats 1600000 in
theorem named_11 (s r t e m c n x0 x1 x2 x3 : Int) (w : World) :
    Calls Tryd.prog 45 #[.agg #[.int .i64 11, .int .i64 s, .int .i64 r, .int .i64 t, .int .i64 e, .int .i64 m, .int .i64 c, .bool (n == 1), .int .i64 x0, .int .i64 x1, .int .i64 x2, .int .i64 x3]] w fun e' w' => e' = .returned (.agg (msgV (named12 11 s r t e m c n x0 x1 x2 x3))) ∧ Below w.heap.size w w' := by
  obtain ⟨b, hb⟩ : ∃ b, b = (n == 1) := ⟨_, rfl⟩
  have er : Hid (#[.int .i64 11, .int .i64 s, .int .i64 0, .int .i64 0, .int .i64 e, .int .i64 0, .int .i64 c, .bool false, .int .i64 x0, .int .i64 x1, .int .i64 x2, .int .i64 x3] = msgV (named12 11 s r t e m c n x0 x1 x2 x3)) := Lib.hid (by rfl)
  rw [← hb]
  rw [← er.out]
  clear er hb
  go_enter Tryd.func45, Tryd.ntmps45
  go_wp2_with fail
  refine bodyPost_ret (by simp [results, Tryd.results45, go_sem]) rfl ⟨rfl, ?_⟩
  exact below_alloc3 w _ _ _
end Go.Proofs.YtapednkmefbldaaDoor

/- sidestickref02.Put of four bytes, of two; PutInt; sidestickref08.put, in. -/
namespace Go.Proofs.YtapednkmefbldaaDoor
open Go.RowKit

theorem be_4v (n : Int) (h0 : 0 ≤ n) : be n 4 = [n / 256 / 256 / 256 % 256, n / 256 / 256 % 256, n / 256 % 256, n % 256] := by
  rw [be_cons, be_cons, be_cons, be_cons, be_zero]
  simp only [show (2 : Int) ^ (8 * 0) = 1 from rfl, show (2 : Int) ^ (8 * 1) = 256 from rfl, show (2 : Int) ^ (8 * 2) = 65536 from rfl, show (2 : Int) ^ (8 * 3) = 16777216 from rfl, List.cons.injEq, and_true]
  refine ⟨?_, ?_, ?_, ?_⟩ <;> first | trivial | omega
set_option maxRecDepth 100000 in
set_option maxHeartbeats 400000 in
theorem ref02_4 (n : Int) (h0 : 0 ≤ n) (h1 : n ≤ 4294967295) (w : World) :
    Calls Tryd.prog 59 #[.int .u64 n, .int .i64 4] w fun e w' => ∃ g, e = .returned (.tuple #[.slice (some ⟨g, 0, none⟩) 4 4, .int .i64 0]) ∧ Blk w' g (u8V (be n 4)) 5 ∧ Below w.heap.size w w' := by
  have e4 : ((n / 256 / 256 / 256 / 256) != 0) = false := by simp; omega
  have hmk : ∀ W : World, (Instr.makeSlice 23 (.int .i64 4) (.int .i64 4)).run Tryd.prog W = .ok (.slice (some ⟨W.heap.size, 0, none⟩) 4 4) (W.alloc (.cells #[.int .u8 0, .int .u8 0, .int .u8 0, .int .u8 0] 5)) := run_makeU8 4 (by omega)
  go_enter Tryd.func59, Tryd.ntmps59
  go_wp2_with fail
  refine wp_loop_rounds 5 ?_
  rw [rounds_succ]
  go_wp2_with fail
  rw [rounds_succ]
  go_wp2_with fail
  rw [rounds_succ]
  go_wp2_with fail
  rw [rounds_succ]
  go_wp2_with fail
  rw [rounds_succ]
  go_wp2_with fail
  go_ret2
  have B0 := be_4v n h0
  refine ⟨_, rfl, ?_, below_alloc1 w _⟩
  rw [B0]
  exact heap_alloc_new _ _
theorem be_2v (n : Int) (h0 : 0 ≤ n) : be n 2 = [n / 256 % 256, n % 256] := by
  rw [be_cons, be_cons, be_zero]
  simp only [show (2 : Int) ^ (8 * 0) = 1 from rfl, show (2 : Int) ^ (8 * 1) = 256 from rfl, List.cons.injEq, and_true]
  refine ⟨?_, ?_⟩ <;> first | trivial | omega
set_option maxRecDepth 100000 in
set_option maxHeartbeats 400000 in
theorem ref02_2 (n : Int) (h0 : 0 ≤ n) (h1 : n ≤ 65535) (w : World) :
    Calls Tryd.prog 59 #[.int .u64 n, .int .i64 2] w fun e w' => ∃ g, e = .returned (.tuple #[.slice (some ⟨g, 0, none⟩) 2 2, .int .i64 0]) ∧ Blk w' g (u8V (be n 2)) 5 ∧ Below w.heap.size w w' := by
  have e4 : ((n / 256 / 256) != 0) = false := by simp; omega
  have hmk : ∀ W : World, (Instr.makeSlice 23 (.int .i64 2) (.int .i64 2)).run Tryd.prog W = .ok (.slice (some ⟨W.heap.size, 0, none⟩) 2 2) (W.alloc (.cells #[.int .u8 0, .int .u8 0] 5)) := run_makeU8 2 (by omega)
  go_enter Tryd.func59, Tryd.ntmps59
  go_wp2_with fail
  refine wp_loop_rounds 3 ?_
  rw [rounds_succ]
  go_wp2_with fail
  rw [rounds_succ]
  go_wp2_with fail
  rw [rounds_succ]
  go_wp2_with fail
  go_ret2
  have B0 := be_2v n h0
  refine ⟨_, rfl, ?_, below_alloc1 w _⟩
  rw [B0]
  exact heap_alloc_new _ _
set_option maxRecDepth 100000 in
set_option maxHeartbeats 400000 in
theorem ref02_int (n : Int) (h0 : -32768 ≤ n) (h1 : n ≤ 32767) (w : World) :
    Calls Tryd.prog 47 #[.int .i64 n] w fun e w' => ∃ g, e = .returned (.tuple #[.slice (some ⟨g, 0, none⟩) 2 2, .int .i64 0]) ∧ Blk w' g (u8V (be (n % 65536) 2)) 5 ∧ Below w.heap.size w w' := by
  have CP := Lib.hid (fun W => ref02_2 (n % 65536) (by omega) (by omega) W)
  by_cases hn : n < 0
  · have e : n + 65536 = n % 65536 := by omega
    have hd : decide (n < 0) = true := decide_eq_true hn
    have b0 : 0 ≤ n % 65536 := by omega
    have b1 : n % 65536 ≤ 65535 := by omega
    go_enter Tryd.func47, Tryd.ntmps47
    go_wp2_with fail
    ((with_reducible refine (CP.out _).mono ?_))
    rintro e w1 ⟨g, rfl, r, b⟩
    go_wp2_with fail
    go_ret2
    exact ⟨g, rfl, r, b⟩
  · have e : n % 65536 = n := by omega
    have hd : decide (n < 0) = false := decide_eq_false hn
    rw [e] at CP
    rw [e]
    clear e
    go_enter Tryd.func47, Tryd.ntmps47
    go_wp2_with fail
    ((with_reducible refine (CP.out _).mono ?_))
    rintro e w1 ⟨g, rfl, r, b⟩
    go_wp2_with fail
    go_ret2
    exact ⟨g, rfl, r, b⟩
set_option maxRecDepth 100000 in
set_option maxHeartbeats 400000 in
theorem ref08_4 (n : Int) (h0 : 0 ≤ n) (h1 : n ≤ 4294967295) (w : World) :
    Calls Tryd.prog 46 #[.int .i64 n, .int .i64 4] w fun e w' => ∃ g, e = .returned (.slice (some ⟨g, 0, none⟩) 4 4) ∧ Blk w' g (u8V (be n 4)) 5 ∧ Below w.heap.size w w' := by
  have CP := Lib.hid (fun W => ref02_4 n h0 h1 W)
  go_enter Tryd.func46, Tryd.ntmps46
  go_wp2_with fail
  ((with_reducible refine (CP.out _).mono ?_))
  rintro e w1 ⟨g, rfl, r, b⟩
  go_wp2_with fail
  go_ret
  exact ⟨g, rfl, r, b⟩
set_option maxRecDepth 100000 in
set_option maxHeartbeats 400000 in
theorem ref08_2 (n : Int) (h0 : 0 ≤ n) (h1 : n ≤ 65535) (w : World) :
    Calls Tryd.prog 46 #[.int .i64 n, .int .i64 2] w fun e w' => ∃ g, e = .returned (.slice (some ⟨g, 0, none⟩) 2 2) ∧ Blk w' g (u8V (be n 2)) 5 ∧ Below w.heap.size w w' := by
  have CP := Lib.hid (fun W => ref02_2 n h0 h1 W)
  go_enter Tryd.func46, Tryd.ntmps46
  go_wp2_with fail
  ((with_reducible refine (CP.out _).mono ?_))
  rintro e w1 ⟨g, rfl, r, b⟩
  go_wp2_with fail
  go_ret
  exact ⟨g, rfl, r, b⟩
/-- whether a number is within bounds -/
def inB (n lo hi : Int) : Bool := decide (lo ≤ n) && decide (n ≤ hi)
set_option maxRecDepth 100000 in
set_option maxHeartbeats 400000 in
theorem in_any (n lo hi : Int) (w : World) : Calls Tryd.prog 58 #[.int .i64 n, .int .i64 lo, .int .i64 hi] w fun e w' => e = .returned (.bool (inB n lo hi)) ∧ w = w' := by
  unfold inB
  by_cases h0 : lo ≤ n
  · have d0 : decide (lo ≤ n) = true := decide_eq_true h0
    rw [d0, Bool.true_and]
    by_cases h1 : n ≤ hi
    · have d1 : decide (n ≤ hi) = true := decide_eq_true h1
      rw [d1]
      go_enter Tryd.func58, Tryd.ntmps58
      go_wp2_with fail
      go_ret
      exact ⟨rfl, rfl⟩
    · have d1 : decide (n ≤ hi) = false := decide_eq_false h1
      rw [d1]
      go_enter Tryd.func58, Tryd.ntmps58
      go_wp2_with fail
      go_ret
      exact ⟨rfl, rfl⟩
  · have d0 : decide (lo ≤ n) = false := decide_eq_false h0
    rw [d0, Bool.false_and]
    go_enter Tryd.func58, Tryd.ntmps58
    go_wp2_with fail
    go_ret
    exact ⟨rfl, rfl⟩
end Go.Proofs.YtapednkmefbldaaDoor

/- sidestickref08.fits. -/
namespace Go.Proofs.YtapednkmefbldaaDoor
open Go.RowKit

def fitsB (a0 a1 a2 a3 a4 a5 a6 a8 a9 a10 a11 : Int) : Bool := inB a8 (-32768) 32767 && inB a9 (-32768) 32767 && inB a10 (-32768) 32767 && inB a11 (-32768) 32767 && inB a0 1 11 && inB a1 0 4294967295 && inB a4 0 65535 && inB a2 0 3 && inB a3 0 4 && inB a5 0 4 && inB a6 (if a0 = 11 then 1 else 0) 3
set_option maxRecDepth 100000 in
set_option maxHeartbeats 3200000 in
theorem fits_any (a0 a1 a2 a3 a4 a5 a6 a8 a9 a10 a11 : Int) (b7 : Bool) (w : World) :
    Calls Tryd.prog 44 #[.agg #[.int .i64 a0, .int .i64 a1, .int .i64 a2, .int .i64 a3, .int .i64 a4, .int .i64 a5, .int .i64 a6, .bool b7, .int .i64 a8, .int .i64 a9, .int .i64 a10, .int .i64 a11]] w fun e w' => e = .returned (.bool (fitsB a0 a1 a2 a3 a4 a5 a6 a8 a9 a10 a11)) ∧ Below w.heap.size w w' := by
  have BB := below_alloc1 w (.cells #[.int .i64 a0, .int .i64 a1, .int .i64 a2, .int .i64 a3, .int .i64 a4, .int .i64 a5, .int .i64 a6, .bool b7, .int .i64 a8, .int .i64 a9, .int .i64 a10, .int .i64 a11] 66)
  go_enter Tryd.func44, Tryd.ntmps44
  go_wp2_with fail
  refine wp_loop_rounds 5 ?_
  rw [rounds_succ]
  go_wp2_with fail
  ((with_reducible refine (in_any _ _ _ _).mono ?_))
  rintro e w0 ⟨rfl, rfl⟩
  cases hx0 : inB a8 (-32768) 32767 with
  | false =>
    go_wp2_with fail
    go_ret
    refine ⟨?_, BB⟩
    unfold fitsB
    simp [hx0]
  | true =>
    go_wp2_with fail
    rw [rounds_succ]
    go_wp2_with fail
    ((with_reducible refine (in_any _ _ _ _).mono ?_))
    rintro e w1 ⟨rfl, rfl⟩
    cases hx1 : inB a9 (-32768) 32767 with
    | false =>
      go_wp2_with fail
      go_ret
      refine ⟨?_, BB⟩
      unfold fitsB
      simp [hx0, hx1]
    | true =>
      go_wp2_with fail
      rw [rounds_succ]
      go_wp2_with fail
      ((with_reducible refine (in_any _ _ _ _).mono ?_))
      rintro e w2 ⟨rfl, rfl⟩
      cases hx2 : inB a10 (-32768) 32767 with
      | false =>
        go_wp2_with fail
        go_ret
        refine ⟨?_, BB⟩
        unfold fitsB
        simp [hx0, hx1, hx2]
      | true =>
        go_wp2_with fail
        rw [rounds_succ]
        go_wp2_with fail
        ((with_reducible refine (in_any _ _ _ _).mono ?_))
        rintro e w3 ⟨rfl, rfl⟩
        cases hx3 : inB a11 (-32768) 32767 with
        | false =>
          go_wp2_with fail
          go_ret
          refine ⟨?_, BB⟩
          unfold fitsB
          simp [hx0, hx1, hx2, hx3]
        | true =>
          go_wp2_with fail
          rw [rounds_succ]
          by_cases h11 : a0 = 11
          · have e11 : (a0 == 11) = true := by simp [h11]
            have hif : (if a0 = 11 then (1 : Int) else 0) = 1 := if_pos h11
            replace hif := Lib.hid hif
            clear h11
            go_wp2_with fail
            ((with_reducible refine (in_any _ _ _ _).mono ?_))
            rintro e v0 ⟨rfl, rfl⟩
            cases hc0 : inB a0 1 11 with
            | false =>
              have hii := hif.out
              go_wp2_with fail
              go_ret
              refine ⟨?_, BB⟩
              unfold fitsB
              simp [hx0, hx1, hx2, hx3, hc0, hii]
            | true =>
              go_wp2_with fail
              ((with_reducible refine (in_any _ _ _ _).mono ?_))
              rintro e v1 ⟨rfl, rfl⟩
              cases hc1 : inB a1 0 4294967295 with
              | false =>
                have hii := hif.out
                go_wp2_with fail
                go_ret
                refine ⟨?_, BB⟩
                unfold fitsB
                simp [hx0, hx1, hx2, hx3, hc0, hc1, hii]
              | true =>
                go_wp2_with fail
                ((with_reducible refine (in_any _ _ _ _).mono ?_))
                rintro e v2 ⟨rfl, rfl⟩
                cases hc2 : inB a4 0 65535 with
                | false =>
                  have hii := hif.out
                  go_wp2_with fail
                  go_ret
                  refine ⟨?_, BB⟩
                  unfold fitsB
                  simp [hx0, hx1, hx2, hx3, hc0, hc1, hc2, hii]
                | true =>
                  go_wp2_with fail
                  ((with_reducible refine (in_any _ _ _ _).mono ?_))
                  rintro e v3 ⟨rfl, rfl⟩
                  cases hc3 : inB a2 0 3 with
                  | false =>
                    have hii := hif.out
                    go_wp2_with fail
                    go_ret
                    refine ⟨?_, BB⟩
                    unfold fitsB
                    simp [hx0, hx1, hx2, hx3, hc0, hc1, hc2, hc3, hii]
                  | true =>
                    go_wp2_with fail
                    ((with_reducible refine (in_any _ _ _ _).mono ?_))
                    rintro e v4 ⟨rfl, rfl⟩
                    cases hc4 : inB a3 0 4 with
                    | false =>
                      have hii := hif.out
                      go_wp2_with fail
                      go_ret
                      refine ⟨?_, BB⟩
                      unfold fitsB
                      simp [hx0, hx1, hx2, hx3, hc0, hc1, hc2, hc3, hc4, hii]
                    | true =>
                      go_wp2_with fail
                      ((with_reducible refine (in_any _ _ _ _).mono ?_))
                      rintro e v5 ⟨rfl, rfl⟩
                      cases hc5 : inB a5 0 4 with
                      | false =>
                        have hii := hif.out
                        go_wp2_with fail
                        go_ret
                        refine ⟨?_, BB⟩
                        unfold fitsB
                        simp [hx0, hx1, hx2, hx3, hc0, hc1, hc2, hc3, hc4, hc5, hii]
                      | true =>
                        go_wp2_with fail
                        ((with_reducible refine (in_any _ _ _ _).mono ?_))
                        rintro e v6 ⟨rfl, rfl⟩
                        cases hc6 : inB a6 1 3 with
                        | false =>
                          have hii := hif.out
                          go_wp2_with fail
                          go_ret
                          refine ⟨?_, BB⟩
                          unfold fitsB
                          simp [hx0, hx1, hx2, hx3, hc0, hc1, hc2, hc3, hc4, hc5, hc6, hii]
                        | true =>
                          have hii := hif.out
                          go_wp2_with fail
                          go_ret
                          refine ⟨?_, BB⟩
                          unfold fitsB
                          simp [hx0, hx1, hx2, hx3, hc0, hc1, hc2, hc3, hc4, hc5, hc6, hii]
          · have e11 : (a0 == 11) = false := by simp [h11]
            have hif : (if a0 = 11 then (1 : Int) else 0) = 0 := if_neg h11
            replace hif := Lib.hid hif
            clear h11
            go_wp2_with fail
            ((with_reducible refine (in_any _ _ _ _).mono ?_))
            rintro e v0 ⟨rfl, rfl⟩
            cases hc0 : inB a0 1 11 with
            | false =>
              have hii := hif.out
              go_wp2_with fail
              go_ret
              refine ⟨?_, BB⟩
              unfold fitsB
              simp [hx0, hx1, hx2, hx3, hc0, hii]
            | true =>
              go_wp2_with fail
              ((with_reducible refine (in_any _ _ _ _).mono ?_))
              rintro e v1 ⟨rfl, rfl⟩
              cases hc1 : inB a1 0 4294967295 with
              | false =>
                have hii := hif.out
                go_wp2_with fail
                go_ret
                refine ⟨?_, BB⟩
                unfold fitsB
                simp [hx0, hx1, hx2, hx3, hc0, hc1, hii]
              | true =>
                go_wp2_with fail
                ((with_reducible refine (in_any _ _ _ _).mono ?_))
                rintro e v2 ⟨rfl, rfl⟩
                cases hc2 : inB a4 0 65535 with
                | false =>
                  have hii := hif.out
                  go_wp2_with fail
                  go_ret
                  refine ⟨?_, BB⟩
                  unfold fitsB
                  simp [hx0, hx1, hx2, hx3, hc0, hc1, hc2, hii]
                | true =>
                  go_wp2_with fail
                  ((with_reducible refine (in_any _ _ _ _).mono ?_))
                  rintro e v3 ⟨rfl, rfl⟩
                  cases hc3 : inB a2 0 3 with
                  | false =>
                    have hii := hif.out
                    go_wp2_with fail
                    go_ret
                    refine ⟨?_, BB⟩
                    unfold fitsB
                    simp [hx0, hx1, hx2, hx3, hc0, hc1, hc2, hc3, hii]
                  | true =>
                    go_wp2_with fail
                    ((with_reducible refine (in_any _ _ _ _).mono ?_))
                    rintro e v4 ⟨rfl, rfl⟩
                    cases hc4 : inB a3 0 4 with
                    | false =>
                      have hii := hif.out
                      go_wp2_with fail
                      go_ret
                      refine ⟨?_, BB⟩
                      unfold fitsB
                      simp [hx0, hx1, hx2, hx3, hc0, hc1, hc2, hc3, hc4, hii]
                    | true =>
                      go_wp2_with fail
                      ((with_reducible refine (in_any _ _ _ _).mono ?_))
                      rintro e v5 ⟨rfl, rfl⟩
                      cases hc5 : inB a5 0 4 with
                      | false =>
                        have hii := hif.out
                        go_wp2_with fail
                        go_ret
                        refine ⟨?_, BB⟩
                        unfold fitsB
                        simp [hx0, hx1, hx2, hx3, hc0, hc1, hc2, hc3, hc4, hc5, hii]
                      | true =>
                        go_wp2_with fail
                        ((with_reducible refine (in_any _ _ _ _).mono ?_))
                        rintro e v6 ⟨rfl, rfl⟩
                        cases hc6 : inB a6 0 3 with
                        | false =>
                          have hii := hif.out
                          go_wp2_with fail
                          go_ret
                          refine ⟨?_, BB⟩
                          unfold fitsB
                          simp [hx0, hx1, hx2, hx3, hc0, hc1, hc2, hc3, hc4, hc5, hc6, hii]
                        | true =>
                          have hii := hif.out
                          go_wp2_with fail
                          go_ret
                          refine ⟨?_, BB⟩
                          unfold fitsB
                          simp [hx0, hx1, hx2, hx3, hc0, hc1, hc2, hc3, hc4, hc5, hc6, hii]
end Go.Proofs.YtapednkmefbldaaDoor

/- sidestickref08.Put: parts. -/
namespace Go.Proofs.YtapednkmefbldaaDoor
open Go.RowKit

def RPutP (l : List Int) (w : World) (e : Ending) (w' : World) : Prop :=
  (match put8 l with
   | none => e = .returned (.tuple #[.slice none 0 0, .int .i64 1])
   | some bs => ∃ A c base, e = .returned (.tuple #[.slice A bs.length c, .int .i64 0]) ∧ Own w' base A c bs) ∧ Below w.heap.size w w'
theorem rputP_none {l : List Int} {w w' : World} {e : Ending} (hp : put8 l = none) (he : e = .returned (.tuple #[.slice none 0 0, .int .i64 1])) (hb : Below w.heap.size w w') : RPutP l w e w' := by
  unfold RPutP
  rw [hp]
  exact ⟨he, hb⟩
theorem rputP_some {l bs : List Int} {w w' : World} {e : Ending} {A : Option Addr} {c base n : Nat} (hp : put8 l = some bs) (hn : bs.length = n) (he : e = .returned (.tuple #[.slice A n c, .int .i64 0])) (ho : Own w' base A c bs) (hb : Below w.heap.size w w') : RPutP l w e w' := by
  unfold RPutP
  rw [hp]
  subst hn
  exact ⟨⟨A, c, base, he, ho⟩, hb⟩
theorem blk_under {w w' : World} {g b : Nat} {cs : Array Value} {T : TypeId} (h : Blk w g cs T) (hb : Below b w w') (hg : g < b) : Blk w' g cs T := (hb.block _ hg).trans h
theorem outD_pos {d : FD} {n : Int} (h0 : ¬ d.lo < 0) (h1 : d.lo ≤ n) (h2 : n ≤ d.hi) : outD d n = some (be n d.size.toNat) := by
  unfold outD
  rw [if_neg (by omega), if_neg (by omega), if_neg h0]
theorem outD_neg {d : FD} {n : Int} (h0 : d.lo < 0) (h1 : d.lo ≤ n) (h2 : n ≤ d.hi) : outD d n = some (be (n % 65536) 2) := by
  unfold outD
  rw [if_neg (by omega), if_neg (by omega), if_pos h0]
theorem outsD_one {d : FD} {ds : List FD} {l a b : List Int} (h1 : outD d (l.getD d.off 0) = some a) (h2 : outsD ds l = some b) : outsD (d :: ds) l = some (a ++ b) := by
  simp only [outsD, h1, h2]
theorem be_1v (n : Int) (h0 : 0 ≤ n) (h1 : n ≤ 255) : be n 1 = [n] := by
  rw [be_cons, be_zero]
  simp only [show (2 : Int) ^ (8 * 0) = 1 from rfl, List.cons.injEq, and_true]
  omega
/-- blocks of bytes that are no longer than N stay -/
theorem growR_small {b0 N : Nat} {T : TypeId} {ys : List Value} {w w' : World} (h : GrowR b0 T N ys w w') {g : Nat} {cs : Array Value} {S : TypeId} (hk : Blk w g cs S) (hs : cs.size ≤ N) : Blk w' g cs S := by
  obtain ⟨cs', e, sz, -, hj⟩ := h.2.2 g cs S hk
  have : cs' = cs := by
    apply Array.ext_getElem?
    intro j
    rcases hj j with h1 | ⟨h1, -, h3⟩
    · exact h1
    · rw [Array.getElem?_eq_none (by omega), Array.getElem?_eq_none (by omega)]
  rw [this] at e
  exact e
theorem growR_more {b0 N : Nat} {T : TypeId} {ys : List Value} {w w' : World} (h : GrowR b0 T N ys w w') (zs : List Value) : GrowR b0 T N (ys ++ zs) w w' := by
  refine ⟨h.1, h.2.1, fun g cs S hg => ?_⟩
  obtain ⟨cs', e, sz, t, hj⟩ := h.2.2 g cs S hg
  refine ⟨cs', e, sz, t, fun j => ?_⟩
  rcases hj j with h1 | ⟨h1, h2, h3⟩
  · exact .inl h1
  · exact .inr ⟨h1, by rw [List.length_append]; omega, by rw [h3, List.getElem?_append_left (by omega)]⟩
theorem growR_shift {b0 N : Nat} {T : TypeId} {ys : List Value} {w w' : World} (pre : List Value) (h : GrowR b0 T (N + pre.length) ys w w') : GrowR b0 T N (pre ++ ys) w w' := by
  refine ⟨h.1, h.2.1, fun g cs S hg => ?_⟩
  obtain ⟨cs', e, sz, t, hj⟩ := h.2.2 g cs S hg
  refine ⟨cs', e, sz, t, fun j => ?_⟩
  rcases hj j with h1 | ⟨h1, h2, h3⟩
  · exact .inl h1
  · exact .inr ⟨by omega, by rw [List.length_append]; omega, by rw [h3, List.getElem?_append_right (by omega), Nat.sub_sub]⟩
theorem growR_ownP {b0 N : Nat} {ys : List Int} {w w' : World} (h : GrowR b0 5 N (ys.map (Value.int .u8)) w w') {base cap : Nat} {A : Option Addr} {xs : List Int} (ho : Own w base A cap xs)
    (hx : xs.length ≤ N ∨ ∃ zs y1 y2, zs.length = N ∧ ys = y1 ++ y2 ∧ xs = zs ++ y1) : Own w' base A cap xs := by
  refine ⟨growR_owns h ho.1 fun j p q r => ?_, ho.2⟩
  rcases hx with hx | ⟨zs, y1, y2, hz, rfl, rfl⟩
  · simp at r; omega
  · rw [List.map_append, List.getElem?_append_right (by simp; omega), List.map_append]
    have hr : j < N + y1.length := by simp [hz] at r; omega
    rw [List.getElem?_append_left (by simp; omega)]
    simp [hz]
theorem put8_lit1 (r : Int) (hr : 0 ≤ r ∧ r ≤ 3) : put8 [1, 0, r, 0, 0, 0, 0, 0, 0, 0, 0, 0] = some ([1] ++ [r]) := by
  have or : outD fRole r = some [r] := by rw [outD_pos (by decide) hr.1 hr.2]; exact congrArg some (be_1v r (by omega) (by omega))
  have h := (outsD_one (l := [1, 0, r, 0, 0, 0, 0, 0, 0, 0, 0, 0]) or (show outsD [] [1, 0, r, 0, 0, 0, 0, 0, 0, 0, 0, 0] = some [] from rfl))
  unfold put8
  rw [show ([1, 0, r, 0, 0, 0, 0, 0, 0, 0, 0, 0] : List Int).getD 0 0 = 1 from rfl, show fieldsOf 1 = some [fRole] from rfl]
  simp only [h]
  rw [if_pos (show zeroed [fRole] [1, 0, r, 0, 0, 0, 0, 0, 0, 0, 0, 0] = z12 1 from rfl)]
  simp
theorem put8_lit2 (r : Int) (hr : 0 ≤ r ∧ r ≤ 3) : put8 [2, 0, r, 0, 0, 0, 0, 0, 0, 0, 0, 0] = some ([2] ++ [r]) := by
  have or : outD fRole r = some [r] := by rw [outD_pos (by decide) hr.1 hr.2]; exact congrArg some (be_1v r (by omega) (by omega))
  have h := (outsD_one (l := [2, 0, r, 0, 0, 0, 0, 0, 0, 0, 0, 0]) or (show outsD [] [2, 0, r, 0, 0, 0, 0, 0, 0, 0, 0, 0] = some [] from rfl))
  unfold put8
  rw [show ([2, 0, r, 0, 0, 0, 0, 0, 0, 0, 0, 0] : List Int).getD 0 0 = 2 from rfl, show fieldsOf 2 = some [fRole] from rfl]
  simp only [h]
  rw [if_pos (show zeroed [fRole] [2, 0, r, 0, 0, 0, 0, 0, 0, 0, 0, 0] = z12 2 from rfl)]
  simp
theorem put8_lit3 (s : Int) (hs : 0 ≤ s ∧ s ≤ 4294967295) : put8 [3, s, 0, 0, 0, 0, 0, 0, 0, 0, 0, 0] = some ([3] ++ be s 4) := by
  have os : outD fSeq s = some (be s 4) := outD_pos (by decide) hs.1 hs.2
  have h := (outsD_one (l := [3, s, 0, 0, 0, 0, 0, 0, 0, 0, 0, 0]) os (show outsD [] [3, s, 0, 0, 0, 0, 0, 0, 0, 0, 0, 0] = some [] from rfl))
  unfold put8
  rw [show ([3, s, 0, 0, 0, 0, 0, 0, 0, 0, 0, 0] : List Int).getD 0 0 = 3 from rfl, show fieldsOf 3 = some [fSeq] from rfl]
  simp only [h]
  rw [if_pos (show zeroed [fSeq] [3, s, 0, 0, 0, 0, 0, 0, 0, 0, 0, 0] = z12 3 from rfl)]
  simp
theorem put8_lit4 (s : Int) (hs : 0 ≤ s ∧ s ≤ 4294967295) : put8 [4, s, 0, 0, 0, 0, 0, 0, 0, 0, 0, 0] = some ([4] ++ be s 4) := by
  have os : outD fSeq s = some (be s 4) := outD_pos (by decide) hs.1 hs.2
  have h := (outsD_one (l := [4, s, 0, 0, 0, 0, 0, 0, 0, 0, 0, 0]) os (show outsD [] [4, s, 0, 0, 0, 0, 0, 0, 0, 0, 0, 0] = some [] from rfl))
  unfold put8
  rw [show ([4, s, 0, 0, 0, 0, 0, 0, 0, 0, 0, 0] : List Int).getD 0 0 = 4 from rfl, show fieldsOf 4 = some [fSeq] from rfl]
  simp only [h]
  rw [if_pos (show zeroed [fSeq] [4, s, 0, 0, 0, 0, 0, 0, 0, 0, 0, 0] = z12 4 from rfl)]
  simp
theorem put8_lit5 (s n : Int) (hs : 0 ≤ s ∧ s ≤ 4294967295) (hn : n = 0 ∨ n = 1) : put8 [5, s, 0, 0, 0, 0, 0, n, 0, 0, 0, 0] = some ([5] ++ be s 4 ++ [n]) := by
  have os : outD fSeq s = some (be s 4) := outD_pos (by decide) hs.1 hs.2
  have on : outD fNow n = some [n] := by rw [outD_pos (by decide) (show (0 : Int) ≤ n by omega) (show n ≤ 1 by omega)]; exact congrArg some (be_1v n (by omega) (by omega))
  have h := (outsD_one (l := [5, s, 0, 0, 0, 0, 0, n, 0, 0, 0, 0]) os (outsD_one (l := [5, s, 0, 0, 0, 0, 0, n, 0, 0, 0, 0]) on (show outsD [] [5, s, 0, 0, 0, 0, 0, n, 0, 0, 0, 0] = some [] from rfl)))
  unfold put8
  rw [show ([5, s, 0, 0, 0, 0, 0, n, 0, 0, 0, 0] : List Int).getD 0 0 = 5 from rfl, show fieldsOf 5 = some [fSeq, fNow] from rfl]
  simp only [h]
  rw [if_pos (show zeroed [fSeq, fNow] [5, s, 0, 0, 0, 0, 0, n, 0, 0, 0, 0] = z12 5 from rfl)]
  simp
theorem put8_lit6 (s t : Int) (hs : 0 ≤ s ∧ s ≤ 4294967295) (ht : 0 ≤ t ∧ t ≤ 4) : put8 [6, s, 0, t, 0, 0, 0, 0, 0, 0, 0, 0] = some ([6] ++ be s 4 ++ [t]) := by
  have os : outD fSeq s = some (be s 4) := outD_pos (by decide) hs.1 hs.2
  have ot : outD fTo t = some [t] := by rw [outD_pos (by decide) ht.1 ht.2]; exact congrArg some (be_1v t (by omega) (by omega))
  have h := (outsD_one (l := [6, s, 0, t, 0, 0, 0, 0, 0, 0, 0, 0]) os (outsD_one (l := [6, s, 0, t, 0, 0, 0, 0, 0, 0, 0, 0]) ot (show outsD [] [6, s, 0, t, 0, 0, 0, 0, 0, 0, 0, 0] = some [] from rfl)))
  unfold put8
  rw [show ([6, s, 0, t, 0, 0, 0, 0, 0, 0, 0, 0] : List Int).getD 0 0 = 6 from rfl, show fieldsOf 6 = some [fSeq, fTo] from rfl]
  simp only [h]
  rw [if_pos (show zeroed [fSeq, fTo] [6, s, 0, t, 0, 0, 0, 0, 0, 0, 0, 0] = z12 6 from rfl)]
  simp
theorem put8_lit7 (s e : Int) (hs : 0 ≤ s ∧ s ≤ 4294967295) (he : 0 ≤ e ∧ e ≤ 65535) : put8 [7, s, 0, 0, e, 0, 0, 0, 0, 0, 0, 0] = some ([7] ++ be s 4 ++ be e 2) := by
  have os : outD fSeq s = some (be s 4) := outD_pos (by decide) hs.1 hs.2
  have oe : outD fEpoch e = some (be e 2) := outD_pos (by decide) he.1 he.2
  have h := (outsD_one (l := [7, s, 0, 0, e, 0, 0, 0, 0, 0, 0, 0]) os (outsD_one (l := [7, s, 0, 0, e, 0, 0, 0, 0, 0, 0, 0]) oe (show outsD [] [7, s, 0, 0, e, 0, 0, 0, 0, 0, 0, 0] = some [] from rfl)))
  unfold put8
  rw [show ([7, s, 0, 0, e, 0, 0, 0, 0, 0, 0, 0] : List Int).getD 0 0 = 7 from rfl, show fieldsOf 7 = some [fSeq, fEpoch] from rfl]
  simp only [h]
  rw [if_pos (show zeroed [fSeq, fEpoch] [7, s, 0, 0, e, 0, 0, 0, 0, 0, 0, 0] = z12 7 from rfl)]
  simp
theorem put8_lit8 (s : Int) (hs : 0 ≤ s ∧ s ≤ 4294967295) : put8 [8, s, 0, 0, 0, 0, 0, 0, 0, 0, 0, 0] = some ([8] ++ be s 4) := by
  have os : outD fSeq s = some (be s 4) := outD_pos (by decide) hs.1 hs.2
  have h := (outsD_one (l := [8, s, 0, 0, 0, 0, 0, 0, 0, 0, 0, 0]) os (show outsD [] [8, s, 0, 0, 0, 0, 0, 0, 0, 0, 0, 0] = some [] from rfl))
  unfold put8
  rw [show ([8, s, 0, 0, 0, 0, 0, 0, 0, 0, 0, 0] : List Int).getD 0 0 = 8 from rfl, show fieldsOf 8 = some [fSeq] from rfl]
  simp only [h]
  rw [if_pos (show zeroed [fSeq] [8, s, 0, 0, 0, 0, 0, 0, 0, 0, 0, 0] = z12 8 from rfl)]
  simp
theorem put8_lit9 (s : Int) (hs : 0 ≤ s ∧ s ≤ 4294967295) : put8 [9, s, 0, 0, 0, 0, 0, 0, 0, 0, 0, 0] = some ([9] ++ be s 4) := by
  have os : outD fSeq s = some (be s 4) := outD_pos (by decide) hs.1 hs.2
  have h := (outsD_one (l := [9, s, 0, 0, 0, 0, 0, 0, 0, 0, 0, 0]) os (show outsD [] [9, s, 0, 0, 0, 0, 0, 0, 0, 0, 0, 0] = some [] from rfl))
  unfold put8
  rw [show ([9, s, 0, 0, 0, 0, 0, 0, 0, 0, 0, 0] : List Int).getD 0 0 = 9 from rfl, show fieldsOf 9 = some [fSeq] from rfl]
  simp only [h]
  rw [if_pos (show zeroed [fSeq] [9, s, 0, 0, 0, 0, 0, 0, 0, 0, 0, 0] = z12 9 from rfl)]
  simp
theorem put8_lit10 (s e m : Int) (hs : 0 ≤ s ∧ s ≤ 4294967295) (he : 0 ≤ e ∧ e ≤ 65535) (hm : 0 ≤ m ∧ m ≤ 4) : put8 [10, s, 0, 0, e, m, 0, 0, 0, 0, 0, 0] = some ([10] ++ be s 4 ++ be e 2 ++ [m]) := by
  have os : outD fSeq s = some (be s 4) := outD_pos (by decide) hs.1 hs.2
  have oe : outD fEpoch e = some (be e 2) := outD_pos (by decide) he.1 he.2
  have om : outD fMode m = some [m] := by rw [outD_pos (by decide) hm.1 hm.2]; exact congrArg some (be_1v m (by omega) (by omega))
  have h := (outsD_one (l := [10, s, 0, 0, e, m, 0, 0, 0, 0, 0, 0]) os (outsD_one (l := [10, s, 0, 0, e, m, 0, 0, 0, 0, 0, 0]) oe (outsD_one (l := [10, s, 0, 0, e, m, 0, 0, 0, 0, 0, 0]) om (show outsD [] [10, s, 0, 0, e, m, 0, 0, 0, 0, 0, 0] = some [] from rfl))))
  unfold put8
  rw [show ([10, s, 0, 0, e, m, 0, 0, 0, 0, 0, 0] : List Int).getD 0 0 = 10 from rfl, show fieldsOf 10 = some [fSeq, fEpoch, fMode] from rfl]
  simp only [h]
  rw [if_pos (show zeroed [fSeq, fEpoch, fMode] [10, s, 0, 0, e, m, 0, 0, 0, 0, 0, 0] = z12 10 from rfl)]
  simp
theorem put8_lit11 (s e c x0 x1 x2 x3 : Int) (hs : 0 ≤ s ∧ s ≤ 4294967295) (he : 0 ≤ e ∧ e ≤ 65535) (hc : 1 ≤ c ∧ c ≤ 3) (hx0 : -32768 ≤ x0 ∧ x0 ≤ 32767) (hx1 : -32768 ≤ x1 ∧ x1 ≤ 32767) (hx2 : -32768 ≤ x2 ∧ x2 ≤ 32767) (hx3 : -32768 ≤ x3 ∧ x3 ≤ 32767) : put8 [11, s, 0, 0, e, 0, c, 0, x0, x1, x2, x3] = some ([11] ++ be s 4 ++ be e 2 ++ [c] ++ be (x0 % 65536) 2 ++ be (x1 % 65536) 2 ++ be (x2 % 65536) 2 ++ be (x3 % 65536) 2) := by
  have os : outD fSeq s = some (be s 4) := outD_pos (by decide) hs.1 hs.2
  have oe : outD fEpoch e = some (be e 2) := outD_pos (by decide) he.1 he.2
  have oc : outD fClass c = some [c] := by rw [outD_pos (by decide) hc.1 hc.2]; exact congrArg some (be_1v c (by omega) (by omega))
  have ox0 : outD (fAxis 0) x0 = some (be (x0 % 65536) 2) := outD_neg (by decide) hx0.1 hx0.2
  have ox1 : outD (fAxis 1) x1 = some (be (x1 % 65536) 2) := outD_neg (by decide) hx1.1 hx1.2
  have ox2 : outD (fAxis 2) x2 = some (be (x2 % 65536) 2) := outD_neg (by decide) hx2.1 hx2.2
  have ox3 : outD (fAxis 3) x3 = some (be (x3 % 65536) 2) := outD_neg (by decide) hx3.1 hx3.2
  have h := (outsD_one (l := [11, s, 0, 0, e, 0, c, 0, x0, x1, x2, x3]) os (outsD_one (l := [11, s, 0, 0, e, 0, c, 0, x0, x1, x2, x3]) oe (outsD_one (l := [11, s, 0, 0, e, 0, c, 0, x0, x1, x2, x3]) oc (outsD_one (l := [11, s, 0, 0, e, 0, c, 0, x0, x1, x2, x3]) ox0 (outsD_one (l := [11, s, 0, 0, e, 0, c, 0, x0, x1, x2, x3]) ox1 (outsD_one (l := [11, s, 0, 0, e, 0, c, 0, x0, x1, x2, x3]) ox2 (outsD_one (l := [11, s, 0, 0, e, 0, c, 0, x0, x1, x2, x3]) ox3 (show outsD [] [11, s, 0, 0, e, 0, c, 0, x0, x1, x2, x3] = some [] from rfl))))))))
  unfold put8
  rw [show ([11, s, 0, 0, e, 0, c, 0, x0, x1, x2, x3] : List Int).getD 0 0 = 11 from rfl, show fieldsOf 11 = some [fSeq, fEpoch, fClass, fAxis 0, fAxis 1, fAxis 2, fAxis 3] from rfl]
  simp only [h]
  rw [if_pos (show zeroed [fSeq, fEpoch, fClass, fAxis 0, fAxis 1, fAxis 2, fAxis 3] [11, s, 0, 0, e, 0, c, 0, x0, x1, x2, x3] = z12 11 from rfl)]
  simp
theorem fitsB_iff (a0 a1 a2 a3 a4 a5 a6 a8 a9 a10 a11 : Int) : fitsB a0 a1 a2 a3 a4 a5 a6 a8 a9 a10 a11 = true ↔ (-32768 ≤ a8 ∧ a8 ≤ 32767) ∧ (-32768 ≤ a9 ∧ a9 ≤ 32767) ∧ (-32768 ≤ a10 ∧ a10 ≤ 32767) ∧ (-32768 ≤ a11 ∧ a11 ≤ 32767) ∧ (1 ≤ a0 ∧ a0 ≤ 11) ∧ (0 ≤ a1 ∧ a1 ≤ 4294967295) ∧ (0 ≤ a4 ∧ a4 ≤ 65535) ∧ (0 ≤ a2 ∧ a2 ≤ 3) ∧ (0 ≤ a3 ∧ a3 ≤ 4) ∧ (0 ≤ a5 ∧ a5 ≤ 4) ∧ ((if a0 = 11 then 1 else 0) ≤ a6 ∧ a6 ≤ 3) := by
  unfold fitsB inB
  simp only [Bool.and_eq_true, decide_eq_true_iff]
  constructor
  · rintro ⟨⟨⟨⟨⟨⟨⟨⟨⟨⟨h1, h2⟩, h3⟩, h4⟩, h5⟩, h6⟩, h7⟩, h8⟩, h9⟩, h10⟩, h11⟩
    exact ⟨h1, h2, h3, h4, h5, h6, h7, h8, h9, h10, h11⟩
  · rintro ⟨h1, h2, h3, h4, h5, h6, h7, h8, h9, h10, h11⟩
    exact ⟨⟨⟨⟨⟨⟨⟨⟨⟨⟨h1, h2⟩, h3⟩, h4⟩, h5⟩, h6⟩, h7⟩, h8⟩, h9⟩, h10⟩, h11⟩
theorem put8_fits (a0 a1 a2 a3 a4 a5 a6 a7 a8 a9 a10 a11 : Int) (bs : List Int) (h : put8 [a0, a1, a2, a3, a4, a5, a6, a7, a8, a9, a10, a11] = some bs) : fitsB a0 a1 a2 a3 a4 a5 a6 a8 a9 a10 a11 = true ∧ named12 a0 a1 a2 a3 a4 a5 a6 a7 a8 a9 a10 a11 = [a0, a1, a2, a3, a4, a5, a6, a7, a8, a9, a10, a11] := by
  obtain ⟨ds, ps, f1, o1, z1, -⟩ := put8_some h
  have hin := outsD_in o1
  rw [show ([a0, a1, a2, a3, a4, a5, a6, a7, a8, a9, a10, a11] : List Int).getD 0 0 = a0 from rfl] at f1 z1
  obtain ⟨k1, k11, -, -⟩ := fields_good f1
  have hk : a0 = 1 ∨ a0 = 2 ∨ a0 = 3 ∨ a0 = 4 ∨ a0 = 5 ∨ a0 = 6 ∨ a0 = 7 ∨ a0 = 8 ∨ a0 = 9 ∨ a0 = 10 ∨ a0 = 11 := by omega
  rw [fitsB_iff]
  rcases hk with rfl | rfl | rfl | rfl | rfl | rfl | rfl | rfl | rfl | rfl | rfl
  · obtain rfl : [fRole] = ds := Option.some.inj f1
    simp only [zeroed, z12, List.foldl_cons, List.foldl_nil, fRole, List.set_cons_succ, List.set_cons_zero, Nat.reduceAdd, List.cons.injEq, true_and, and_true] at z1
    obtain ⟨rfl, rfl, rfl, rfl, rfl, rfl, rfl, rfl, rfl, rfl⟩ := z1
    have gr := hin (fRole) (by simp)
    replace gr : (0 : Int) ≤ a2 ∧ a2 ≤ 3 := gr
    refine ⟨?_, rfl⟩
    simp only [if_true, show ¬ (1 : Int) = 11 from by decide, if_false]
    omega
  · obtain rfl : [fRole] = ds := Option.some.inj f1
    simp only [zeroed, z12, List.foldl_cons, List.foldl_nil, fRole, List.set_cons_succ, List.set_cons_zero, Nat.reduceAdd, List.cons.injEq, true_and, and_true] at z1
    obtain ⟨rfl, rfl, rfl, rfl, rfl, rfl, rfl, rfl, rfl, rfl⟩ := z1
    have gr := hin (fRole) (by simp)
    replace gr : (0 : Int) ≤ a2 ∧ a2 ≤ 3 := gr
    refine ⟨?_, rfl⟩
    simp only [if_true, show ¬ (2 : Int) = 11 from by decide, if_false]
    omega
  · obtain rfl : [fSeq] = ds := Option.some.inj f1
    simp only [zeroed, z12, List.foldl_cons, List.foldl_nil, fSeq, List.set_cons_succ, List.set_cons_zero, Nat.reduceAdd, List.cons.injEq, true_and, and_true] at z1
    obtain ⟨rfl, rfl, rfl, rfl, rfl, rfl, rfl, rfl, rfl, rfl⟩ := z1
    have gs := hin (fSeq) (by simp)
    replace gs : (0 : Int) ≤ a1 ∧ a1 ≤ 4294967295 := gs
    refine ⟨?_, rfl⟩
    simp only [if_true, show ¬ (3 : Int) = 11 from by decide, if_false]
    omega
  · obtain rfl : [fSeq] = ds := Option.some.inj f1
    simp only [zeroed, z12, List.foldl_cons, List.foldl_nil, fSeq, List.set_cons_succ, List.set_cons_zero, Nat.reduceAdd, List.cons.injEq, true_and, and_true] at z1
    obtain ⟨rfl, rfl, rfl, rfl, rfl, rfl, rfl, rfl, rfl, rfl⟩ := z1
    have gs := hin (fSeq) (by simp)
    replace gs : (0 : Int) ≤ a1 ∧ a1 ≤ 4294967295 := gs
    refine ⟨?_, rfl⟩
    simp only [if_true, show ¬ (4 : Int) = 11 from by decide, if_false]
    omega
  · obtain rfl : [fSeq, fNow] = ds := Option.some.inj f1
    simp only [zeroed, z12, List.foldl_cons, List.foldl_nil, fNow, fSeq, List.set_cons_succ, List.set_cons_zero, Nat.reduceAdd, List.cons.injEq, true_and, and_true] at z1
    obtain ⟨rfl, rfl, rfl, rfl, rfl, rfl, rfl, rfl, rfl⟩ := z1
    have gs := hin (fSeq) (by simp)
    replace gs : (0 : Int) ≤ a1 ∧ a1 ≤ 4294967295 := gs
    have gn := hin (fNow) (by simp)
    replace gn : (0 : Int) ≤ a7 ∧ a7 ≤ 1 := gn
    refine ⟨?_, rfl⟩
    simp only [if_true, show ¬ (5 : Int) = 11 from by decide, if_false]
    omega
  · obtain rfl : [fSeq, fTo] = ds := Option.some.inj f1
    simp only [zeroed, z12, List.foldl_cons, List.foldl_nil, fSeq, fTo, List.set_cons_succ, List.set_cons_zero, Nat.reduceAdd, List.cons.injEq, true_and, and_true] at z1
    obtain ⟨rfl, rfl, rfl, rfl, rfl, rfl, rfl, rfl, rfl⟩ := z1
    have gs := hin (fSeq) (by simp)
    replace gs : (0 : Int) ≤ a1 ∧ a1 ≤ 4294967295 := gs
    have gt := hin (fTo) (by simp)
    replace gt : (0 : Int) ≤ a3 ∧ a3 ≤ 4 := gt
    refine ⟨?_, rfl⟩
    simp only [if_true, show ¬ (6 : Int) = 11 from by decide, if_false]
    omega
  · obtain rfl : [fSeq, fEpoch] = ds := Option.some.inj f1
    simp only [zeroed, z12, List.foldl_cons, List.foldl_nil, fEpoch, fSeq, List.set_cons_succ, List.set_cons_zero, Nat.reduceAdd, List.cons.injEq, true_and, and_true] at z1
    obtain ⟨rfl, rfl, rfl, rfl, rfl, rfl, rfl, rfl, rfl⟩ := z1
    have gs := hin (fSeq) (by simp)
    replace gs : (0 : Int) ≤ a1 ∧ a1 ≤ 4294967295 := gs
    have ge := hin (fEpoch) (by simp)
    replace ge : (0 : Int) ≤ a4 ∧ a4 ≤ 65535 := ge
    refine ⟨?_, rfl⟩
    simp only [if_true, show ¬ (7 : Int) = 11 from by decide, if_false]
    omega
  · obtain rfl : [fSeq] = ds := Option.some.inj f1
    simp only [zeroed, z12, List.foldl_cons, List.foldl_nil, fSeq, List.set_cons_succ, List.set_cons_zero, Nat.reduceAdd, List.cons.injEq, true_and, and_true] at z1
    obtain ⟨rfl, rfl, rfl, rfl, rfl, rfl, rfl, rfl, rfl, rfl⟩ := z1
    have gs := hin (fSeq) (by simp)
    replace gs : (0 : Int) ≤ a1 ∧ a1 ≤ 4294967295 := gs
    refine ⟨?_, rfl⟩
    simp only [if_true, show ¬ (8 : Int) = 11 from by decide, if_false]
    omega
  · obtain rfl : [fSeq] = ds := Option.some.inj f1
    simp only [zeroed, z12, List.foldl_cons, List.foldl_nil, fSeq, List.set_cons_succ, List.set_cons_zero, Nat.reduceAdd, List.cons.injEq, true_and, and_true] at z1
    obtain ⟨rfl, rfl, rfl, rfl, rfl, rfl, rfl, rfl, rfl, rfl⟩ := z1
    have gs := hin (fSeq) (by simp)
    replace gs : (0 : Int) ≤ a1 ∧ a1 ≤ 4294967295 := gs
    refine ⟨?_, rfl⟩
    simp only [if_true, show ¬ (9 : Int) = 11 from by decide, if_false]
    omega
  · obtain rfl : [fSeq, fEpoch, fMode] = ds := Option.some.inj f1
    simp only [zeroed, z12, List.foldl_cons, List.foldl_nil, fEpoch, fMode, fSeq, List.set_cons_succ, List.set_cons_zero, Nat.reduceAdd, List.cons.injEq, true_and, and_true] at z1
    obtain ⟨rfl, rfl, rfl, rfl, rfl, rfl, rfl, rfl⟩ := z1
    have gs := hin (fSeq) (by simp)
    replace gs : (0 : Int) ≤ a1 ∧ a1 ≤ 4294967295 := gs
    have ge := hin (fEpoch) (by simp)
    replace ge : (0 : Int) ≤ a4 ∧ a4 ≤ 65535 := ge
    have gm := hin (fMode) (by simp)
    replace gm : (0 : Int) ≤ a5 ∧ a5 ≤ 4 := gm
    refine ⟨?_, rfl⟩
    simp only [if_true, show ¬ (10 : Int) = 11 from by decide, if_false]
    omega
  · obtain rfl : [fSeq, fEpoch, fClass, fAxis 0, fAxis 1, fAxis 2, fAxis 3] = ds := Option.some.inj f1
    simp only [zeroed, z12, List.foldl_cons, List.foldl_nil, fAxis, fClass, fEpoch, fSeq, List.set_cons_succ, List.set_cons_zero, Nat.reduceAdd, List.cons.injEq, true_and, and_true] at z1
    obtain ⟨rfl, rfl, rfl, rfl⟩ := z1
    have gs := hin (fSeq) (by simp)
    replace gs : (0 : Int) ≤ a1 ∧ a1 ≤ 4294967295 := gs
    have ge := hin (fEpoch) (by simp)
    replace ge : (0 : Int) ≤ a4 ∧ a4 ≤ 65535 := ge
    have gc := hin (fClass) (by simp)
    replace gc : (1 : Int) ≤ a6 ∧ a6 ≤ 3 := gc
    have gx0 := hin (fAxis 0) (by simp)
    replace gx0 : (-32768 : Int) ≤ a8 ∧ a8 ≤ 32767 := gx0
    have gx1 := hin (fAxis 1) (by simp)
    replace gx1 : (-32768 : Int) ≤ a9 ∧ a9 ≤ 32767 := gx1
    have gx2 := hin (fAxis 2) (by simp)
    replace gx2 : (-32768 : Int) ≤ a10 ∧ a10 ≤ 32767 := gx2
    have gx3 := hin (fAxis 3) (by simp)
    replace gx3 : (-32768 : Int) ≤ a11 ∧ a11 ≤ 32767 := gx3
    refine ⟨?_, rfl⟩
    simp only [if_true]
    omega
end Go.Proofs.YtapednkmefbldaaDoor

/- sidestickref08.Put, by kind. -/
namespace Go.Proofs.YtapednkmefbldaaDoor
open Go.RowKit

set_option maxRecDepth 100000 in
set_option maxHeartbeats 1600000 in
theorem rput_1 (r : Int) (hr : 0 ≤ r ∧ r ≤ 3) (w : World) :
    Calls Tryd.prog 25 #[.agg #[.int .i64 1, .int .i64 0, .int .i64 r, .int .i64 0, .int .i64 0, .int .i64 0, .int .i64 0, .bool false, .int .i64 0, .int .i64 0, .int .i64 0, .int .i64 0]] w (RPutP [1, 0, r, 0, 0, 0, 0, 0, 0, 0, 0, 0] w) := by
  have hp := put8_lit1 r hr
  have HP := Lib.hid hp
  have hl : IsMsgL [1, 0, r, 0, 0, 0, 0, 0, 0, 0, 0, 0] := ⟨rfl, .inl rfl⟩
  have NQ0 := fun W => neq_msg [1, 0, r, 0, 0, 0, 0, 0, 0, 0, 0, 0] [1, 0, r, 0, 0, 0, 0, 0, 0, 0, 0, 0] hl hl W
  rw [decide_eq_true rfl] at NQ0
  have NQ : ∀ W, (binOp .neq 66 (.agg #[.int .i64 1, .int .i64 0, .int .i64 r, .int .i64 0, .int .i64 0, .int .i64 0, .int .i64 0, .bool false, .int .i64 0, .int .i64 0, .int .i64 0, .int .i64 0]) (.agg #[.int .i64 1, .int .i64 0, .int .i64 r, .int .i64 0, .int .i64 0, .int .i64 0, .int .i64 0, .bool false, .int .i64 0, .int .i64 0, .int .i64 0, .int .i64 0])).run Tryd.prog W = .ok (.bool false) W := NQ0
  have HF : fitsB 1 0 r 0 0 0 0 0 0 0 0 = true := by
    rw [fitsB_iff]
    simp only [if_true, show ¬ (1 : Int) = 11 from by decide, if_false]
    omega
  have CN : Hid (∀ W, Calls Tryd.prog 45 #[.agg #[.int .i64 1, .int .i64 0, .int .i64 r, .int .i64 0, .int .i64 0, .int .i64 0, .int .i64 0, .bool false, .int .i64 0, .int .i64 0, .int .i64 0, .int .i64 0]] W fun e' w' => e' = .returned (.agg #[.int .i64 1, .int .i64 0, .int .i64 r, .int .i64 0, .int .i64 0, .int .i64 0, .int .i64 0, .bool false, .int .i64 0, .int .i64 0, .int .i64 0, .int .i64 0]) ∧ Below W.heap.size W w') := Lib.hid fun W => named_1 0 r 0 0 0 0 0 0 0 0 0 W
  have qr0 : (0 : Int) ≤ r := by omega
  have qr1 : r ≤ 255 := by omega
  clear hp hl NQ0 hr
  go_enter Tryd.func25, Tryd.ntmps25
  go_wp2_with fail
  have K1 := Lib.hid (Blk.new w #[.int .i64 1, .int .i64 0, .int .i64 r, .int .i64 0, .int .i64 0, .int .i64 0, .int .i64 0, .bool false, .int .i64 0, .int .i64 0, .int .i64 0, .int .i64 0] 66)
  have BB := Lib.hid (below_alloc1 w (.cells #[.int .i64 1, .int .i64 0, .int .i64 r, .int .i64 0, .int .i64 0, .int .i64 0, .int .i64 0, .bool false, .int .i64 0, .int .i64 0, .int .i64 0, .int .i64 0] 66))
  generalize w.alloc (.cells #[.int .i64 1, .int .i64 0, .int .i64 r, .int .i64 0, .int .i64 0, .int .i64 0, .int .i64 0, .bool false, .int .i64 0, .int .i64 0, .int .i64 0, .int .i64 0] 66) = w0 at *
  ((with_reducible refine (fits_any _ _ _ _ _ _ _ _ _ _ _ _ _).mono ?_))
  rintro e' w1 ⟨rfl, b1⟩
  rw [HF]
  replace K1 := Lib.hid (K1.out.below b1)
  replace BB := Lib.hid (bt BB.out b1)
  clear b1 HF
  go_wp2_with fail
  refine wp_region_ext (by kernel_rfl) (by kernel_rfl) ?_
  repeat (first
        | go_big_quiet_skip
        | (go_big_quiet_want
           first
             | (refine quiet_load_blk (T := 66) (g := w.heap.size) agg_msg _ rfl rfl K1 ?_ ?_; (· rfl); go_simp; go_big_quiet_on)
             | (go_big_quiet_op
                first
                  | go_big_quiet_on
                  | go_big_quiet_call (((with_reducible refine ext_of (CN.out _)))))))
  refine wpQuiet_nil ?_
  intro _ hw'
  obtain ⟨y9, rfl⟩ := hw'
  replace K1 := Lib.hid (K1.out.below (exw_bel y9))
  replace BB := Lib.hid (bt BB.out (exw_bel y9))
  generalize exw w1 y9 = w2 at *
  clear NQ CN
  have c0 : w2.cell? ⟨w.heap.size, 0, none⟩ = some (.int .i64 1) := (K1.out.cell 0).trans rfl
  have c2w2 : w2.cell? ⟨w.heap.size, 2, none⟩ = some (.int .i64 r) := (K1.out.cell 2).trans rfl
  have lw0 := K1.out.lt
  go_wp2_with ((with_reducible show wpList _ _ _ (⟨some 36, _, _, _, _, _⟩ :: _) _ _); refine Marker.mk ?_)
  refine Marker.in ?_
  have OK := Lib.hid (own_one w2 1 (by omega) (by omega))
  have B3 := Lib.hid (below_alloc2 w2 (.cells #[.int .u8 1] 5) (.cells #[.int .u8 r] 5))
  have RR := Lib.hid ((own_one (w2.alloc (.cells #[.int .u8 1] 5)) r qr0 qr1).row)
  replace OK := Lib.hid (own_below OK.out (below_alloc1 (w2.alloc (.cells #[.int .u8 1] 5)) (.cells #[.int .u8 r] 5)))
  have l3 : w2.heap.size ≤ ((w2.alloc (.cells #[.int .u8 1] 5)).alloc (.cells #[.int .u8 r] 5)).heap.size := B3.out.size
  (with_reducible refine wpList_append_bytes _ rfl (.tmp 31) (.tmp 35) rfl w2.heap.size (some ⟨w2.heap.size, 0, none⟩) 1 1 [1] rfl rfl OK.out (some ⟨(w2.alloc (.cells #[.int .u8 1] 5)).heap.size, 0, none⟩) 1 1 [r] rfl ?_ RR.out (by omega) l3 ?_)
  · exact congrArg (fun z => Value.slice (some ⟨z, 0, none⟩) 1 1) (by simp)
  intro A6 c6 w6 o6 b6
  have O6 := Lib.hid o6
  replace BB := Lib.hid (bt BB.out (B3.out.trans b6))
  clear o6 b6 B3 RR OK c0
  go_wp2_with fail
  go_ret2
  exact rputP_some HP.out rfl rfl O6.out BB.out
set_option maxRecDepth 100000 in
set_option maxHeartbeats 1600000 in
theorem rput_2 (r : Int) (hr : 0 ≤ r ∧ r ≤ 3) (w : World) :
    Calls Tryd.prog 25 #[.agg #[.int .i64 2, .int .i64 0, .int .i64 r, .int .i64 0, .int .i64 0, .int .i64 0, .int .i64 0, .bool false, .int .i64 0, .int .i64 0, .int .i64 0, .int .i64 0]] w (RPutP [2, 0, r, 0, 0, 0, 0, 0, 0, 0, 0, 0] w) := by
  have hp := put8_lit2 r hr
  have HP := Lib.hid hp
  have hl : IsMsgL [2, 0, r, 0, 0, 0, 0, 0, 0, 0, 0, 0] := ⟨rfl, .inl rfl⟩
  have NQ0 := fun W => neq_msg [2, 0, r, 0, 0, 0, 0, 0, 0, 0, 0, 0] [2, 0, r, 0, 0, 0, 0, 0, 0, 0, 0, 0] hl hl W
  rw [decide_eq_true rfl] at NQ0
  have NQ : ∀ W, (binOp .neq 66 (.agg #[.int .i64 2, .int .i64 0, .int .i64 r, .int .i64 0, .int .i64 0, .int .i64 0, .int .i64 0, .bool false, .int .i64 0, .int .i64 0, .int .i64 0, .int .i64 0]) (.agg #[.int .i64 2, .int .i64 0, .int .i64 r, .int .i64 0, .int .i64 0, .int .i64 0, .int .i64 0, .bool false, .int .i64 0, .int .i64 0, .int .i64 0, .int .i64 0])).run Tryd.prog W = .ok (.bool false) W := NQ0
  have HF : fitsB 2 0 r 0 0 0 0 0 0 0 0 = true := by
    rw [fitsB_iff]
    simp only [if_true, show ¬ (2 : Int) = 11 from by decide, if_false]
    omega
  have CN : Hid (∀ W, Calls Tryd.prog 45 #[.agg #[.int .i64 2, .int .i64 0, .int .i64 r, .int .i64 0, .int .i64 0, .int .i64 0, .int .i64 0, .bool false, .int .i64 0, .int .i64 0, .int .i64 0, .int .i64 0]] W fun e' w' => e' = .returned (.agg #[.int .i64 2, .int .i64 0, .int .i64 r, .int .i64 0, .int .i64 0, .int .i64 0, .int .i64 0, .bool false, .int .i64 0, .int .i64 0, .int .i64 0, .int .i64 0]) ∧ Below W.heap.size W w') := Lib.hid fun W => named_2 0 r 0 0 0 0 0 0 0 0 0 W
  have qr0 : (0 : Int) ≤ r := by omega
  have qr1 : r ≤ 255 := by omega
  clear hp hl NQ0 hr
  go_enter Tryd.func25, Tryd.ntmps25
  go_wp2_with fail
  have K1 := Lib.hid (Blk.new w #[.int .i64 2, .int .i64 0, .int .i64 r, .int .i64 0, .int .i64 0, .int .i64 0, .int .i64 0, .bool false, .int .i64 0, .int .i64 0, .int .i64 0, .int .i64 0] 66)
  have BB := Lib.hid (below_alloc1 w (.cells #[.int .i64 2, .int .i64 0, .int .i64 r, .int .i64 0, .int .i64 0, .int .i64 0, .int .i64 0, .bool false, .int .i64 0, .int .i64 0, .int .i64 0, .int .i64 0] 66))
  generalize w.alloc (.cells #[.int .i64 2, .int .i64 0, .int .i64 r, .int .i64 0, .int .i64 0, .int .i64 0, .int .i64 0, .bool false, .int .i64 0, .int .i64 0, .int .i64 0, .int .i64 0] 66) = w0 at *
  ((with_reducible refine (fits_any _ _ _ _ _ _ _ _ _ _ _ _ _).mono ?_))
  rintro e' w1 ⟨rfl, b1⟩
  rw [HF]
  replace K1 := Lib.hid (K1.out.below b1)
  replace BB := Lib.hid (bt BB.out b1)
  clear b1 HF
  go_wp2_with fail
  refine wp_region_ext (by kernel_rfl) (by kernel_rfl) ?_
  repeat (first
        | go_big_quiet_skip
        | (go_big_quiet_want
           first
             | (refine quiet_load_blk (T := 66) (g := w.heap.size) agg_msg _ rfl rfl K1 ?_ ?_; (· rfl); go_simp; go_big_quiet_on)
             | (go_big_quiet_op
                first
                  | go_big_quiet_on
                  | go_big_quiet_call (((with_reducible refine ext_of (CN.out _)))))))
  refine wpQuiet_nil ?_
  intro _ hw'
  obtain ⟨y9, rfl⟩ := hw'
  replace K1 := Lib.hid (K1.out.below (exw_bel y9))
  replace BB := Lib.hid (bt BB.out (exw_bel y9))
  generalize exw w1 y9 = w2 at *
  clear NQ CN
  have c0 : w2.cell? ⟨w.heap.size, 0, none⟩ = some (.int .i64 2) := (K1.out.cell 0).trans rfl
  have c2w2 : w2.cell? ⟨w.heap.size, 2, none⟩ = some (.int .i64 r) := (K1.out.cell 2).trans rfl
  have lw0 := K1.out.lt
  go_wp2_with ((with_reducible show wpList _ _ _ (⟨some 36, _, _, _, _, _⟩ :: _) _ _); refine Marker.mk ?_)
  refine Marker.in ?_
  have OK := Lib.hid (own_one w2 2 (by omega) (by omega))
  have B3 := Lib.hid (below_alloc2 w2 (.cells #[.int .u8 2] 5) (.cells #[.int .u8 r] 5))
  have RR := Lib.hid ((own_one (w2.alloc (.cells #[.int .u8 2] 5)) r qr0 qr1).row)
  replace OK := Lib.hid (own_below OK.out (below_alloc1 (w2.alloc (.cells #[.int .u8 2] 5)) (.cells #[.int .u8 r] 5)))
  have l3 : w2.heap.size ≤ ((w2.alloc (.cells #[.int .u8 2] 5)).alloc (.cells #[.int .u8 r] 5)).heap.size := B3.out.size
  (with_reducible refine wpList_append_bytes _ rfl (.tmp 31) (.tmp 35) rfl w2.heap.size (some ⟨w2.heap.size, 0, none⟩) 1 1 [2] rfl rfl OK.out (some ⟨(w2.alloc (.cells #[.int .u8 2] 5)).heap.size, 0, none⟩) 1 1 [r] rfl ?_ RR.out (by omega) l3 ?_)
  · exact congrArg (fun z => Value.slice (some ⟨z, 0, none⟩) 1 1) (by simp)
  intro A6 c6 w6 o6 b6
  have O6 := Lib.hid o6
  replace BB := Lib.hid (bt BB.out (B3.out.trans b6))
  clear o6 b6 B3 RR OK c0
  go_wp2_with fail
  go_ret2
  exact rputP_some HP.out rfl rfl O6.out BB.out
set_option maxRecDepth 100000 in
set_option maxHeartbeats 1600000 in
theorem rput_3 (s : Int) (hs : 0 ≤ s ∧ s ≤ 4294967295) (w : World) :
    Calls Tryd.prog 25 #[.agg #[.int .i64 3, .int .i64 s, .int .i64 0, .int .i64 0, .int .i64 0, .int .i64 0, .int .i64 0, .bool false, .int .i64 0, .int .i64 0, .int .i64 0, .int .i64 0]] w (RPutP [3, s, 0, 0, 0, 0, 0, 0, 0, 0, 0, 0] w) := by
  have hp := put8_lit3 s hs
  have HP := Lib.hid hp
  have hl : IsMsgL [3, s, 0, 0, 0, 0, 0, 0, 0, 0, 0, 0] := ⟨rfl, .inl rfl⟩
  have NQ0 := fun W => neq_msg [3, s, 0, 0, 0, 0, 0, 0, 0, 0, 0, 0] [3, s, 0, 0, 0, 0, 0, 0, 0, 0, 0, 0] hl hl W
  rw [decide_eq_true rfl] at NQ0
  have NQ : ∀ W, (binOp .neq 66 (.agg #[.int .i64 3, .int .i64 s, .int .i64 0, .int .i64 0, .int .i64 0, .int .i64 0, .int .i64 0, .bool false, .int .i64 0, .int .i64 0, .int .i64 0, .int .i64 0]) (.agg #[.int .i64 3, .int .i64 s, .int .i64 0, .int .i64 0, .int .i64 0, .int .i64 0, .int .i64 0, .bool false, .int .i64 0, .int .i64 0, .int .i64 0, .int .i64 0])).run Tryd.prog W = .ok (.bool false) W := NQ0
  have HF : fitsB 3 s 0 0 0 0 0 0 0 0 0 = true := by
    rw [fitsB_iff]
    simp only [if_true, show ¬ (3 : Int) = 11 from by decide, if_false]
    omega
  have CN : Hid (∀ W, Calls Tryd.prog 45 #[.agg #[.int .i64 3, .int .i64 s, .int .i64 0, .int .i64 0, .int .i64 0, .int .i64 0, .int .i64 0, .bool false, .int .i64 0, .int .i64 0, .int .i64 0, .int .i64 0]] W fun e' w' => e' = .returned (.agg #[.int .i64 3, .int .i64 s, .int .i64 0, .int .i64 0, .int .i64 0, .int .i64 0, .int .i64 0, .bool false, .int .i64 0, .int .i64 0, .int .i64 0, .int .i64 0]) ∧ Below W.heap.size W w') := Lib.hid fun W => named_3 s 0 0 0 0 0 0 0 0 0 0 W
  have CPs := Lib.hid (fun W => ref08_4 s hs.1 hs.2 W)
  clear hp hl NQ0 hs
  go_enter Tryd.func25, Tryd.ntmps25
  go_wp2_with fail
  have K1 := Lib.hid (Blk.new w #[.int .i64 3, .int .i64 s, .int .i64 0, .int .i64 0, .int .i64 0, .int .i64 0, .int .i64 0, .bool false, .int .i64 0, .int .i64 0, .int .i64 0, .int .i64 0] 66)
  have BB := Lib.hid (below_alloc1 w (.cells #[.int .i64 3, .int .i64 s, .int .i64 0, .int .i64 0, .int .i64 0, .int .i64 0, .int .i64 0, .bool false, .int .i64 0, .int .i64 0, .int .i64 0, .int .i64 0] 66))
  generalize w.alloc (.cells #[.int .i64 3, .int .i64 s, .int .i64 0, .int .i64 0, .int .i64 0, .int .i64 0, .int .i64 0, .bool false, .int .i64 0, .int .i64 0, .int .i64 0, .int .i64 0] 66) = w0 at *
  ((with_reducible refine (fits_any _ _ _ _ _ _ _ _ _ _ _ _ _).mono ?_))
  rintro e' w1 ⟨rfl, b1⟩
  rw [HF]
  replace K1 := Lib.hid (K1.out.below b1)
  replace BB := Lib.hid (bt BB.out b1)
  clear b1 HF
  go_wp2_with fail
  refine wp_region_ext (by kernel_rfl) (by kernel_rfl) ?_
  repeat (first
        | go_big_quiet_skip
        | (go_big_quiet_want
           first
             | (refine quiet_load_blk (T := 66) (g := w.heap.size) agg_msg _ rfl rfl K1 ?_ ?_; (· rfl); go_simp; go_big_quiet_on)
             | (go_big_quiet_op
                first
                  | go_big_quiet_on
                  | go_big_quiet_call (((with_reducible refine ext_of (CN.out _)))))))
  refine wpQuiet_nil ?_
  intro _ hw'
  obtain ⟨y9, rfl⟩ := hw'
  replace K1 := Lib.hid (K1.out.below (exw_bel y9))
  replace BB := Lib.hid (bt BB.out (exw_bel y9))
  generalize exw w1 y9 = w2 at *
  clear NQ CN
  have c0 : w2.cell? ⟨w.heap.size, 0, none⟩ = some (.int .i64 3) := (K1.out.cell 0).trans rfl
  have c1w2 : w2.cell? ⟨w.heap.size, 1, none⟩ = some (.int .i64 s) := (K1.out.cell 1).trans rfl
  have lw0 := K1.out.lt
  go_wp2_with ((with_reducible show wpList _ _ _ (⟨some 40, _, _, _, _, _⟩ :: _) _ _); refine Marker.mk ?_)
  refine Marker.in ?_
  have OK := Lib.hid (own_one w2 3 (by omega) (by omega))
  have B3 := below_alloc1 w2 (.cells #[.int .u8 3] 5)
  replace K1 := Lib.hid (K1.out.below B3)
  replace BB := Lib.hid (bt BB.out B3)
  have l2 := lw0
  have lz := B3.size
  have lw : w.heap.size ≤ w2.heap.size := by omega
  generalize w2.alloc (.cells #[.int .u8 3] 5) = w3 at *
  generalize hb2 : w2.heap.size = base at *
  clear B3 hb2 c0 lw0 c1w2
  have c1w3 : w3.cell? ⟨w.heap.size, 1, none⟩ = some (.int .i64 s) := (K1.out.cell 1).trans rfl
  go_wp2_with fail
  ((with_reducible refine (CPs.out _).mono ?_))
  rintro e' w4 ⟨g4, rfl, k4, b4⟩
  have R4 := Lib.hid (u8V_row k4 (be_bytes s 4))
  replace K1 := Lib.hid (K1.out.below b4)
  replace BB := Lib.hid (bt BB.out b4)
  replace OK := Lib.hid (own_below OK.out b4)
  have lz4 : base ≤ w4.heap.size := Nat.le_trans lz b4.size
  clear b4 k4 CPs c1w3
  go_wp2_with ((with_reducible show wpList _ _ _ (⟨some 41, _, _, _, _, _⟩ :: _) _ _); (with_reducible refine wpList_append_bytes _ ?_ (.tmp 37) (.tmp 40) ?_ base (some ⟨base, 0, none⟩) 1 1 [3] ?_ ?_ OK.out (some ⟨g4, 0, none⟩) 4 4 (be s 4) ?_ ?_ R4.out ?_ ?_ ?_); (· rfl); (· rfl); (· rfl); (· rfl); (· exact be_len _ _); (· rfl); (· omega); (· exact lz4); rintro A5 c5 w5 o5 b5; refine Marker.mk ?_)
  refine Marker.in ?_
  have O5 := Lib.hid o5
  replace K1 := Lib.hid (blk_under K1.out b5 (by omega))
  replace BB := Lib.hid (BB.out.trans (b5.mono lw))
  have lz5 : base ≤ w5.heap.size := Nat.le_trans lz4 b5.size
  clear o5 b5 R4 OK lz4
  have c0 : w5.cell? ⟨w.heap.size, 0, none⟩ = some (.int .i64 3) := (K1.out.cell 0).trans rfl
  go_wp2_with fail
  go_ret2
  exact rputP_some HP.out (by simp [be_len]) rfl O5.out BB.out
set_option maxRecDepth 100000 in
set_option maxHeartbeats 1600000 in
theorem rput_4 (s : Int) (hs : 0 ≤ s ∧ s ≤ 4294967295) (w : World) :
    Calls Tryd.prog 25 #[.agg #[.int .i64 4, .int .i64 s, .int .i64 0, .int .i64 0, .int .i64 0, .int .i64 0, .int .i64 0, .bool false, .int .i64 0, .int .i64 0, .int .i64 0, .int .i64 0]] w (RPutP [4, s, 0, 0, 0, 0, 0, 0, 0, 0, 0, 0] w) := by
  have hp := put8_lit4 s hs
  have HP := Lib.hid hp
  have hl : IsMsgL [4, s, 0, 0, 0, 0, 0, 0, 0, 0, 0, 0] := ⟨rfl, .inl rfl⟩
  have NQ0 := fun W => neq_msg [4, s, 0, 0, 0, 0, 0, 0, 0, 0, 0, 0] [4, s, 0, 0, 0, 0, 0, 0, 0, 0, 0, 0] hl hl W
  rw [decide_eq_true rfl] at NQ0
  have NQ : ∀ W, (binOp .neq 66 (.agg #[.int .i64 4, .int .i64 s, .int .i64 0, .int .i64 0, .int .i64 0, .int .i64 0, .int .i64 0, .bool false, .int .i64 0, .int .i64 0, .int .i64 0, .int .i64 0]) (.agg #[.int .i64 4, .int .i64 s, .int .i64 0, .int .i64 0, .int .i64 0, .int .i64 0, .int .i64 0, .bool false, .int .i64 0, .int .i64 0, .int .i64 0, .int .i64 0])).run Tryd.prog W = .ok (.bool false) W := NQ0
  have HF : fitsB 4 s 0 0 0 0 0 0 0 0 0 = true := by
    rw [fitsB_iff]
    simp only [if_true, show ¬ (4 : Int) = 11 from by decide, if_false]
    omega
  have CN : Hid (∀ W, Calls Tryd.prog 45 #[.agg #[.int .i64 4, .int .i64 s, .int .i64 0, .int .i64 0, .int .i64 0, .int .i64 0, .int .i64 0, .bool false, .int .i64 0, .int .i64 0, .int .i64 0, .int .i64 0]] W fun e' w' => e' = .returned (.agg #[.int .i64 4, .int .i64 s, .int .i64 0, .int .i64 0, .int .i64 0, .int .i64 0, .int .i64 0, .bool false, .int .i64 0, .int .i64 0, .int .i64 0, .int .i64 0]) ∧ Below W.heap.size W w') := Lib.hid fun W => named_4 s 0 0 0 0 0 0 0 0 0 0 W
  have CPs := Lib.hid (fun W => ref08_4 s hs.1 hs.2 W)
  clear hp hl NQ0 hs
  go_enter Tryd.func25, Tryd.ntmps25
  go_wp2_with fail
  have K1 := Lib.hid (Blk.new w #[.int .i64 4, .int .i64 s, .int .i64 0, .int .i64 0, .int .i64 0, .int .i64 0, .int .i64 0, .bool false, .int .i64 0, .int .i64 0, .int .i64 0, .int .i64 0] 66)
  have BB := Lib.hid (below_alloc1 w (.cells #[.int .i64 4, .int .i64 s, .int .i64 0, .int .i64 0, .int .i64 0, .int .i64 0, .int .i64 0, .bool false, .int .i64 0, .int .i64 0, .int .i64 0, .int .i64 0] 66))
  generalize w.alloc (.cells #[.int .i64 4, .int .i64 s, .int .i64 0, .int .i64 0, .int .i64 0, .int .i64 0, .int .i64 0, .bool false, .int .i64 0, .int .i64 0, .int .i64 0, .int .i64 0] 66) = w0 at *
  ((with_reducible refine (fits_any _ _ _ _ _ _ _ _ _ _ _ _ _).mono ?_))
  rintro e' w1 ⟨rfl, b1⟩
  rw [HF]
  replace K1 := Lib.hid (K1.out.below b1)
  replace BB := Lib.hid (bt BB.out b1)
  clear b1 HF
  go_wp2_with fail
  refine wp_region_ext (by kernel_rfl) (by kernel_rfl) ?_
  repeat (first
        | go_big_quiet_skip
        | (go_big_quiet_want
           first
             | (refine quiet_load_blk (T := 66) (g := w.heap.size) agg_msg _ rfl rfl K1 ?_ ?_; (· rfl); go_simp; go_big_quiet_on)
             | (go_big_quiet_op
                first
                  | go_big_quiet_on
                  | go_big_quiet_call (((with_reducible refine ext_of (CN.out _)))))))
  refine wpQuiet_nil ?_
  intro _ hw'
  obtain ⟨y9, rfl⟩ := hw'
  replace K1 := Lib.hid (K1.out.below (exw_bel y9))
  replace BB := Lib.hid (bt BB.out (exw_bel y9))
  generalize exw w1 y9 = w2 at *
  clear NQ CN
  have c0 : w2.cell? ⟨w.heap.size, 0, none⟩ = some (.int .i64 4) := (K1.out.cell 0).trans rfl
  have c1w2 : w2.cell? ⟨w.heap.size, 1, none⟩ = some (.int .i64 s) := (K1.out.cell 1).trans rfl
  have lw0 := K1.out.lt
  go_wp2_with ((with_reducible show wpList _ _ _ (⟨some 40, _, _, _, _, _⟩ :: _) _ _); refine Marker.mk ?_)
  refine Marker.in ?_
  have OK := Lib.hid (own_one w2 4 (by omega) (by omega))
  have B3 := below_alloc1 w2 (.cells #[.int .u8 4] 5)
  replace K1 := Lib.hid (K1.out.below B3)
  replace BB := Lib.hid (bt BB.out B3)
  have l2 := lw0
  have lz := B3.size
  have lw : w.heap.size ≤ w2.heap.size := by omega
  generalize w2.alloc (.cells #[.int .u8 4] 5) = w3 at *
  generalize hb2 : w2.heap.size = base at *
  clear B3 hb2 c0 lw0 c1w2
  have c1w3 : w3.cell? ⟨w.heap.size, 1, none⟩ = some (.int .i64 s) := (K1.out.cell 1).trans rfl
  go_wp2_with fail
  ((with_reducible refine (CPs.out _).mono ?_))
  rintro e' w4 ⟨g4, rfl, k4, b4⟩
  have R4 := Lib.hid (u8V_row k4 (be_bytes s 4))
  replace K1 := Lib.hid (K1.out.below b4)
  replace BB := Lib.hid (bt BB.out b4)
  replace OK := Lib.hid (own_below OK.out b4)
  have lz4 : base ≤ w4.heap.size := Nat.le_trans lz b4.size
  clear b4 k4 CPs c1w3
  go_wp2_with ((with_reducible show wpList _ _ _ (⟨some 41, _, _, _, _, _⟩ :: _) _ _); (with_reducible refine wpList_append_bytes _ ?_ (.tmp 37) (.tmp 40) ?_ base (some ⟨base, 0, none⟩) 1 1 [4] ?_ ?_ OK.out (some ⟨g4, 0, none⟩) 4 4 (be s 4) ?_ ?_ R4.out ?_ ?_ ?_); (· rfl); (· rfl); (· rfl); (· rfl); (· exact be_len _ _); (· rfl); (· omega); (· exact lz4); rintro A5 c5 w5 o5 b5; refine Marker.mk ?_)
  refine Marker.in ?_
  have O5 := Lib.hid o5
  replace K1 := Lib.hid (blk_under K1.out b5 (by omega))
  replace BB := Lib.hid (BB.out.trans (b5.mono lw))
  have lz5 : base ≤ w5.heap.size := Nat.le_trans lz4 b5.size
  clear o5 b5 R4 OK lz4
  have c0 : w5.cell? ⟨w.heap.size, 0, none⟩ = some (.int .i64 4) := (K1.out.cell 0).trans rfl
  go_wp2_with fail
  go_ret2
  exact rputP_some HP.out (by simp [be_len]) rfl O5.out BB.out
set_option maxRecDepth 100000 in
set_option maxHeartbeats 1600000 in
theorem rput_5 (s n : Int) (hs : 0 ≤ s ∧ s ≤ 4294967295) (hn : n = 0 ∨ n = 1) (w : World) :
    Calls Tryd.prog 25 #[.agg #[.int .i64 5, .int .i64 s, .int .i64 0, .int .i64 0, .int .i64 0, .int .i64 0, .int .i64 0, .bool (n == 1), .int .i64 0, .int .i64 0, .int .i64 0, .int .i64 0]] w (RPutP [5, s, 0, 0, 0, 0, 0, n, 0, 0, 0, 0] w) := by
  have hp := put8_lit5 s n hs hn
  have hn2 := hn
  obtain ⟨b, hb⟩ : ∃ b, b = (n == 1) := ⟨_, rfl⟩
  have HP := Lib.hid hp
  have hl : IsMsgL [5, s, 0, 0, 0, 0, 0, n, 0, 0, 0, 0] := ⟨rfl, hn⟩
  have NQ0 := fun W => neq_msg [5, s, 0, 0, 0, 0, 0, n, 0, 0, 0, 0] [5, s, 0, 0, 0, 0, 0, n, 0, 0, 0, 0] hl hl W
  rw [decide_eq_true rfl] at NQ0
  have NQ : ∀ W, (binOp .neq 66 (.agg #[.int .i64 5, .int .i64 s, .int .i64 0, .int .i64 0, .int .i64 0, .int .i64 0, .int .i64 0, .bool (n == 1), .int .i64 0, .int .i64 0, .int .i64 0, .int .i64 0]) (.agg #[.int .i64 5, .int .i64 s, .int .i64 0, .int .i64 0, .int .i64 0, .int .i64 0, .int .i64 0, .bool (n == 1), .int .i64 0, .int .i64 0, .int .i64 0, .int .i64 0])).run Tryd.prog W = .ok (.bool false) W := NQ0
  have HF : fitsB 5 s 0 0 0 0 0 0 0 0 0 = true := by
    rw [fitsB_iff]
    simp only [if_true, show ¬ (5 : Int) = 11 from by decide, if_false]
    omega
  have CN : Hid (∀ W, Calls Tryd.prog 45 #[.agg #[.int .i64 5, .int .i64 s, .int .i64 0, .int .i64 0, .int .i64 0, .int .i64 0, .int .i64 0, .bool (n == 1), .int .i64 0, .int .i64 0, .int .i64 0, .int .i64 0]] W fun e' w' => e' = .returned (.agg #[.int .i64 5, .int .i64 s, .int .i64 0, .int .i64 0, .int .i64 0, .int .i64 0, .int .i64 0, .bool (n == 1), .int .i64 0, .int .i64 0, .int .i64 0, .int .i64 0]) ∧ Below W.heap.size W w') := Lib.hid fun W => named_5 s 0 0 0 0 0 n 0 0 0 0 W
  rw [← hb] at NQ CN ⊢
  replace hb := Lib.hid hb
  have HV := Lib.hid hn
  clear hn
  have CPs := Lib.hid (fun W => ref08_4 s hs.1 hs.2 W)
  clear hp hl NQ0 hs hn2
  go_enter Tryd.func25, Tryd.ntmps25
  go_wp2_with fail
  have K1 := Lib.hid (Blk.new w #[.int .i64 5, .int .i64 s, .int .i64 0, .int .i64 0, .int .i64 0, .int .i64 0, .int .i64 0, .bool b, .int .i64 0, .int .i64 0, .int .i64 0, .int .i64 0] 66)
  have BB := Lib.hid (below_alloc1 w (.cells #[.int .i64 5, .int .i64 s, .int .i64 0, .int .i64 0, .int .i64 0, .int .i64 0, .int .i64 0, .bool b, .int .i64 0, .int .i64 0, .int .i64 0, .int .i64 0] 66))
  generalize w.alloc (.cells #[.int .i64 5, .int .i64 s, .int .i64 0, .int .i64 0, .int .i64 0, .int .i64 0, .int .i64 0, .bool b, .int .i64 0, .int .i64 0, .int .i64 0, .int .i64 0] 66) = w0 at *
  ((with_reducible refine (fits_any _ _ _ _ _ _ _ _ _ _ _ _ _).mono ?_))
  rintro e' w1 ⟨rfl, b1⟩
  rw [HF]
  replace K1 := Lib.hid (K1.out.below b1)
  replace BB := Lib.hid (bt BB.out b1)
  clear b1 HF
  go_wp2_with fail
  refine wp_region_ext (by kernel_rfl) (by kernel_rfl) ?_
  repeat (first
        | go_big_quiet_skip
        | (go_big_quiet_want
           first
             | (refine quiet_load_blk (T := 66) (g := w.heap.size) agg_msg _ rfl rfl K1 ?_ ?_; (· rfl); go_simp; go_big_quiet_on)
             | (go_big_quiet_op
                first
                  | go_big_quiet_on
                  | go_big_quiet_call (((with_reducible refine ext_of (CN.out _)))))))
  refine wpQuiet_nil ?_
  intro _ hw'
  obtain ⟨y9, rfl⟩ := hw'
  replace K1 := Lib.hid (K1.out.below (exw_bel y9))
  replace BB := Lib.hid (bt BB.out (exw_bel y9))
  generalize exw w1 y9 = w2 at *
  clear NQ CN
  have c0 : w2.cell? ⟨w.heap.size, 0, none⟩ = some (.int .i64 5) := (K1.out.cell 0).trans rfl
  have c1w2 : w2.cell? ⟨w.heap.size, 1, none⟩ = some (.int .i64 s) := (K1.out.cell 1).trans rfl
  have c7w2 : w2.cell? ⟨w.heap.size, 7, none⟩ = some (.bool b) := (K1.out.cell 7).trans rfl
  have lw0 := K1.out.lt
  go_wp2_with ((with_reducible show wpList _ _ _ (⟨some 40, _, _, _, _, _⟩ :: _) _ _); refine Marker.mk ?_)
  refine Marker.in ?_
  have OK := Lib.hid (own_one w2 5 (by omega) (by omega))
  have B3 := below_alloc1 w2 (.cells #[.int .u8 5] 5)
  replace K1 := Lib.hid (K1.out.below B3)
  replace BB := Lib.hid (bt BB.out B3)
  have l2 := lw0
  have lz := B3.size
  have lw : w.heap.size ≤ w2.heap.size := by omega
  generalize w2.alloc (.cells #[.int .u8 5] 5) = w3 at *
  generalize hb2 : w2.heap.size = base at *
  clear B3 hb2 c0 lw0 c1w2 c7w2
  have c1w3 : w3.cell? ⟨w.heap.size, 1, none⟩ = some (.int .i64 s) := (K1.out.cell 1).trans rfl
  go_wp2_with fail
  ((with_reducible refine (CPs.out _).mono ?_))
  rintro e' w4 ⟨g4, rfl, k4, b4⟩
  have R4 := Lib.hid (u8V_row k4 (be_bytes s 4))
  replace K1 := Lib.hid (K1.out.below b4)
  replace BB := Lib.hid (bt BB.out b4)
  replace OK := Lib.hid (own_below OK.out b4)
  have lz4 : base ≤ w4.heap.size := Nat.le_trans lz b4.size
  clear b4 k4 CPs c1w3
  go_wp2_with ((with_reducible show wpList _ _ _ (⟨some 41, _, _, _, _, _⟩ :: _) _ _); (with_reducible refine wpList_append_bytes _ ?_ (.tmp 37) (.tmp 40) ?_ base (some ⟨base, 0, none⟩) 1 1 [5] ?_ ?_ OK.out (some ⟨g4, 0, none⟩) 4 4 (be s 4) ?_ ?_ R4.out ?_ ?_ ?_); (· rfl); (· rfl); (· rfl); (· rfl); (· exact be_len _ _); (· rfl); (· omega); (· exact lz4); rintro A5 c5 w5 o5 b5; refine Marker.mk ?_)
  refine Marker.in ?_
  have O5 := Lib.hid o5
  replace K1 := Lib.hid (blk_under K1.out b5 (by omega))
  replace BB := Lib.hid (BB.out.trans (b5.mono lw))
  have lz5 : base ≤ w5.heap.size := Nat.le_trans lz4 b5.size
  clear o5 b5 R4 OK lz4
  have c0 : w5.cell? ⟨w.heap.size, 0, none⟩ = some (.int .i64 5) := (K1.out.cell 0).trans rfl
  have c7w5 : w5.cell? ⟨w.heap.size, 7, none⟩ = some (.bool b) := (K1.out.cell 7).trans rfl
  have hv := HV.out
  clear HV
  rcases hv with rfl | rfl
  · obtain rfl : b = false := hb.out
    clear hb
    go_wp2_with ((with_reducible show wpList _ _ _ (⟨some 53, _, _, _, _, _⟩ :: _) _ _); refine Marker.mk ?_)
    refine Marker.in ?_
    have RR := Lib.hid (own_one w5 0 (by omega) (by omega)).row
    have B6 := below_alloc1 w5 (.cells #[.int .u8 0] 5)
    replace O5 := Lib.hid (own_below O5.out B6)
    replace BB := Lib.hid (bt BB.out B6)
    have lz6 : base ≤ (w5.alloc (.cells #[.int .u8 0] 5)).heap.size := Nat.le_trans lz5 B6.size
    (with_reducible refine wpList_append_bytes _ rfl (.tmp 51) (.tmp 52) rfl base A5 c5 5 ([5] ++ be s 4) ?_ rfl O5.out (some ⟨w5.heap.size, 0, none⟩) 1 1 [0] rfl rfl RR.out (by omega) lz6 ?_)
    · simp [be_len]
    intro A6 c6 w6 o6 b6
    have O6 := Lib.hid o6
    replace BB := Lib.hid (BB.out.trans (b6.mono lw))
    clear o6 b6 B6 RR O5 c0
    go_wp2_with fail
    go_ret2
    exact rputP_some HP.out (by simp [be_len]) rfl O6.out BB.out
  · obtain rfl : b = true := hb.out
    clear hb
    go_wp2_with ((with_reducible show wpList _ _ _ (⟨some 50, _, _, _, _, _⟩ :: _) _ _); refine Marker.mk ?_)
    refine Marker.in ?_
    have RR := Lib.hid (own_one w5 1 (by omega) (by omega)).row
    have B6 := below_alloc1 w5 (.cells #[.int .u8 1] 5)
    replace O5 := Lib.hid (own_below O5.out B6)
    replace BB := Lib.hid (bt BB.out B6)
    have lz6 : base ≤ (w5.alloc (.cells #[.int .u8 1] 5)).heap.size := Nat.le_trans lz5 B6.size
    (with_reducible refine wpList_append_bytes _ rfl (.tmp 48) (.tmp 49) rfl base A5 c5 5 ([5] ++ be s 4) ?_ rfl O5.out (some ⟨w5.heap.size, 0, none⟩) 1 1 [1] rfl rfl RR.out (by omega) lz6 ?_)
    · simp [be_len]
    intro A6 c6 w6 o6 b6
    have O6 := Lib.hid o6
    replace BB := Lib.hid (BB.out.trans (b6.mono lw))
    clear o6 b6 B6 RR O5 c0
    go_wp2_with fail
    go_ret2
    exact rputP_some HP.out (by simp [be_len]) rfl O6.out BB.out
set_option maxRecDepth 100000 in
set_option maxHeartbeats 1600000 in
theorem rput_6 (s t : Int) (hs : 0 ≤ s ∧ s ≤ 4294967295) (ht : 0 ≤ t ∧ t ≤ 4) (w : World) :
    Calls Tryd.prog 25 #[.agg #[.int .i64 6, .int .i64 s, .int .i64 0, .int .i64 t, .int .i64 0, .int .i64 0, .int .i64 0, .bool false, .int .i64 0, .int .i64 0, .int .i64 0, .int .i64 0]] w (RPutP [6, s, 0, t, 0, 0, 0, 0, 0, 0, 0, 0] w) := by
  have hp := put8_lit6 s t hs ht
  have HP := Lib.hid hp
  have hl : IsMsgL [6, s, 0, t, 0, 0, 0, 0, 0, 0, 0, 0] := ⟨rfl, .inl rfl⟩
  have NQ0 := fun W => neq_msg [6, s, 0, t, 0, 0, 0, 0, 0, 0, 0, 0] [6, s, 0, t, 0, 0, 0, 0, 0, 0, 0, 0] hl hl W
  rw [decide_eq_true rfl] at NQ0
  have NQ : ∀ W, (binOp .neq 66 (.agg #[.int .i64 6, .int .i64 s, .int .i64 0, .int .i64 t, .int .i64 0, .int .i64 0, .int .i64 0, .bool false, .int .i64 0, .int .i64 0, .int .i64 0, .int .i64 0]) (.agg #[.int .i64 6, .int .i64 s, .int .i64 0, .int .i64 t, .int .i64 0, .int .i64 0, .int .i64 0, .bool false, .int .i64 0, .int .i64 0, .int .i64 0, .int .i64 0])).run Tryd.prog W = .ok (.bool false) W := NQ0
  have HF : fitsB 6 s 0 t 0 0 0 0 0 0 0 = true := by
    rw [fitsB_iff]
    simp only [if_true, show ¬ (6 : Int) = 11 from by decide, if_false]
    omega
  have CN : Hid (∀ W, Calls Tryd.prog 45 #[.agg #[.int .i64 6, .int .i64 s, .int .i64 0, .int .i64 t, .int .i64 0, .int .i64 0, .int .i64 0, .bool false, .int .i64 0, .int .i64 0, .int .i64 0, .int .i64 0]] W fun e' w' => e' = .returned (.agg #[.int .i64 6, .int .i64 s, .int .i64 0, .int .i64 t, .int .i64 0, .int .i64 0, .int .i64 0, .bool false, .int .i64 0, .int .i64 0, .int .i64 0, .int .i64 0]) ∧ Below W.heap.size W w') := Lib.hid fun W => named_6 s 0 t 0 0 0 0 0 0 0 0 W
  have CPs := Lib.hid (fun W => ref08_4 s hs.1 hs.2 W)
  have qt0 : (0 : Int) ≤ t := by omega
  have qt1 : t ≤ 255 := by omega
  clear hp hl NQ0 hs ht
  go_enter Tryd.func25, Tryd.ntmps25
  go_wp2_with fail
  have K1 := Lib.hid (Blk.new w #[.int .i64 6, .int .i64 s, .int .i64 0, .int .i64 t, .int .i64 0, .int .i64 0, .int .i64 0, .bool false, .int .i64 0, .int .i64 0, .int .i64 0, .int .i64 0] 66)
  have BB := Lib.hid (below_alloc1 w (.cells #[.int .i64 6, .int .i64 s, .int .i64 0, .int .i64 t, .int .i64 0, .int .i64 0, .int .i64 0, .bool false, .int .i64 0, .int .i64 0, .int .i64 0, .int .i64 0] 66))
  generalize w.alloc (.cells #[.int .i64 6, .int .i64 s, .int .i64 0, .int .i64 t, .int .i64 0, .int .i64 0, .int .i64 0, .bool false, .int .i64 0, .int .i64 0, .int .i64 0, .int .i64 0] 66) = w0 at *
  ((with_reducible refine (fits_any _ _ _ _ _ _ _ _ _ _ _ _ _).mono ?_))
  rintro e' w1 ⟨rfl, b1⟩
  rw [HF]
  replace K1 := Lib.hid (K1.out.below b1)
  replace BB := Lib.hid (bt BB.out b1)
  clear b1 HF
  go_wp2_with fail
  refine wp_region_ext (by kernel_rfl) (by kernel_rfl) ?_
  repeat (first
        | go_big_quiet_skip
        | (go_big_quiet_want
           first
             | (refine quiet_load_blk (T := 66) (g := w.heap.size) agg_msg _ rfl rfl K1 ?_ ?_; (· rfl); go_simp; go_big_quiet_on)
             | (go_big_quiet_op
                first
                  | go_big_quiet_on
                  | go_big_quiet_call (((with_reducible refine ext_of (CN.out _)))))))
  refine wpQuiet_nil ?_
  intro _ hw'
  obtain ⟨y9, rfl⟩ := hw'
  replace K1 := Lib.hid (K1.out.below (exw_bel y9))
  replace BB := Lib.hid (bt BB.out (exw_bel y9))
  generalize exw w1 y9 = w2 at *
  clear NQ CN
  have c0 : w2.cell? ⟨w.heap.size, 0, none⟩ = some (.int .i64 6) := (K1.out.cell 0).trans rfl
  have c1w2 : w2.cell? ⟨w.heap.size, 1, none⟩ = some (.int .i64 s) := (K1.out.cell 1).trans rfl
  have c3w2 : w2.cell? ⟨w.heap.size, 3, none⟩ = some (.int .i64 t) := (K1.out.cell 3).trans rfl
  have lw0 := K1.out.lt
  go_wp2_with ((with_reducible show wpList _ _ _ (⟨some 40, _, _, _, _, _⟩ :: _) _ _); refine Marker.mk ?_)
  refine Marker.in ?_
  have OK := Lib.hid (own_one w2 6 (by omega) (by omega))
  have B3 := below_alloc1 w2 (.cells #[.int .u8 6] 5)
  replace K1 := Lib.hid (K1.out.below B3)
  replace BB := Lib.hid (bt BB.out B3)
  have l2 := lw0
  have lz := B3.size
  have lw : w.heap.size ≤ w2.heap.size := by omega
  generalize w2.alloc (.cells #[.int .u8 6] 5) = w3 at *
  generalize hb2 : w2.heap.size = base at *
  clear B3 hb2 c0 lw0 c1w2 c3w2
  have c1w3 : w3.cell? ⟨w.heap.size, 1, none⟩ = some (.int .i64 s) := (K1.out.cell 1).trans rfl
  go_wp2_with fail
  ((with_reducible refine (CPs.out _).mono ?_))
  rintro e' w4 ⟨g4, rfl, k4, b4⟩
  have R4 := Lib.hid (u8V_row k4 (be_bytes s 4))
  replace K1 := Lib.hid (K1.out.below b4)
  replace BB := Lib.hid (bt BB.out b4)
  replace OK := Lib.hid (own_below OK.out b4)
  have lz4 : base ≤ w4.heap.size := Nat.le_trans lz b4.size
  clear b4 k4 CPs c1w3
  go_wp2_with ((with_reducible show wpList _ _ _ (⟨some 41, _, _, _, _, _⟩ :: _) _ _); (with_reducible refine wpList_append_bytes _ ?_ (.tmp 37) (.tmp 40) ?_ base (some ⟨base, 0, none⟩) 1 1 [6] ?_ ?_ OK.out (some ⟨g4, 0, none⟩) 4 4 (be s 4) ?_ ?_ R4.out ?_ ?_ ?_); (· rfl); (· rfl); (· rfl); (· rfl); (· exact be_len _ _); (· rfl); (· omega); (· exact lz4); rintro A5 c5 w5 o5 b5; refine Marker.mk ?_)
  refine Marker.in ?_
  have O5 := Lib.hid o5
  replace K1 := Lib.hid (blk_under K1.out b5 (by omega))
  replace BB := Lib.hid (BB.out.trans (b5.mono lw))
  have lz5 : base ≤ w5.heap.size := Nat.le_trans lz4 b5.size
  clear o5 b5 R4 OK lz4
  have c0 : w5.cell? ⟨w.heap.size, 0, none⟩ = some (.int .i64 6) := (K1.out.cell 0).trans rfl
  have c3w5 : w5.cell? ⟨w.heap.size, 3, none⟩ = some (.int .i64 t) := (K1.out.cell 3).trans rfl
  go_wp2_with ((with_reducible show wpList _ _ _ (⟨some 61, _, _, _, _, _⟩ :: _) _ _); refine Marker.mk ?_)
  refine Marker.in ?_
  have RR := Lib.hid (own_one w5 t qt0 qt1).row
  have B6 := below_alloc1 w5 (.cells #[.int .u8 t] 5)
  replace O5 := Lib.hid (own_below O5.out B6)
  replace BB := Lib.hid (bt BB.out B6)
  have lz6 : base ≤ (w5.alloc (.cells #[.int .u8 t] 5)).heap.size := Nat.le_trans lz5 B6.size
  (with_reducible refine wpList_append_bytes _ rfl (.tmp 56) (.tmp 60) rfl base A5 c5 5 ([6] ++ be s 4) ?_ rfl O5.out (some ⟨w5.heap.size, 0, none⟩) 1 1 [t] rfl rfl RR.out (by omega) lz6 ?_)
  · simp [be_len]
  intro A6 c6 w6 o6 b6
  have O6 := Lib.hid o6
  replace BB := Lib.hid (BB.out.trans (b6.mono lw))
  clear o6 b6 B6 RR O5 c0
  go_wp2_with fail
  go_ret2
  exact rputP_some HP.out (by simp [be_len]) rfl O6.out BB.out
set_option maxRecDepth 100000 in
set_option maxHeartbeats 1600000 in
theorem rput_7 (s e : Int) (hs : 0 ≤ s ∧ s ≤ 4294967295) (he : 0 ≤ e ∧ e ≤ 65535) (w : World) :
    Calls Tryd.prog 25 #[.agg #[.int .i64 7, .int .i64 s, .int .i64 0, .int .i64 0, .int .i64 e, .int .i64 0, .int .i64 0, .bool false, .int .i64 0, .int .i64 0, .int .i64 0, .int .i64 0]] w (RPutP [7, s, 0, 0, e, 0, 0, 0, 0, 0, 0, 0] w) := by
  have hp := put8_lit7 s e hs he
  have HP := Lib.hid hp
  have hl : IsMsgL [7, s, 0, 0, e, 0, 0, 0, 0, 0, 0, 0] := ⟨rfl, .inl rfl⟩
  have NQ0 := fun W => neq_msg [7, s, 0, 0, e, 0, 0, 0, 0, 0, 0, 0] [7, s, 0, 0, e, 0, 0, 0, 0, 0, 0, 0] hl hl W
  rw [decide_eq_true rfl] at NQ0
  have NQ : ∀ W, (binOp .neq 66 (.agg #[.int .i64 7, .int .i64 s, .int .i64 0, .int .i64 0, .int .i64 e, .int .i64 0, .int .i64 0, .bool false, .int .i64 0, .int .i64 0, .int .i64 0, .int .i64 0]) (.agg #[.int .i64 7, .int .i64 s, .int .i64 0, .int .i64 0, .int .i64 e, .int .i64 0, .int .i64 0, .bool false, .int .i64 0, .int .i64 0, .int .i64 0, .int .i64 0])).run Tryd.prog W = .ok (.bool false) W := NQ0
  have HF : fitsB 7 s 0 0 e 0 0 0 0 0 0 = true := by
    rw [fitsB_iff]
    simp only [if_true, show ¬ (7 : Int) = 11 from by decide, if_false]
    omega
  have CN : Hid (∀ W, Calls Tryd.prog 45 #[.agg #[.int .i64 7, .int .i64 s, .int .i64 0, .int .i64 0, .int .i64 e, .int .i64 0, .int .i64 0, .bool false, .int .i64 0, .int .i64 0, .int .i64 0, .int .i64 0]] W fun e' w' => e' = .returned (.agg #[.int .i64 7, .int .i64 s, .int .i64 0, .int .i64 0, .int .i64 e, .int .i64 0, .int .i64 0, .bool false, .int .i64 0, .int .i64 0, .int .i64 0, .int .i64 0]) ∧ Below W.heap.size W w') := Lib.hid fun W => named_7 s 0 0 e 0 0 0 0 0 0 0 W
  have CPs := Lib.hid (fun W => ref08_4 s hs.1 hs.2 W)
  have CPe := Lib.hid (fun W => ref08_2 e he.1 he.2 W)
  clear hp hl NQ0 hs he
  go_enter Tryd.func25, Tryd.ntmps25
  go_wp2_with fail
  have K1 := Lib.hid (Blk.new w #[.int .i64 7, .int .i64 s, .int .i64 0, .int .i64 0, .int .i64 e, .int .i64 0, .int .i64 0, .bool false, .int .i64 0, .int .i64 0, .int .i64 0, .int .i64 0] 66)
  have BB := Lib.hid (below_alloc1 w (.cells #[.int .i64 7, .int .i64 s, .int .i64 0, .int .i64 0, .int .i64 e, .int .i64 0, .int .i64 0, .bool false, .int .i64 0, .int .i64 0, .int .i64 0, .int .i64 0] 66))
  generalize w.alloc (.cells #[.int .i64 7, .int .i64 s, .int .i64 0, .int .i64 0, .int .i64 e, .int .i64 0, .int .i64 0, .bool false, .int .i64 0, .int .i64 0, .int .i64 0, .int .i64 0] 66) = w0 at *
  ((with_reducible refine (fits_any _ _ _ _ _ _ _ _ _ _ _ _ _).mono ?_))
  rintro e' w1 ⟨rfl, b1⟩
  rw [HF]
  replace K1 := Lib.hid (K1.out.below b1)
  replace BB := Lib.hid (bt BB.out b1)
  clear b1 HF
  go_wp2_with fail
  refine wp_region_ext (by kernel_rfl) (by kernel_rfl) ?_
  repeat (first
        | go_big_quiet_skip
        | (go_big_quiet_want
           first
             | (refine quiet_load_blk (T := 66) (g := w.heap.size) agg_msg _ rfl rfl K1 ?_ ?_; (· rfl); go_simp; go_big_quiet_on)
             | (go_big_quiet_op
                first
                  | go_big_quiet_on
                  | go_big_quiet_call (((with_reducible refine ext_of (CN.out _)))))))
  refine wpQuiet_nil ?_
  intro _ hw'
  obtain ⟨y9, rfl⟩ := hw'
  replace K1 := Lib.hid (K1.out.below (exw_bel y9))
  replace BB := Lib.hid (bt BB.out (exw_bel y9))
  generalize exw w1 y9 = w2 at *
  clear NQ CN
  have c0 : w2.cell? ⟨w.heap.size, 0, none⟩ = some (.int .i64 7) := (K1.out.cell 0).trans rfl
  have c1w2 : w2.cell? ⟨w.heap.size, 1, none⟩ = some (.int .i64 s) := (K1.out.cell 1).trans rfl
  have c4w2 : w2.cell? ⟨w.heap.size, 4, none⟩ = some (.int .i64 e) := (K1.out.cell 4).trans rfl
  have lw0 := K1.out.lt
  go_wp2_with ((with_reducible show wpList _ _ _ (⟨some 40, _, _, _, _, _⟩ :: _) _ _); refine Marker.mk ?_)
  refine Marker.in ?_
  have OK := Lib.hid (own_one w2 7 (by omega) (by omega))
  have B3 := below_alloc1 w2 (.cells #[.int .u8 7] 5)
  replace K1 := Lib.hid (K1.out.below B3)
  replace BB := Lib.hid (bt BB.out B3)
  have l2 := lw0
  have lz := B3.size
  have lw : w.heap.size ≤ w2.heap.size := by omega
  generalize w2.alloc (.cells #[.int .u8 7] 5) = w3 at *
  generalize hb2 : w2.heap.size = base at *
  clear B3 hb2 c0 lw0 c1w2 c4w2
  have c1w3 : w3.cell? ⟨w.heap.size, 1, none⟩ = some (.int .i64 s) := (K1.out.cell 1).trans rfl
  go_wp2_with fail
  ((with_reducible refine (CPs.out _).mono ?_))
  rintro e' w4 ⟨g4, rfl, k4, b4⟩
  have R4 := Lib.hid (u8V_row k4 (be_bytes s 4))
  replace K1 := Lib.hid (K1.out.below b4)
  replace BB := Lib.hid (bt BB.out b4)
  replace OK := Lib.hid (own_below OK.out b4)
  have lz4 : base ≤ w4.heap.size := Nat.le_trans lz b4.size
  clear b4 k4 CPs c1w3
  go_wp2_with ((with_reducible show wpList _ _ _ (⟨some 41, _, _, _, _, _⟩ :: _) _ _); (with_reducible refine wpList_append_bytes _ ?_ (.tmp 37) (.tmp 40) ?_ base (some ⟨base, 0, none⟩) 1 1 [7] ?_ ?_ OK.out (some ⟨g4, 0, none⟩) 4 4 (be s 4) ?_ ?_ R4.out ?_ ?_ ?_); (· rfl); (· rfl); (· rfl); (· rfl); (· exact be_len _ _); (· rfl); (· omega); (· exact lz4); rintro A5 c5 w5 o5 b5; refine Marker.mk ?_)
  refine Marker.in ?_
  have O5 := Lib.hid o5
  replace K1 := Lib.hid (blk_under K1.out b5 (by omega))
  replace BB := Lib.hid (BB.out.trans (b5.mono lw))
  have lz5 : base ≤ w5.heap.size := Nat.le_trans lz4 b5.size
  clear o5 b5 R4 OK lz4
  have c0 : w5.cell? ⟨w.heap.size, 0, none⟩ = some (.int .i64 7) := (K1.out.cell 0).trans rfl
  have c4w5 : w5.cell? ⟨w.heap.size, 4, none⟩ = some (.int .i64 e) := (K1.out.cell 4).trans rfl
  go_wp2_with fail
  ((with_reducible refine (CPe.out _).mono ?_))
  rintro e' w6 ⟨g6, rfl, k6, b6⟩
  have R6 := Lib.hid (u8V_row k6 (be_bytes e 2))
  replace BB := Lib.hid (bt BB.out b6)
  replace O5 := Lib.hid (own_below O5.out b6)
  have lz6 : base ≤ w6.heap.size := Nat.le_trans lz5 b6.size
  have LH : Hid (([7] ++ be s 4).length = 5) := Lib.hid (by simp [be_len])
  clear b6 k6 CPe
  go_wp2_with ((with_reducible show wpList _ _ _ (⟨some 68, _, _, _, _, _⟩ :: _) _ _); (with_reducible refine wpList_append_bytes _ ?_ (.tmp 64) (.tmp 67) ?_ base A5 c5 5 ([7] ++ be s 4) ?_ ?_ O5.out (some ⟨g6, 0, none⟩) 2 2 (be e 2) ?_ ?_ R6.out ?_ ?_ ?_); (· rfl); (· rfl); (· exact LH.out); (· rfl); (· exact be_len _ _); (· rfl); (· omega); (· exact lz6); rintro A7 c7 w7 o7 b7; refine Marker.mk ?_)
  refine Marker.in ?_
  have O7 := Lib.hid o7
  replace BB := Lib.hid (BB.out.trans (b7.mono lw))
  clear o7 b7 R6 O5
  go_wp2_with fail
  go_ret2
  exact rputP_some HP.out (by simp [be_len]) rfl O7.out BB.out
set_option maxRecDepth 100000 in
set_option maxHeartbeats 1600000 in
theorem rput_8 (s : Int) (hs : 0 ≤ s ∧ s ≤ 4294967295) (w : World) :
    Calls Tryd.prog 25 #[.agg #[.int .i64 8, .int .i64 s, .int .i64 0, .int .i64 0, .int .i64 0, .int .i64 0, .int .i64 0, .bool false, .int .i64 0, .int .i64 0, .int .i64 0, .int .i64 0]] w (RPutP [8, s, 0, 0, 0, 0, 0, 0, 0, 0, 0, 0] w) := by
  have hp := put8_lit8 s hs
  have HP := Lib.hid hp
  have hl : IsMsgL [8, s, 0, 0, 0, 0, 0, 0, 0, 0, 0, 0] := ⟨rfl, .inl rfl⟩
  have NQ0 := fun W => neq_msg [8, s, 0, 0, 0, 0, 0, 0, 0, 0, 0, 0] [8, s, 0, 0, 0, 0, 0, 0, 0, 0, 0, 0] hl hl W
  rw [decide_eq_true rfl] at NQ0
  have NQ : ∀ W, (binOp .neq 66 (.agg #[.int .i64 8, .int .i64 s, .int .i64 0, .int .i64 0, .int .i64 0, .int .i64 0, .int .i64 0, .bool false, .int .i64 0, .int .i64 0, .int .i64 0, .int .i64 0]) (.agg #[.int .i64 8, .int .i64 s, .int .i64 0, .int .i64 0, .int .i64 0, .int .i64 0, .int .i64 0, .bool false, .int .i64 0, .int .i64 0, .int .i64 0, .int .i64 0])).run Tryd.prog W = .ok (.bool false) W := NQ0
  have HF : fitsB 8 s 0 0 0 0 0 0 0 0 0 = true := by
    rw [fitsB_iff]
    simp only [if_true, show ¬ (8 : Int) = 11 from by decide, if_false]
    omega
  have CN : Hid (∀ W, Calls Tryd.prog 45 #[.agg #[.int .i64 8, .int .i64 s, .int .i64 0, .int .i64 0, .int .i64 0, .int .i64 0, .int .i64 0, .bool false, .int .i64 0, .int .i64 0, .int .i64 0, .int .i64 0]] W fun e' w' => e' = .returned (.agg #[.int .i64 8, .int .i64 s, .int .i64 0, .int .i64 0, .int .i64 0, .int .i64 0, .int .i64 0, .bool false, .int .i64 0, .int .i64 0, .int .i64 0, .int .i64 0]) ∧ Below W.heap.size W w') := Lib.hid fun W => named_8 s 0 0 0 0 0 0 0 0 0 0 W
  have CPs := Lib.hid (fun W => ref08_4 s hs.1 hs.2 W)
  clear hp hl NQ0 hs
  go_enter Tryd.func25, Tryd.ntmps25
  go_wp2_with fail
  have K1 := Lib.hid (Blk.new w #[.int .i64 8, .int .i64 s, .int .i64 0, .int .i64 0, .int .i64 0, .int .i64 0, .int .i64 0, .bool false, .int .i64 0, .int .i64 0, .int .i64 0, .int .i64 0] 66)
  have BB := Lib.hid (below_alloc1 w (.cells #[.int .i64 8, .int .i64 s, .int .i64 0, .int .i64 0, .int .i64 0, .int .i64 0, .int .i64 0, .bool false, .int .i64 0, .int .i64 0, .int .i64 0, .int .i64 0] 66))
  generalize w.alloc (.cells #[.int .i64 8, .int .i64 s, .int .i64 0, .int .i64 0, .int .i64 0, .int .i64 0, .int .i64 0, .bool false, .int .i64 0, .int .i64 0, .int .i64 0, .int .i64 0] 66) = w0 at *
  ((with_reducible refine (fits_any _ _ _ _ _ _ _ _ _ _ _ _ _).mono ?_))
  rintro e' w1 ⟨rfl, b1⟩
  rw [HF]
  replace K1 := Lib.hid (K1.out.below b1)
  replace BB := Lib.hid (bt BB.out b1)
  clear b1 HF
  go_wp2_with fail
  refine wp_region_ext (by kernel_rfl) (by kernel_rfl) ?_
  repeat (first
        | go_big_quiet_skip
        | (go_big_quiet_want
           first
             | (refine quiet_load_blk (T := 66) (g := w.heap.size) agg_msg _ rfl rfl K1 ?_ ?_; (· rfl); go_simp; go_big_quiet_on)
             | (go_big_quiet_op
                first
                  | go_big_quiet_on
                  | go_big_quiet_call (((with_reducible refine ext_of (CN.out _)))))))
  refine wpQuiet_nil ?_
  intro _ hw'
  obtain ⟨y9, rfl⟩ := hw'
  replace K1 := Lib.hid (K1.out.below (exw_bel y9))
  replace BB := Lib.hid (bt BB.out (exw_bel y9))
  generalize exw w1 y9 = w2 at *
  clear NQ CN
  have c0 : w2.cell? ⟨w.heap.size, 0, none⟩ = some (.int .i64 8) := (K1.out.cell 0).trans rfl
  have c1w2 : w2.cell? ⟨w.heap.size, 1, none⟩ = some (.int .i64 s) := (K1.out.cell 1).trans rfl
  have lw0 := K1.out.lt
  go_wp2_with ((with_reducible show wpList _ _ _ (⟨some 40, _, _, _, _, _⟩ :: _) _ _); refine Marker.mk ?_)
  refine Marker.in ?_
  have OK := Lib.hid (own_one w2 8 (by omega) (by omega))
  have B3 := below_alloc1 w2 (.cells #[.int .u8 8] 5)
  replace K1 := Lib.hid (K1.out.below B3)
  replace BB := Lib.hid (bt BB.out B3)
  have l2 := lw0
  have lz := B3.size
  have lw : w.heap.size ≤ w2.heap.size := by omega
  generalize w2.alloc (.cells #[.int .u8 8] 5) = w3 at *
  generalize hb2 : w2.heap.size = base at *
  clear B3 hb2 c0 lw0 c1w2
  have c1w3 : w3.cell? ⟨w.heap.size, 1, none⟩ = some (.int .i64 s) := (K1.out.cell 1).trans rfl
  go_wp2_with fail
  ((with_reducible refine (CPs.out _).mono ?_))
  rintro e' w4 ⟨g4, rfl, k4, b4⟩
  have R4 := Lib.hid (u8V_row k4 (be_bytes s 4))
  replace K1 := Lib.hid (K1.out.below b4)
  replace BB := Lib.hid (bt BB.out b4)
  replace OK := Lib.hid (own_below OK.out b4)
  have lz4 : base ≤ w4.heap.size := Nat.le_trans lz b4.size
  clear b4 k4 CPs c1w3
  go_wp2_with ((with_reducible show wpList _ _ _ (⟨some 41, _, _, _, _, _⟩ :: _) _ _); (with_reducible refine wpList_append_bytes _ ?_ (.tmp 37) (.tmp 40) ?_ base (some ⟨base, 0, none⟩) 1 1 [8] ?_ ?_ OK.out (some ⟨g4, 0, none⟩) 4 4 (be s 4) ?_ ?_ R4.out ?_ ?_ ?_); (· rfl); (· rfl); (· rfl); (· rfl); (· exact be_len _ _); (· rfl); (· omega); (· exact lz4); rintro A5 c5 w5 o5 b5; refine Marker.mk ?_)
  refine Marker.in ?_
  have O5 := Lib.hid o5
  replace K1 := Lib.hid (blk_under K1.out b5 (by omega))
  replace BB := Lib.hid (BB.out.trans (b5.mono lw))
  have lz5 : base ≤ w5.heap.size := Nat.le_trans lz4 b5.size
  clear o5 b5 R4 OK lz4
  have c0 : w5.cell? ⟨w.heap.size, 0, none⟩ = some (.int .i64 8) := (K1.out.cell 0).trans rfl
  go_wp2_with fail
  go_ret2
  exact rputP_some HP.out (by simp [be_len]) rfl O5.out BB.out
set_option maxRecDepth 100000 in
set_option maxHeartbeats 1600000 in
theorem rput_9 (s : Int) (hs : 0 ≤ s ∧ s ≤ 4294967295) (w : World) :
    Calls Tryd.prog 25 #[.agg #[.int .i64 9, .int .i64 s, .int .i64 0, .int .i64 0, .int .i64 0, .int .i64 0, .int .i64 0, .bool false, .int .i64 0, .int .i64 0, .int .i64 0, .int .i64 0]] w (RPutP [9, s, 0, 0, 0, 0, 0, 0, 0, 0, 0, 0] w) := by
  have hp := put8_lit9 s hs
  have HP := Lib.hid hp
  have hl : IsMsgL [9, s, 0, 0, 0, 0, 0, 0, 0, 0, 0, 0] := ⟨rfl, .inl rfl⟩
  have NQ0 := fun W => neq_msg [9, s, 0, 0, 0, 0, 0, 0, 0, 0, 0, 0] [9, s, 0, 0, 0, 0, 0, 0, 0, 0, 0, 0] hl hl W
  rw [decide_eq_true rfl] at NQ0
  have NQ : ∀ W, (binOp .neq 66 (.agg #[.int .i64 9, .int .i64 s, .int .i64 0, .int .i64 0, .int .i64 0, .int .i64 0, .int .i64 0, .bool false, .int .i64 0, .int .i64 0, .int .i64 0, .int .i64 0]) (.agg #[.int .i64 9, .int .i64 s, .int .i64 0, .int .i64 0, .int .i64 0, .int .i64 0, .int .i64 0, .bool false, .int .i64 0, .int .i64 0, .int .i64 0, .int .i64 0])).run Tryd.prog W = .ok (.bool false) W := NQ0
  have HF : fitsB 9 s 0 0 0 0 0 0 0 0 0 = true := by
    rw [fitsB_iff]
    simp only [if_true, show ¬ (9 : Int) = 11 from by decide, if_false]
    omega
  have CN : Hid (∀ W, Calls Tryd.prog 45 #[.agg #[.int .i64 9, .int .i64 s, .int .i64 0, .int .i64 0, .int .i64 0, .int .i64 0, .int .i64 0, .bool false, .int .i64 0, .int .i64 0, .int .i64 0, .int .i64 0]] W fun e' w' => e' = .returned (.agg #[.int .i64 9, .int .i64 s, .int .i64 0, .int .i64 0, .int .i64 0, .int .i64 0, .int .i64 0, .bool false, .int .i64 0, .int .i64 0, .int .i64 0, .int .i64 0]) ∧ Below W.heap.size W w') := Lib.hid fun W => named_9 s 0 0 0 0 0 0 0 0 0 0 W
  have CPs := Lib.hid (fun W => ref08_4 s hs.1 hs.2 W)
  clear hp hl NQ0 hs
  go_enter Tryd.func25, Tryd.ntmps25
  go_wp2_with fail
  have K1 := Lib.hid (Blk.new w #[.int .i64 9, .int .i64 s, .int .i64 0, .int .i64 0, .int .i64 0, .int .i64 0, .int .i64 0, .bool false, .int .i64 0, .int .i64 0, .int .i64 0, .int .i64 0] 66)
  have BB := Lib.hid (below_alloc1 w (.cells #[.int .i64 9, .int .i64 s, .int .i64 0, .int .i64 0, .int .i64 0, .int .i64 0, .int .i64 0, .bool false, .int .i64 0, .int .i64 0, .int .i64 0, .int .i64 0] 66))
  generalize w.alloc (.cells #[.int .i64 9, .int .i64 s, .int .i64 0, .int .i64 0, .int .i64 0, .int .i64 0, .int .i64 0, .bool false, .int .i64 0, .int .i64 0, .int .i64 0, .int .i64 0] 66) = w0 at *
  ((with_reducible refine (fits_any _ _ _ _ _ _ _ _ _ _ _ _ _).mono ?_))
  rintro e' w1 ⟨rfl, b1⟩
  rw [HF]
  replace K1 := Lib.hid (K1.out.below b1)
  replace BB := Lib.hid (bt BB.out b1)
  clear b1 HF
  go_wp2_with fail
  refine wp_region_ext (by kernel_rfl) (by kernel_rfl) ?_
  repeat (first
        | go_big_quiet_skip
        | (go_big_quiet_want
           first
             | (refine quiet_load_blk (T := 66) (g := w.heap.size) agg_msg _ rfl rfl K1 ?_ ?_; (· rfl); go_simp; go_big_quiet_on)
             | (go_big_quiet_op
                first
                  | go_big_quiet_on
                  | go_big_quiet_call (((with_reducible refine ext_of (CN.out _)))))))
  refine wpQuiet_nil ?_
  intro _ hw'
  obtain ⟨y9, rfl⟩ := hw'
  replace K1 := Lib.hid (K1.out.below (exw_bel y9))
  replace BB := Lib.hid (bt BB.out (exw_bel y9))
  generalize exw w1 y9 = w2 at *
  clear NQ CN
  have c0 : w2.cell? ⟨w.heap.size, 0, none⟩ = some (.int .i64 9) := (K1.out.cell 0).trans rfl
  have c1w2 : w2.cell? ⟨w.heap.size, 1, none⟩ = some (.int .i64 s) := (K1.out.cell 1).trans rfl
  have lw0 := K1.out.lt
  go_wp2_with ((with_reducible show wpList _ _ _ (⟨some 40, _, _, _, _, _⟩ :: _) _ _); refine Marker.mk ?_)
  refine Marker.in ?_
  have OK := Lib.hid (own_one w2 9 (by omega) (by omega))
  have B3 := below_alloc1 w2 (.cells #[.int .u8 9] 5)
  replace K1 := Lib.hid (K1.out.below B3)
  replace BB := Lib.hid (bt BB.out B3)
  have l2 := lw0
  have lz := B3.size
  have lw : w.heap.size ≤ w2.heap.size := by omega
  generalize w2.alloc (.cells #[.int .u8 9] 5) = w3 at *
  generalize hb2 : w2.heap.size = base at *
  clear B3 hb2 c0 lw0 c1w2
  have c1w3 : w3.cell? ⟨w.heap.size, 1, none⟩ = some (.int .i64 s) := (K1.out.cell 1).trans rfl
  go_wp2_with fail
  ((with_reducible refine (CPs.out _).mono ?_))
  rintro e' w4 ⟨g4, rfl, k4, b4⟩
  have R4 := Lib.hid (u8V_row k4 (be_bytes s 4))
  replace K1 := Lib.hid (K1.out.below b4)
  replace BB := Lib.hid (bt BB.out b4)
  replace OK := Lib.hid (own_below OK.out b4)
  have lz4 : base ≤ w4.heap.size := Nat.le_trans lz b4.size
  clear b4 k4 CPs c1w3
  go_wp2_with ((with_reducible show wpList _ _ _ (⟨some 41, _, _, _, _, _⟩ :: _) _ _); (with_reducible refine wpList_append_bytes _ ?_ (.tmp 37) (.tmp 40) ?_ base (some ⟨base, 0, none⟩) 1 1 [9] ?_ ?_ OK.out (some ⟨g4, 0, none⟩) 4 4 (be s 4) ?_ ?_ R4.out ?_ ?_ ?_); (· rfl); (· rfl); (· rfl); (· rfl); (· exact be_len _ _); (· rfl); (· omega); (· exact lz4); rintro A5 c5 w5 o5 b5; refine Marker.mk ?_)
  refine Marker.in ?_
  have O5 := Lib.hid o5
  replace K1 := Lib.hid (blk_under K1.out b5 (by omega))
  replace BB := Lib.hid (BB.out.trans (b5.mono lw))
  have lz5 : base ≤ w5.heap.size := Nat.le_trans lz4 b5.size
  clear o5 b5 R4 OK lz4
  have c0 : w5.cell? ⟨w.heap.size, 0, none⟩ = some (.int .i64 9) := (K1.out.cell 0).trans rfl
  go_wp2_with fail
  go_ret2
  exact rputP_some HP.out (by simp [be_len]) rfl O5.out BB.out
def RQ10 (g base : Nat) (A5 : Option Addr) (c5 : Nat) (s e m : Int) (i : Nat) (v : Value) (w : World) : Prop := match i with
  | 0 => v = .slice A5 5 c5 ∧ Own w base A5 c5 ([10] ++ be s 4)
  | 1 => v = .pointer (some ⟨g, 4, none⟩)
  | 2 => v = .int .i64 e
  | 3 => ∃ g, v = .slice (some ⟨g, 0, none⟩) 2 2 ∧ Blk w g (u8V (be e 2)) 5
  | 4 => ∃ A cp, v = .slice A 7 cp ∧ Own w base A cp (([10] ++ be s 4) ++ be e 2)
  | 5 => v = .pointer (some ⟨g, 5, none⟩)
  | 6 => v = .int .i64 m
  | 7 => v = .int .u8 m
  | 8 => ∃ g, v = .slice (some ⟨g, 0, none⟩) 1 1 ∧ Blk w g (u8V [m]) 5
  | 9 => ∃ A cp, v = .slice A 8 cp ∧ Own w base A cp (([10] ++ be s 4) ++ be e 2 ++ [m])
  | 10 => ∃ A cp, v = .slice A 8 cp ∧ Own w base A cp (([10] ++ be s 4) ++ be e 2 ++ [m])
  | _ => v = .int .i64 0
theorem RQ10_keep (g base : Nat) (A5 : Option Addr) (c5 : Nat) (s e m : Int) : ∀ i v w w', i < 12 → RQ10 g base A5 c5 s e m i v w → GrowR base 5 5 ((be e 2 ++ [m]).map (Value.int .u8)) w w' → RQ10 g base A5 c5 s e m i v w' := by
  intro i v w w' hi h hb
  unfold RQ10 at *
  split at h
  case h_1 => exact ⟨h.1, growR_ownP hb h.2 (.inl (by simp [be_len]))⟩
  case h_4 => obtain ⟨g, e, k⟩ := h; exact ⟨g, e, growR_small hb k (by simp [u8V_size, be_len])⟩
  case h_5 => obtain ⟨A, cp, e1, o⟩ := h; exact ⟨A, cp, e1, growR_ownP hb o (.inr ⟨([10] ++ be s 4), be e 2, [m], by simp [be_len], rfl, rfl⟩)⟩
  case h_9 => obtain ⟨g, e, k⟩ := h; exact ⟨g, e, growR_small hb k (by simp [u8V_size])⟩
  case h_10 | h_11 => obtain ⟨A, cp, e1, o⟩ := h; exact ⟨A, cp, e1, growR_ownP hb o (.inr ⟨([10] ++ be s 4), be e 2 ++ [m], [], by simp [be_len], by simp, by simp⟩)⟩
  all_goals exact h
set_option maxRecDepth 100000 in
set_option maxHeartbeats 1600000 in
theorem rput_10 (s e m : Int) (hs : 0 ≤ s ∧ s ≤ 4294967295) (he : 0 ≤ e ∧ e ≤ 65535) (hm : 0 ≤ m ∧ m ≤ 4) (w : World) :
    Calls Tryd.prog 25 #[.agg #[.int .i64 10, .int .i64 s, .int .i64 0, .int .i64 0, .int .i64 e, .int .i64 m, .int .i64 0, .bool false, .int .i64 0, .int .i64 0, .int .i64 0, .int .i64 0]] w (RPutP [10, s, 0, 0, e, m, 0, 0, 0, 0, 0, 0] w) := by
  have hp := put8_lit10 s e m hs he hm
  have HP := Lib.hid hp
  have hl : IsMsgL [10, s, 0, 0, e, m, 0, 0, 0, 0, 0, 0] := ⟨rfl, .inl rfl⟩
  have NQ0 := fun W => neq_msg [10, s, 0, 0, e, m, 0, 0, 0, 0, 0, 0] [10, s, 0, 0, e, m, 0, 0, 0, 0, 0, 0] hl hl W
  rw [decide_eq_true rfl] at NQ0
  have NQ : ∀ W, (binOp .neq 66 (.agg #[.int .i64 10, .int .i64 s, .int .i64 0, .int .i64 0, .int .i64 e, .int .i64 m, .int .i64 0, .bool false, .int .i64 0, .int .i64 0, .int .i64 0, .int .i64 0]) (.agg #[.int .i64 10, .int .i64 s, .int .i64 0, .int .i64 0, .int .i64 e, .int .i64 m, .int .i64 0, .bool false, .int .i64 0, .int .i64 0, .int .i64 0, .int .i64 0])).run Tryd.prog W = .ok (.bool false) W := NQ0
  have HF : fitsB 10 s 0 0 e m 0 0 0 0 0 = true := by
    rw [fitsB_iff]
    simp only [if_true, show ¬ (10 : Int) = 11 from by decide, if_false]
    omega
  have CN : Hid (∀ W, Calls Tryd.prog 45 #[.agg #[.int .i64 10, .int .i64 s, .int .i64 0, .int .i64 0, .int .i64 e, .int .i64 m, .int .i64 0, .bool false, .int .i64 0, .int .i64 0, .int .i64 0, .int .i64 0]] W fun e' w' => e' = .returned (.agg #[.int .i64 10, .int .i64 s, .int .i64 0, .int .i64 0, .int .i64 e, .int .i64 m, .int .i64 0, .bool false, .int .i64 0, .int .i64 0, .int .i64 0, .int .i64 0]) ∧ Below W.heap.size W w') := Lib.hid fun W => named_10 s 0 0 e m 0 0 0 0 0 0 W
  have CPs := Lib.hid (fun W => ref08_4 s hs.1 hs.2 W)
  have CPe := Lib.hid (fun W => ref08_2 e he.1 he.2 W)
  have qm0 : (0 : Int) ≤ m := by omega
  have qm1 : m ≤ 255 := by omega
  clear hp hl NQ0 hs he hm
  go_enter Tryd.func25, Tryd.ntmps25
  go_wp2_with fail
  have K1 := Lib.hid (Blk.new w #[.int .i64 10, .int .i64 s, .int .i64 0, .int .i64 0, .int .i64 e, .int .i64 m, .int .i64 0, .bool false, .int .i64 0, .int .i64 0, .int .i64 0, .int .i64 0] 66)
  have BB := Lib.hid (below_alloc1 w (.cells #[.int .i64 10, .int .i64 s, .int .i64 0, .int .i64 0, .int .i64 e, .int .i64 m, .int .i64 0, .bool false, .int .i64 0, .int .i64 0, .int .i64 0, .int .i64 0] 66))
  generalize w.alloc (.cells #[.int .i64 10, .int .i64 s, .int .i64 0, .int .i64 0, .int .i64 e, .int .i64 m, .int .i64 0, .bool false, .int .i64 0, .int .i64 0, .int .i64 0, .int .i64 0] 66) = w0 at *
  ((with_reducible refine (fits_any _ _ _ _ _ _ _ _ _ _ _ _ _).mono ?_))
  rintro e' w1 ⟨rfl, b1⟩
  rw [HF]
  replace K1 := Lib.hid (K1.out.below b1)
  replace BB := Lib.hid (bt BB.out b1)
  clear b1 HF
  go_wp2_with fail
  refine wp_region_ext (by kernel_rfl) (by kernel_rfl) ?_
  repeat (first
        | go_big_quiet_skip
        | (go_big_quiet_want
           first
             | (refine quiet_load_blk (T := 66) (g := w.heap.size) agg_msg _ rfl rfl K1 ?_ ?_; (· rfl); go_simp; go_big_quiet_on)
             | (go_big_quiet_op
                first
                  | go_big_quiet_on
                  | go_big_quiet_call (((with_reducible refine ext_of (CN.out _)))))))
  refine wpQuiet_nil ?_
  intro _ hw'
  obtain ⟨y9, rfl⟩ := hw'
  replace K1 := Lib.hid (K1.out.below (exw_bel y9))
  replace BB := Lib.hid (bt BB.out (exw_bel y9))
  generalize exw w1 y9 = w2 at *
  clear NQ CN
  have c0 : w2.cell? ⟨w.heap.size, 0, none⟩ = some (.int .i64 10) := (K1.out.cell 0).trans rfl
  have c1w2 : w2.cell? ⟨w.heap.size, 1, none⟩ = some (.int .i64 s) := (K1.out.cell 1).trans rfl
  have c4w2 : w2.cell? ⟨w.heap.size, 4, none⟩ = some (.int .i64 e) := (K1.out.cell 4).trans rfl
  have c5w2 : w2.cell? ⟨w.heap.size, 5, none⟩ = some (.int .i64 m) := (K1.out.cell 5).trans rfl
  have lw0 := K1.out.lt
  go_wp2_with ((with_reducible show wpList _ _ _ (⟨some 40, _, _, _, _, _⟩ :: _) _ _); refine Marker.mk ?_)
  refine Marker.in ?_
  have OK := Lib.hid (own_one w2 10 (by omega) (by omega))
  have B3 := below_alloc1 w2 (.cells #[.int .u8 10] 5)
  replace K1 := Lib.hid (K1.out.below B3)
  replace BB := Lib.hid (bt BB.out B3)
  have l2 := lw0
  have lz := B3.size
  have lw : w.heap.size ≤ w2.heap.size := by omega
  generalize w2.alloc (.cells #[.int .u8 10] 5) = w3 at *
  generalize hb2 : w2.heap.size = base at *
  clear B3 hb2 c0 lw0 c1w2 c4w2 c5w2
  have c1w3 : w3.cell? ⟨w.heap.size, 1, none⟩ = some (.int .i64 s) := (K1.out.cell 1).trans rfl
  go_wp2_with fail
  ((with_reducible refine (CPs.out _).mono ?_))
  rintro e' w4 ⟨g4, rfl, k4, b4⟩
  have R4 := Lib.hid (u8V_row k4 (be_bytes s 4))
  replace K1 := Lib.hid (K1.out.below b4)
  replace BB := Lib.hid (bt BB.out b4)
  replace OK := Lib.hid (own_below OK.out b4)
  have lz4 : base ≤ w4.heap.size := Nat.le_trans lz b4.size
  clear b4 k4 CPs c1w3
  go_wp2_with ((with_reducible show wpList _ _ _ (⟨some 41, _, _, _, _, _⟩ :: _) _ _); (with_reducible refine wpList_append_bytes _ ?_ (.tmp 37) (.tmp 40) ?_ base (some ⟨base, 0, none⟩) 1 1 [10] ?_ ?_ OK.out (some ⟨g4, 0, none⟩) 4 4 (be s 4) ?_ ?_ R4.out ?_ ?_ ?_); (· rfl); (· rfl); (· rfl); (· rfl); (· exact be_len _ _); (· rfl); (· omega); (· exact lz4); rintro A5 c5 w5 o5 b5; refine Marker.mk ?_)
  refine Marker.in ?_
  have O5 := Lib.hid o5
  replace K1 := Lib.hid (blk_under K1.out b5 (by omega))
  replace BB := Lib.hid (BB.out.trans (b5.mono lw))
  have lz5 : base ≤ w5.heap.size := Nat.le_trans lz4 b5.size
  clear o5 b5 R4 OK lz4
  have c0 : w5.cell? ⟨w.heap.size, 0, none⟩ = some (.int .i64 10) := (K1.out.cell 0).trans rfl
  have c4w5 : w5.cell? ⟨w.heap.size, 4, none⟩ = some (.int .i64 e) := (K1.out.cell 4).trans rfl
  have c5w5 : w5.cell? ⟨w.heap.size, 5, none⟩ = some (.int .i64 m) := (K1.out.cell 5).trans rfl
  have LH : Hid (([10] ++ be s 4).length = 5) := Lib.hid (by simp [be_len])
  have LH2 : Hid ((([10] ++ be s 4) ++ be e 2).length = 7) := Lib.hid (by simp [be_len])
  have hz8 : IntKind.u8.wrap m = m := by simp [IntKind.wrap, IntKind.bits, IntKind.signed]; omega
  go_wp2_with fail
  clear c0 c4w5 c5w5
  refine wp_region_confR' (growR_kept (b0 := base) (T := 5) (N := 5) (ys := (be e 2 ++ [m]).map (Value.int .u8))) (by kernel_rfl) 12 (by kernel_rfl) (by simp) (by decide) (RQ10 w.heap.size base A5 c5 s e m) (RQ10_keep _ _ _ _ _ _ _) ?_ ?_
  · simp only [ConfStepsR, List.take_succ_cons, List.take_zero, putAll, Act.put, List.setIfInBounds_toArray, List.set_cons_succ, List.set_cons_zero, and_true]
    refine ⟨?_, ?_, ?_, ?_, ?_, ?_, ?_, ?_, ?_, ?_, ?_, ?_⟩
    all_goals intro v w' hb hd
    · exact conf_valueR growR_kept (wanted0 rfl) (by simp [go_sem]) ⟨rfl, growR_ownP hb O5.out (.inl (by simp [be_len]))⟩
    · exact conf_valueR growR_kept (wanted0 rfl) (by simp [go_sem]) rfl
    · have d1 : v 1 = .pointer (some ⟨w.heap.size, 4, none⟩) := hd.at 1 rfl
      have cc : w'.cell? ⟨w.heap.size, 4, none⟩ = some (.int .i64 e) := (Blk.cell (growR_blk hb K1.out (by decide)) 4).trans rfl
      exact conf_valueR growR_kept (wanted0 rfl) (by simp [go_sem, d1, cc]) rfl
    · have d2 : v 2 = .int .i64 e := hd.at 2 rfl
      refine conf_callR (f := 46) (args := #[v 2, .int .i64 2]) (wanted0 rfl) (by simp [go_sem]) ?_
      rw [d2]
      exact (CPe.out w').mono fun e' w'' ⟨g6, he, k6, b6⟩ => ⟨_, he, growR_below b6, g6, rfl, k6⟩
    · obtain ⟨d0, o5⟩ : v 0 = .slice A5 5 c5 ∧ Own w' base A5 c5 ([10] ++ be s 4) := hd.at 0 rfl
      obtain ⟨g6, d3, k6⟩ : ∃ g, v 3 = .slice (some ⟨g, 0, none⟩) 2 2 ∧ Blk w' g (u8V (be e 2)) 5 := hd.at 3 rfl
      obtain ⟨A', cp', w2', hrun, hown, hrel⟩ := run_append_bytesR w' base base A5 c5 ([10] ++ be s 4) o5 (some ⟨g6, 0, none⟩) 2 (be e 2) (u8V_row k6 (be_bytes e 2)) (by rw [be_len]; omega) (by simp [be_len]) (Nat.le_trans lz5 hb.1) (Nat.le_refl _) 23
      rw [LH.out] at hrun hrel
      rw [be_len] at hrun
      refine conf_makeR (wanted0 rfl) (run_op_append rfl (by simp [go_sem, d0]) (by simp [go_sem, d3]) hrun) ?_ ⟨A', cp', rfl, hown⟩
      rw [List.map_append]
      exact growR_more hrel _
    · exact conf_valueR growR_kept (wanted0 rfl) (by simp [go_sem]) rfl
    · have d5 : v 5 = .pointer (some ⟨w.heap.size, 5, none⟩) := hd.at 5 rfl
      have cc : w'.cell? ⟨w.heap.size, 5, none⟩ = some (.int .i64 m) := (Blk.cell (growR_blk hb K1.out (by decide)) 5).trans rfl
      exact conf_valueR growR_kept (wanted0 rfl) (by simp [go_sem, d5, cc]) rfl
    · have d6 : v 6 = .int .i64 m := hd.at 6 rfl
      exact conf_valueR growR_kept (wanted0 rfl) (by simp [go_sem, d6, hz8]) rfl
    · have d7 : v 7 = .int .u8 m := hd.at 7 rfl
      refine conf_makeR (w' := w'.alloc (.cells (u8V [m]) 5)) (v := .slice (some ⟨w'.heap.size, 0, none⟩) 1 1) (wanted0 rfl) (by simp [go_sem, d7, u8V]) (growR_below (below_alloc1 w' _)) ⟨w'.heap.size, rfl, Blk.new _ _ _⟩
    · obtain ⟨A7, c7, d4, o7⟩ : ∃ A cp, v 4 = .slice A 7 cp ∧ Own w' base A cp (([10] ++ be s 4) ++ be e 2) := hd.at 4 rfl
      obtain ⟨g8, d8, k8⟩ : ∃ g, v 8 = .slice (some ⟨g, 0, none⟩) 1 1 ∧ Blk w' g (u8V [m]) 5 := hd.at 8 rfl
      obtain ⟨A', cp', w2', hrun, hown, hrel⟩ := run_append_bytesR w' base base A7 c7 (([10] ++ be s 4) ++ be e 2) o7 (some ⟨g8, 0, none⟩) 1 [m] (u8V_row k8 (fun x hx => by simp at hx; omega)) (by simp) (by simp [be_len]) (Nat.le_trans lz5 hb.1) (Nat.le_refl _) 23
      rw [LH2.out] at hrun hrel
      refine conf_makeR (wanted0 rfl) (run_op_append rfl (by simp [go_sem, d4]) (by simp [go_sem, d8]) hrun) ?_ ⟨A', cp', rfl, hown⟩
      rw [List.map_append]
      exact growR_shift ((be e 2).map (Value.int .u8)) (by rw [List.length_map, be_len]; exact hrel)
    · obtain ⟨A8, c8, d9, o8⟩ : ∃ A cp, v 9 = .slice A 8 cp ∧ Own w' base A cp (([10] ++ be s 4) ++ be e 2 ++ [m]) := hd.at 9 rfl
      exact conf_valueR growR_kept (wanted0 rfl) (by simp [go_sem, d9]) ⟨A8, c8, rfl, o8⟩
    · exact conf_valueR growR_kept (wanted0 rfl) (by simp [go_sem]) rfl
  · intro v w' hb hr
    obtain ⟨A8, c8, e8, o8⟩ : ∃ A cp, v 10 = .slice A 8 cp ∧ Own w' base A cp (([10] ++ be s 4) ++ be e 2 ++ [m])   := hr 10 (by omega)
    have e11 : v 11 = .int .i64 0 := hr 11 (by omega)
    simp only [List.take_succ_cons, List.take_zero, List.drop_succ_cons, List.drop_zero, putAll, Act.put, List.setIfInBounds_toArray, List.set_cons_succ, List.set_cons_zero]
    rw [e8, e11]
    have O8 := Lib.hid o8
    replace BB := Lib.hid (BB.out.trans ((hb.2.1 lz5).mono lw))
    clear hr hb o8 e8 e11
    go_wp2_with fail
    go_ret2
    exact rputP_some HP.out (by simp [be_len]) rfl O8.out BB.out
def RQ11 (g base : Nat) (A5 : Option Addr) (c5 : Nat) (s e c : Int) (i : Nat) (v : Value) (w : World) : Prop := match i with
  | 0 => v = .slice A5 5 c5 ∧ Own w base A5 c5 ([11] ++ be s 4)
  | 1 => v = .pointer (some ⟨g, 4, none⟩)
  | 2 => v = .int .i64 e
  | 3 => ∃ g, v = .slice (some ⟨g, 0, none⟩) 2 2 ∧ Blk w g (u8V (be e 2)) 5
  | 4 => ∃ A cp, v = .slice A 7 cp ∧ Own w base A cp (([11] ++ be s 4) ++ be e 2)
  | 5 => v = .pointer (some ⟨g, 6, none⟩)
  | 6 => v = .int .i64 c
  | 7 => v = .int .u8 c
  | 8 => ∃ g, v = .slice (some ⟨g, 0, none⟩) 1 1 ∧ Blk w g (u8V [c]) 5
  | _ => ∃ A cp, v = .slice A 8 cp ∧ Own w base A cp (([11] ++ be s 4) ++ be e 2 ++ [c])
theorem RQ11_keep (g base : Nat) (A5 : Option Addr) (c5 : Nat) (s e c : Int) : ∀ i v w w', i < 10 → RQ11 g base A5 c5 s e c i v w → GrowR base 5 5 ((be e 2 ++ [c]).map (Value.int .u8)) w w' → RQ11 g base A5 c5 s e c i v w' := by
  intro i v w w' hi h hb
  unfold RQ11 at *
  split at h
  case h_1 => exact ⟨h.1, growR_ownP hb h.2 (.inl (by simp [be_len]))⟩
  case h_4 => obtain ⟨g, e, k⟩ := h; exact ⟨g, e, growR_small hb k (by simp [u8V_size, be_len])⟩
  case h_5 => obtain ⟨A, cp, e1, o⟩ := h; exact ⟨A, cp, e1, growR_ownP hb o (.inr ⟨([11] ++ be s 4), be e 2, [c], by simp [be_len], rfl, rfl⟩)⟩
  case h_9 => obtain ⟨g, e, k⟩ := h; exact ⟨g, e, growR_small hb k (by simp [u8V_size])⟩
  case h_10 => obtain ⟨A, cp, e1, o⟩ := h; exact ⟨A, cp, e1, growR_ownP hb o (.inr ⟨([11] ++ be s 4), be e 2 ++ [c], [], by simp [be_len], by simp, by simp⟩)⟩
  all_goals exact h
set_option maxRecDepth 100000 in
set_option maxHeartbeats 1600000 in
theorem rput_11 (s e c x0 x1 x2 x3 : Int) (hs : 0 ≤ s ∧ s ≤ 4294967295) (he : 0 ≤ e ∧ e ≤ 65535) (hc : 1 ≤ c ∧ c ≤ 3) (hx0 : -32768 ≤ x0 ∧ x0 ≤ 32767) (hx1 : -32768 ≤ x1 ∧ x1 ≤ 32767) (hx2 : -32768 ≤ x2 ∧ x2 ≤ 32767) (hx3 : -32768 ≤ x3 ∧ x3 ≤ 32767) (w : World) :
    Calls Tryd.prog 25 #[.agg #[.int .i64 11, .int .i64 s, .int .i64 0, .int .i64 0, .int .i64 e, .int .i64 0, .int .i64 c, .bool false, .int .i64 x0, .int .i64 x1, .int .i64 x2, .int .i64 x3]] w (RPutP [11, s, 0, 0, e, 0, c, 0, x0, x1, x2, x3] w) := by
  have hp := put8_lit11 s e c x0 x1 x2 x3 hs he hc hx0 hx1 hx2 hx3
  have HP := Lib.hid hp
  have hl : IsMsgL [11, s, 0, 0, e, 0, c, 0, x0, x1, x2, x3] := ⟨rfl, .inl rfl⟩
  have NQ0 := fun W => neq_msg [11, s, 0, 0, e, 0, c, 0, x0, x1, x2, x3] [11, s, 0, 0, e, 0, c, 0, x0, x1, x2, x3] hl hl W
  rw [decide_eq_true rfl] at NQ0
  have NQ : ∀ W, (binOp .neq 66 (.agg #[.int .i64 11, .int .i64 s, .int .i64 0, .int .i64 0, .int .i64 e, .int .i64 0, .int .i64 c, .bool false, .int .i64 x0, .int .i64 x1, .int .i64 x2, .int .i64 x3]) (.agg #[.int .i64 11, .int .i64 s, .int .i64 0, .int .i64 0, .int .i64 e, .int .i64 0, .int .i64 c, .bool false, .int .i64 x0, .int .i64 x1, .int .i64 x2, .int .i64 x3])).run Tryd.prog W = .ok (.bool false) W := NQ0
  have HF : fitsB 11 s 0 0 e 0 c x0 x1 x2 x3 = true := by
    rw [fitsB_iff]
    simp only [if_true, ]
    omega
  have CN : Hid (∀ W, Calls Tryd.prog 45 #[.agg #[.int .i64 11, .int .i64 s, .int .i64 0, .int .i64 0, .int .i64 e, .int .i64 0, .int .i64 c, .bool false, .int .i64 x0, .int .i64 x1, .int .i64 x2, .int .i64 x3]] W fun e' w' => e' = .returned (.agg #[.int .i64 11, .int .i64 s, .int .i64 0, .int .i64 0, .int .i64 e, .int .i64 0, .int .i64 c, .bool false, .int .i64 x0, .int .i64 x1, .int .i64 x2, .int .i64 x3]) ∧ Below W.heap.size W w') := Lib.hid fun W => named_11 s 0 0 e 0 c 0 x0 x1 x2 x3 W
  have CPs := Lib.hid (fun W => ref08_4 s hs.1 hs.2 W)
  have CPe := Lib.hid (fun W => ref08_2 e he.1 he.2 W)
  have qc0 : (0 : Int) ≤ c := by omega
  have qc1 : c ≤ 255 := by omega
  have CPx0 := Lib.hid (fun W => ref02_int x0 hx0.1 hx0.2 W)
  have CPx1 := Lib.hid (fun W => ref02_int x1 hx1.1 hx1.2 W)
  have CPx2 := Lib.hid (fun W => ref02_int x2 hx2.1 hx2.2 W)
  have CPx3 := Lib.hid (fun W => ref02_int x3 hx3.1 hx3.2 W)
  clear hp hl NQ0 hs he hc hx0 hx1 hx2 hx3
  go_enter Tryd.func25, Tryd.ntmps25
  go_wp2_with fail
  have K1 := Lib.hid (Blk.new w #[.int .i64 11, .int .i64 s, .int .i64 0, .int .i64 0, .int .i64 e, .int .i64 0, .int .i64 c, .bool false, .int .i64 x0, .int .i64 x1, .int .i64 x2, .int .i64 x3] 66)
  have BB := Lib.hid (below_alloc1 w (.cells #[.int .i64 11, .int .i64 s, .int .i64 0, .int .i64 0, .int .i64 e, .int .i64 0, .int .i64 c, .bool false, .int .i64 x0, .int .i64 x1, .int .i64 x2, .int .i64 x3] 66))
  generalize w.alloc (.cells #[.int .i64 11, .int .i64 s, .int .i64 0, .int .i64 0, .int .i64 e, .int .i64 0, .int .i64 c, .bool false, .int .i64 x0, .int .i64 x1, .int .i64 x2, .int .i64 x3] 66) = w0 at *
  ((with_reducible refine (fits_any _ _ _ _ _ _ _ _ _ _ _ _ _).mono ?_))
  rintro e' w1 ⟨rfl, b1⟩
  rw [HF]
  replace K1 := Lib.hid (K1.out.below b1)
  replace BB := Lib.hid (bt BB.out b1)
  clear b1 HF
  go_wp2_with fail
  refine wp_region_ext (by kernel_rfl) (by kernel_rfl) ?_
  repeat (first
        | go_big_quiet_skip
        | (go_big_quiet_want
           first
             | (refine quiet_load_blk (T := 66) (g := w.heap.size) agg_msg _ rfl rfl K1 ?_ ?_; (· rfl); go_simp; go_big_quiet_on)
             | (go_big_quiet_op
                first
                  | go_big_quiet_on
                  | go_big_quiet_call (((with_reducible refine ext_of (CN.out _)))))))
  refine wpQuiet_nil ?_
  intro _ hw'
  obtain ⟨y9, rfl⟩ := hw'
  replace K1 := Lib.hid (K1.out.below (exw_bel y9))
  replace BB := Lib.hid (bt BB.out (exw_bel y9))
  generalize exw w1 y9 = w2 at *
  clear NQ CN
  have c0 : w2.cell? ⟨w.heap.size, 0, none⟩ = some (.int .i64 11) := (K1.out.cell 0).trans rfl
  have c1w2 : w2.cell? ⟨w.heap.size, 1, none⟩ = some (.int .i64 s) := (K1.out.cell 1).trans rfl
  have c4w2 : w2.cell? ⟨w.heap.size, 4, none⟩ = some (.int .i64 e) := (K1.out.cell 4).trans rfl
  have c6w2 : w2.cell? ⟨w.heap.size, 6, none⟩ = some (.int .i64 c) := (K1.out.cell 6).trans rfl
  have c8w2 : w2.cell? ⟨w.heap.size, 8, none⟩ = some (.int .i64 x0) := (K1.out.cell 8).trans rfl
  have c9w2 : w2.cell? ⟨w.heap.size, 9, none⟩ = some (.int .i64 x1) := (K1.out.cell 9).trans rfl
  have c10w2 : w2.cell? ⟨w.heap.size, 10, none⟩ = some (.int .i64 x2) := (K1.out.cell 10).trans rfl
  have c11w2 : w2.cell? ⟨w.heap.size, 11, none⟩ = some (.int .i64 x3) := (K1.out.cell 11).trans rfl
  have lw0 := K1.out.lt
  go_wp2_with ((with_reducible show wpList _ _ _ (⟨some 40, _, _, _, _, _⟩ :: _) _ _); refine Marker.mk ?_)
  refine Marker.in ?_
  have OK := Lib.hid (own_one w2 11 (by omega) (by omega))
  have B3 := below_alloc1 w2 (.cells #[.int .u8 11] 5)
  replace K1 := Lib.hid (K1.out.below B3)
  replace BB := Lib.hid (bt BB.out B3)
  have l2 := lw0
  have lz := B3.size
  have lw : w.heap.size ≤ w2.heap.size := by omega
  generalize w2.alloc (.cells #[.int .u8 11] 5) = w3 at *
  generalize hb2 : w2.heap.size = base at *
  clear B3 hb2 c0 lw0 c1w2 c4w2 c6w2 c8w2 c9w2 c10w2 c11w2
  have c1w3 : w3.cell? ⟨w.heap.size, 1, none⟩ = some (.int .i64 s) := (K1.out.cell 1).trans rfl
  go_wp2_with fail
  ((with_reducible refine (CPs.out _).mono ?_))
  rintro e' w4 ⟨g4, rfl, k4, b4⟩
  have R4 := Lib.hid (u8V_row k4 (be_bytes s 4))
  replace K1 := Lib.hid (K1.out.below b4)
  replace BB := Lib.hid (bt BB.out b4)
  replace OK := Lib.hid (own_below OK.out b4)
  have lz4 : base ≤ w4.heap.size := Nat.le_trans lz b4.size
  clear b4 k4 CPs c1w3
  go_wp2_with ((with_reducible show wpList _ _ _ (⟨some 41, _, _, _, _, _⟩ :: _) _ _); (with_reducible refine wpList_append_bytes _ ?_ (.tmp 37) (.tmp 40) ?_ base (some ⟨base, 0, none⟩) 1 1 [11] ?_ ?_ OK.out (some ⟨g4, 0, none⟩) 4 4 (be s 4) ?_ ?_ R4.out ?_ ?_ ?_); (· rfl); (· rfl); (· rfl); (· rfl); (· exact be_len _ _); (· rfl); (· omega); (· exact lz4); rintro A5 c5 w5 o5 b5; refine Marker.mk ?_)
  refine Marker.in ?_
  have O5 := Lib.hid o5
  replace K1 := Lib.hid (blk_under K1.out b5 (by omega))
  replace BB := Lib.hid (BB.out.trans (b5.mono lw))
  have lz5 : base ≤ w5.heap.size := Nat.le_trans lz4 b5.size
  clear o5 b5 R4 OK lz4
  have c0 : w5.cell? ⟨w.heap.size, 0, none⟩ = some (.int .i64 11) := (K1.out.cell 0).trans rfl
  have c4w5 : w5.cell? ⟨w.heap.size, 4, none⟩ = some (.int .i64 e) := (K1.out.cell 4).trans rfl
  have c6w5 : w5.cell? ⟨w.heap.size, 6, none⟩ = some (.int .i64 c) := (K1.out.cell 6).trans rfl
  have c8w5 : w5.cell? ⟨w.heap.size, 8, none⟩ = some (.int .i64 x0) := (K1.out.cell 8).trans rfl
  have c9w5 : w5.cell? ⟨w.heap.size, 9, none⟩ = some (.int .i64 x1) := (K1.out.cell 9).trans rfl
  have c10w5 : w5.cell? ⟨w.heap.size, 10, none⟩ = some (.int .i64 x2) := (K1.out.cell 10).trans rfl
  have c11w5 : w5.cell? ⟨w.heap.size, 11, none⟩ = some (.int .i64 x3) := (K1.out.cell 11).trans rfl
  have LH : Hid (([11] ++ be s 4).length = 5) := Lib.hid (by simp [be_len])
  have LH2 : Hid ((([11] ++ be s 4) ++ be e 2).length = 7) := Lib.hid (by simp [be_len])
  have hz8 : IntKind.u8.wrap c = c := by simp [IntKind.wrap, IntKind.bits, IntKind.signed]; omega
  go_wp2_with fail
  clear c0 c4w5 c6w5 c8w5 c9w5 c10w5 c11w5
  refine wp_region_confR' (growR_kept (b0 := base) (T := 5) (N := 5) (ys := (be e 2 ++ [c]).map (Value.int .u8))) (by kernel_rfl) 10 (by kernel_rfl) (by simp) (by decide) (RQ11 w.heap.size base A5 c5 s e c) (RQ11_keep _ _ _ _ _ _ _) ?_ ?_
  · simp only [ConfStepsR, List.take_succ_cons, List.take_zero, putAll, Act.put, List.setIfInBounds_toArray, List.set_cons_succ, List.set_cons_zero, and_true]
    refine ⟨?_, ?_, ?_, ?_, ?_, ?_, ?_, ?_, ?_, ?_⟩
    all_goals intro v w' hb hd
    · exact conf_valueR growR_kept (wanted0 rfl) (by simp [go_sem]) ⟨rfl, growR_ownP hb O5.out (.inl (by simp [be_len]))⟩
    · exact conf_valueR growR_kept (wanted0 rfl) (by simp [go_sem]) rfl
    · have d1 : v 1 = .pointer (some ⟨w.heap.size, 4, none⟩) := hd.at 1 rfl
      have cc : w'.cell? ⟨w.heap.size, 4, none⟩ = some (.int .i64 e) := (Blk.cell (growR_blk hb K1.out (by decide)) 4).trans rfl
      exact conf_valueR growR_kept (wanted0 rfl) (by simp [go_sem, d1, cc]) rfl
    · have d2 : v 2 = .int .i64 e := hd.at 2 rfl
      refine conf_callR (f := 46) (args := #[v 2, .int .i64 2]) (wanted0 rfl) (by simp [go_sem]) ?_
      rw [d2]
      exact (CPe.out w').mono fun e' w'' ⟨g6, he, k6, b6⟩ => ⟨_, he, growR_below b6, g6, rfl, k6⟩
    · obtain ⟨d0, o5⟩ : v 0 = .slice A5 5 c5 ∧ Own w' base A5 c5 ([11] ++ be s 4) := hd.at 0 rfl
      obtain ⟨g6, d3, k6⟩ : ∃ g, v 3 = .slice (some ⟨g, 0, none⟩) 2 2 ∧ Blk w' g (u8V (be e 2)) 5 := hd.at 3 rfl
      obtain ⟨A', cp', w2', hrun, hown, hrel⟩ := run_append_bytesR w' base base A5 c5 ([11] ++ be s 4) o5 (some ⟨g6, 0, none⟩) 2 (be e 2) (u8V_row k6 (be_bytes e 2)) (by rw [be_len]; omega) (by simp [be_len]) (Nat.le_trans lz5 hb.1) (Nat.le_refl _) 23
      rw [LH.out] at hrun hrel
      rw [be_len] at hrun
      refine conf_makeR (wanted0 rfl) (run_op_append rfl (by simp [go_sem, d0]) (by simp [go_sem, d3]) hrun) ?_ ⟨A', cp', rfl, hown⟩
      rw [List.map_append]
      exact growR_more hrel _
    · exact conf_valueR growR_kept (wanted0 rfl) (by simp [go_sem]) rfl
    · have d5 : v 5 = .pointer (some ⟨w.heap.size, 6, none⟩) := hd.at 5 rfl
      have cc : w'.cell? ⟨w.heap.size, 6, none⟩ = some (.int .i64 c) := (Blk.cell (growR_blk hb K1.out (by decide)) 6).trans rfl
      exact conf_valueR growR_kept (wanted0 rfl) (by simp [go_sem, d5, cc]) rfl
    · have d6 : v 6 = .int .i64 c := hd.at 6 rfl
      exact conf_valueR growR_kept (wanted0 rfl) (by simp [go_sem, d6, hz8]) rfl
    · have d7 : v 7 = .int .u8 c := hd.at 7 rfl
      refine conf_makeR (w' := w'.alloc (.cells (u8V [c]) 5)) (v := .slice (some ⟨w'.heap.size, 0, none⟩) 1 1) (wanted0 rfl) (by simp [go_sem, d7, u8V]) (growR_below (below_alloc1 w' _)) ⟨w'.heap.size, rfl, Blk.new _ _ _⟩
    · obtain ⟨A7, c7, d4, o7⟩ : ∃ A cp, v 4 = .slice A 7 cp ∧ Own w' base A cp (([11] ++ be s 4) ++ be e 2) := hd.at 4 rfl
      obtain ⟨g8, d8, k8⟩ : ∃ g, v 8 = .slice (some ⟨g, 0, none⟩) 1 1 ∧ Blk w' g (u8V [c]) 5 := hd.at 8 rfl
      obtain ⟨A', cp', w2', hrun, hown, hrel⟩ := run_append_bytesR w' base base A7 c7 (([11] ++ be s 4) ++ be e 2) o7 (some ⟨g8, 0, none⟩) 1 [c] (u8V_row k8 (fun x hx => by simp at hx; omega)) (by simp) (by simp [be_len]) (Nat.le_trans lz5 hb.1) (Nat.le_refl _) 23
      rw [LH2.out] at hrun hrel
      refine conf_makeR (wanted0 rfl) (run_op_append rfl (by simp [go_sem, d4]) (by simp [go_sem, d8]) hrun) ?_ ⟨A', cp', rfl, hown⟩
      rw [List.map_append]
      exact growR_shift ((be e 2).map (Value.int .u8)) (by rw [List.length_map, be_len]; exact hrel)
  · intro v w' hb hr
    obtain ⟨A8, c8, e8, o8⟩ : ∃ A cp, v 9 = .slice A 8 cp ∧ Own w' base A cp (([11] ++ be s 4) ++ be e 2 ++ [c])   := hr 9 (by omega)
    simp only [List.take_succ_cons, List.take_zero, List.drop_succ_cons, List.drop_zero, putAll, Act.put, List.setIfInBounds_toArray, List.set_cons_succ, List.set_cons_zero]
    rw [e8]
    have Q0 := Lib.hid o8
    replace BB := Lib.hid (BB.out.trans ((hb.2.1 lz5).mono lw))
    replace K1 := Lib.hid (growR_blk hb K1.out (by decide))
    have lq0 : base ≤ w'.heap.size := Nat.le_trans lz5 hb.1
    clear hr hb o8 e8
    obtain ⟨ys0, hy0⟩ : ∃ y, y = ([11] ++ be s 4) ++ be e 2 ++ [c] := ⟨_, rfl⟩
    rw [← hy0] at Q0
    have hl0 : ys0.length = 8 := by rw [hy0]; simp [be_len]
    replace hy0 := Lib.hid hy0
    generalize hA0 : A8 = B0 at *
    generalize hw0 : w' = v0 at *
    generalize hc0 : c8 = d0 at *
    clear hA0 hw0 hc0
    go_wp2_with fail
    refine wp_loop_rounds 5 ?_
    rw [rounds_succ]
    have c8 : v0.cell? ⟨w.heap.size, 8, none⟩ = some (.int .i64 x0) := (K1.out.cell 8).trans rfl
    go_wp2_with fail
    ((with_reducible refine (CPx0.out _).mono ?_))
    rintro e' u0 ⟨g0, rfl, k0, b0⟩
    have R0 := Lib.hid (u8V_row k0 (be_bytes (x0 % 65536) 2))
    replace K1 := Lib.hid (K1.out.below b0)
    replace BB := Lib.hid (bt BB.out b0)
    replace Q0 := Lib.hid (own_below Q0.out b0)
    have lu0 : base ≤ u0.heap.size := Nat.le_trans lq0 b0.size
    clear b0 k0 CPx0 c8
    go_wp2_with ((with_reducible show wpList _ _ _ (⟨some 107, _, _, _, _, _⟩ :: _) _ _); (with_reducible refine wpList_append_bytes _ ?_ (.tmp 105) (.tmp 106) ?_ base B0 d0 8 ys0 ?_ ?_ Q0.out (some ⟨g0, 0, none⟩) 2 2 (be (x0 % 65536) 2) ?_ ?_ R0.out ?_ ?_ ?_); (· rfl); (· rfl); (· exact hl0); (· rfl); (· exact be_len _ _); (· rfl); (· omega); (· exact lu0); rintro B1 d1 v1 o1 bb1; refine Marker.mk ?_)
    refine Marker.in ?_
    obtain ⟨ys1, hy1⟩ : ∃ y, y = ys0 ++ be (x0 % 65536) 2 := ⟨_, rfl⟩
    rw [← hy1] at o1
    have Q1 := Lib.hid o1
    have hl1 : ys1.length = 10 := by rw [hy1, List.length_append, be_len, hl0]
    replace hy1 := Lib.hid hy1
    replace K1 := Lib.hid (blk_under K1.out bb1 (by omega))
    replace BB := Lib.hid (BB.out.trans (bb1.mono lw))
    have lq1 : base ≤ v1.heap.size := Nat.le_trans lu0 bb1.size
    clear o1 bb1 R0 Q0 lu0 lq0
    go_wp2_with fail
    rw [rounds_succ]
    have c9 : v1.cell? ⟨w.heap.size, 9, none⟩ = some (.int .i64 x1) := (K1.out.cell 9).trans rfl
    go_wp2_with fail
    ((with_reducible refine (CPx1.out _).mono ?_))
    rintro e' u1 ⟨g1, rfl, k1, b1⟩
    have R1 := Lib.hid (u8V_row k1 (be_bytes (x1 % 65536) 2))
    replace K1 := Lib.hid (K1.out.below b1)
    replace BB := Lib.hid (bt BB.out b1)
    replace Q1 := Lib.hid (own_below Q1.out b1)
    have lu1 : base ≤ u1.heap.size := Nat.le_trans lq1 b1.size
    clear b1 k1 CPx1 c9
    go_wp2_with ((with_reducible show wpList _ _ _ (⟨some 107, _, _, _, _, _⟩ :: _) _ _); (with_reducible refine wpList_append_bytes _ ?_ (.tmp 105) (.tmp 106) ?_ base B1 d1 10 ys1 ?_ ?_ Q1.out (some ⟨g1, 0, none⟩) 2 2 (be (x1 % 65536) 2) ?_ ?_ R1.out ?_ ?_ ?_); (· rfl); (· rfl); (· exact hl1); (· rfl); (· exact be_len _ _); (· rfl); (· omega); (· exact lu1); rintro B2 d2 v2 o2 bb2; refine Marker.mk ?_)
    refine Marker.in ?_
    obtain ⟨ys2, hy2⟩ : ∃ y, y = ys1 ++ be (x1 % 65536) 2 := ⟨_, rfl⟩
    rw [← hy2] at o2
    have Q2 := Lib.hid o2
    have hl2 : ys2.length = 12 := by rw [hy2, List.length_append, be_len, hl1]
    replace hy2 := Lib.hid hy2
    replace K1 := Lib.hid (blk_under K1.out bb2 (by omega))
    replace BB := Lib.hid (BB.out.trans (bb2.mono lw))
    have lq2 : base ≤ v2.heap.size := Nat.le_trans lu1 bb2.size
    clear o2 bb2 R1 Q1 lu1 lq1
    go_wp2_with fail
    rw [rounds_succ]
    have c10 : v2.cell? ⟨w.heap.size, 10, none⟩ = some (.int .i64 x2) := (K1.out.cell 10).trans rfl
    go_wp2_with fail
    ((with_reducible refine (CPx2.out _).mono ?_))
    rintro e' u2 ⟨g2, rfl, k2, b2⟩
    have R2 := Lib.hid (u8V_row k2 (be_bytes (x2 % 65536) 2))
    replace K1 := Lib.hid (K1.out.below b2)
    replace BB := Lib.hid (bt BB.out b2)
    replace Q2 := Lib.hid (own_below Q2.out b2)
    have lu2 : base ≤ u2.heap.size := Nat.le_trans lq2 b2.size
    clear b2 k2 CPx2 c10
    go_wp2_with ((with_reducible show wpList _ _ _ (⟨some 107, _, _, _, _, _⟩ :: _) _ _); (with_reducible refine wpList_append_bytes _ ?_ (.tmp 105) (.tmp 106) ?_ base B2 d2 12 ys2 ?_ ?_ Q2.out (some ⟨g2, 0, none⟩) 2 2 (be (x2 % 65536) 2) ?_ ?_ R2.out ?_ ?_ ?_); (· rfl); (· rfl); (· exact hl2); (· rfl); (· exact be_len _ _); (· rfl); (· omega); (· exact lu2); rintro B3 d3 v3 o3 bb3; refine Marker.mk ?_)
    refine Marker.in ?_
    obtain ⟨ys3, hy3⟩ : ∃ y, y = ys2 ++ be (x2 % 65536) 2 := ⟨_, rfl⟩
    rw [← hy3] at o3
    have Q3 := Lib.hid o3
    have hl3 : ys3.length = 14 := by rw [hy3, List.length_append, be_len, hl2]
    replace hy3 := Lib.hid hy3
    replace K1 := Lib.hid (blk_under K1.out bb3 (by omega))
    replace BB := Lib.hid (BB.out.trans (bb3.mono lw))
    have lq3 : base ≤ v3.heap.size := Nat.le_trans lu2 bb3.size
    clear o3 bb3 R2 Q2 lu2 lq2
    go_wp2_with fail
    rw [rounds_succ]
    have c11 : v3.cell? ⟨w.heap.size, 11, none⟩ = some (.int .i64 x3) := (K1.out.cell 11).trans rfl
    go_wp2_with fail
    ((with_reducible refine (CPx3.out _).mono ?_))
    rintro e' u3 ⟨g3, rfl, k3, b3⟩
    have R3 := Lib.hid (u8V_row k3 (be_bytes (x3 % 65536) 2))
    replace K1 := Lib.hid (K1.out.below b3)
    replace BB := Lib.hid (bt BB.out b3)
    replace Q3 := Lib.hid (own_below Q3.out b3)
    have lu3 : base ≤ u3.heap.size := Nat.le_trans lq3 b3.size
    clear b3 k3 CPx3 c11
    go_wp2_with ((with_reducible show wpList _ _ _ (⟨some 107, _, _, _, _, _⟩ :: _) _ _); (with_reducible refine wpList_append_bytes _ ?_ (.tmp 105) (.tmp 106) ?_ base B3 d3 14 ys3 ?_ ?_ Q3.out (some ⟨g3, 0, none⟩) 2 2 (be (x3 % 65536) 2) ?_ ?_ R3.out ?_ ?_ ?_); (· rfl); (· rfl); (· exact hl3); (· rfl); (· exact be_len _ _); (· rfl); (· omega); (· exact lu3); rintro B4 d4 v4 o4 bb4; refine Marker.mk ?_)
    refine Marker.in ?_
    obtain ⟨ys4, hy4⟩ : ∃ y, y = ys3 ++ be (x3 % 65536) 2 := ⟨_, rfl⟩
    rw [← hy4] at o4
    have Q4 := Lib.hid o4
    have hl4 : ys4.length = 16 := by rw [hy4, List.length_append, be_len, hl3]
    replace hy4 := Lib.hid hy4
    replace K1 := Lib.hid (blk_under K1.out bb4 (by omega))
    replace BB := Lib.hid (BB.out.trans (bb4.mono lw))
    have lq4 : base ≤ v4.heap.size := Nat.le_trans lu3 bb4.size
    clear o4 bb4 R3 Q3 lu3 lq3
    go_wp2_with fail
    rw [rounds_succ]
    go_wp2_with fail
    go_ret2
    refine rputP_some HP.out ?_ rfl (show Own v4 base B4 d4 _ from ?_) BB.out
    · simp [be_len]
    · have hq := Q4.out
      rw [hy4.out, hy3.out, hy2.out, hy1.out, hy0.out] at hq
      exact hq
end Go.Proofs.YtapednkmefbldaaDoor

/- sidestickref08.Put of any message. -/
namespace Go.Proofs.YtapednkmefbldaaDoor
open Go.RowKit

theorem named_anyP (a0 a1 a2 a3 a4 a5 a6 a7 a8 a9 a10 a11 : Int) (w : World) (h1 : 1 ≤ a0) (h2 : a0 ≤ 11) :
    Calls Tryd.prog 45 #[.agg #[.int .i64 a0, .int .i64 a1, .int .i64 a2, .int .i64 a3, .int .i64 a4, .int .i64 a5, .int .i64 a6, .bool (a7 == 1), .int .i64 a8, .int .i64 a9, .int .i64 a10, .int .i64 a11]] w fun e' w' => e' = .returned (.agg (msgV (named12 a0 a1 a2 a3 a4 a5 a6 a7 a8 a9 a10 a11))) ∧ Below w.heap.size w w' := by
  have h : a0 = 1 ∨ a0 = 2 ∨ a0 = 3 ∨ a0 = 4 ∨ a0 = 5 ∨ a0 = 6 ∨ a0 = 7 ∨ a0 = 8 ∨ a0 = 9 ∨ a0 = 10 ∨ a0 = 11 := by omega
  rcases h with rfl | rfl | rfl | rfl | rfl | rfl | rfl | rfl | rfl | rfl | rfl
  · exact named_1 a1 a2 a3 a4 a5 a6 a7 a8 a9 a10 a11 w
  · exact named_2 a1 a2 a3 a4 a5 a6 a7 a8 a9 a10 a11 w
  · exact named_3 a1 a2 a3 a4 a5 a6 a7 a8 a9 a10 a11 w
  · exact named_4 a1 a2 a3 a4 a5 a6 a7 a8 a9 a10 a11 w
  · exact named_5 a1 a2 a3 a4 a5 a6 a7 a8 a9 a10 a11 w
  · exact named_6 a1 a2 a3 a4 a5 a6 a7 a8 a9 a10 a11 w
  · exact named_7 a1 a2 a3 a4 a5 a6 a7 a8 a9 a10 a11 w
  · exact named_8 a1 a2 a3 a4 a5 a6 a7 a8 a9 a10 a11 w
  · exact named_9 a1 a2 a3 a4 a5 a6 a7 a8 a9 a10 a11 w
  · exact named_10 a1 a2 a3 a4 a5 a6 a7 a8 a9 a10 a11 w
  · exact named_11 a1 a2 a3 a4 a5 a6 a7 a8 a9 a10 a11 w
theorem isMsg_named12 (a0 a1 a2 a3 a4 a5 a6 a7 a8 a9 a10 a11 : Int) (h1 : 1 ≤ a0) (h2 : a0 ≤ 11) (h7 : a7 = 0 ∨ a7 = 1) : IsMsgL (named12 a0 a1 a2 a3 a4 a5 a6 a7 a8 a9 a10 a11) := by
  have h : a0 = 1 ∨ a0 = 2 ∨ a0 = 3 ∨ a0 = 4 ∨ a0 = 5 ∨ a0 = 6 ∨ a0 = 7 ∨ a0 = 8 ∨ a0 = 9 ∨ a0 = 10 ∨ a0 = 11 := by omega
  rcases h with rfl | rfl | rfl | rfl | rfl | rfl | rfl | rfl | rfl | rfl | rfl
  · exact ⟨rfl, .inl rfl⟩
  · exact ⟨rfl, .inl rfl⟩
  · exact ⟨rfl, .inl rfl⟩
  · exact ⟨rfl, .inl rfl⟩
  · exact ⟨rfl, h7⟩
  · exact ⟨rfl, .inl rfl⟩
  · exact ⟨rfl, .inl rfl⟩
  · exact ⟨rfl, .inl rfl⟩
  · exact ⟨rfl, .inl rfl⟩
  · exact ⟨rfl, .inl rfl⟩
  · exact ⟨rfl, .inl rfl⟩
set_option maxRecDepth 100000 in
set_option maxHeartbeats 1600000 in
theorem rput_misfit (a0 a1 a2 a3 a4 a5 a6 a7 a8 a9 a10 a11 : Int) (h7 : a7 = 0 ∨ a7 = 1) (hf : fitsB a0 a1 a2 a3 a4 a5 a6 a8 a9 a10 a11 = false) (w : World) :
    Calls Tryd.prog 25 #[.agg #[.int .i64 a0, .int .i64 a1, .int .i64 a2, .int .i64 a3, .int .i64 a4, .int .i64 a5, .int .i64 a6, .bool (a7 == 1), .int .i64 a8, .int .i64 a9, .int .i64 a10, .int .i64 a11]] w (RPutP [a0, a1, a2, a3, a4, a5, a6, a7, a8, a9, a10, a11] w) := by
  have hp : put8 [a0, a1, a2, a3, a4, a5, a6, a7, a8, a9, a10, a11] = none := by
    cases hc : put8 [a0, a1, a2, a3, a4, a5, a6, a7, a8, a9, a10, a11] with
    | none => rfl
    | some bs =>
      have h := put8_fits a0 a1 a2 a3 a4 a5 a6 a7 a8 a9 a10 a11 bs hc
      rw [hf] at h
      exact absurd h.1 (by decide)
  have HP := Lib.hid hp
  have HF := Lib.hid hf
  clear hp hf h7
  obtain ⟨b, hb⟩ : ∃ b, b = (a7 == 1) := ⟨_, rfl⟩
  rw [← hb]
  clear hb
  go_enter Tryd.func25, Tryd.ntmps25
  go_wp2_with fail
  have K1 := Lib.hid (Blk.new w #[.int .i64 a0, .int .i64 a1, .int .i64 a2, .int .i64 a3, .int .i64 a4, .int .i64 a5, .int .i64 a6, .bool b, .int .i64 a8, .int .i64 a9, .int .i64 a10, .int .i64 a11] 66)
  have BB := Lib.hid (below_alloc1 w (.cells #[.int .i64 a0, .int .i64 a1, .int .i64 a2, .int .i64 a3, .int .i64 a4, .int .i64 a5, .int .i64 a6, .bool b, .int .i64 a8, .int .i64 a9, .int .i64 a10, .int .i64 a11] 66))
  generalize w.alloc (.cells #[.int .i64 a0, .int .i64 a1, .int .i64 a2, .int .i64 a3, .int .i64 a4, .int .i64 a5, .int .i64 a6, .bool b, .int .i64 a8, .int .i64 a9, .int .i64 a10, .int .i64 a11] 66) = w0 at *
  ((with_reducible refine (fits_any _ _ _ _ _ _ _ _ _ _ _ _ _).mono ?_))
  rintro e' w1 ⟨rfl, b1⟩
  rw [HF.out]
  replace K1 := Lib.hid (K1.out.below b1)
  replace BB := Lib.hid (bt BB.out b1)
  clear b1 HF
  go_wp2_with fail
  refine wp_region_ext (by kernel_rfl) (by kernel_rfl) ?_
  repeat (first
        | go_big_quiet_skip
        | (go_big_quiet_want
           first
             | (refine quiet_load_blk (T := 66) (g := w.heap.size) agg_msg _ rfl rfl K1 ?_ ?_; (· rfl); go_simp; go_big_quiet_on)
             | (go_big_quiet_op
                first
                  | go_big_quiet_on
                  | go_big_quiet_call ((fail)))))
  refine wpQuiet_nil ?_
  intro _ hw'
  obtain ⟨y9, rfl⟩ := hw'
  replace BB := Lib.hid (bt BB.out (exw_bel y9))
  generalize exw w1 y9 = w2 at *
  go_wp2_with fail
  go_ret2
  exact rputP_none HP.out rfl BB.out
set_option maxRecDepth 100000 in
set_option maxHeartbeats 1600000 in
theorem rput_unlike (a0 a1 a2 a3 a4 a5 a6 a7 a8 a9 a10 a11 : Int) (h7 : a7 = 0 ∨ a7 = 1) (hf : fitsB a0 a1 a2 a3 a4 a5 a6 a8 a9 a10 a11 = true) (hn : named12 a0 a1 a2 a3 a4 a5 a6 a7 a8 a9 a10 a11 ≠ [a0, a1, a2, a3, a4, a5, a6, a7, a8, a9, a10, a11]) (w : World) :
    Calls Tryd.prog 25 #[.agg #[.int .i64 a0, .int .i64 a1, .int .i64 a2, .int .i64 a3, .int .i64 a4, .int .i64 a5, .int .i64 a6, .bool (a7 == 1), .int .i64 a8, .int .i64 a9, .int .i64 a10, .int .i64 a11]] w (RPutP [a0, a1, a2, a3, a4, a5, a6, a7, a8, a9, a10, a11] w) := by
  have hp : put8 [a0, a1, a2, a3, a4, a5, a6, a7, a8, a9, a10, a11] = none := by
    cases hc : put8 [a0, a1, a2, a3, a4, a5, a6, a7, a8, a9, a10, a11] with
    | none => rfl
    | some bs =>
      have h := put8_fits a0 a1 a2 a3 a4 a5 a6 a7 a8 a9 a10 a11 bs hc
      exact absurd h.2 hn
  have hk := (fitsB_iff a0 a1 a2 a3 a4 a5 a6 a8 a9 a10 a11).1 hf
  have CN := Lib.hid (fun W => named_anyP a0 a1 a2 a3 a4 a5 a6 a7 a8 a9 a10 a11 W (by omega) (by omega))
  have NQ := fun W => neq_msg (named12 a0 a1 a2 a3 a4 a5 a6 a7 a8 a9 a10 a11) [a0, a1, a2, a3, a4, a5, a6, a7, a8, a9, a10, a11] (isMsg_named12 a0 a1 a2 a3 a4 a5 a6 a7 a8 a9 a10 a11 (by omega) (by omega) h7) ⟨rfl, h7⟩ W
  rw [decide_eq_false hn] at NQ
  replace NQ : ∀ W, (binOp .neq 66 (.agg (msgV (named12 a0 a1 a2 a3 a4 a5 a6 a7 a8 a9 a10 a11))) (.agg #[.int .i64 a0, .int .i64 a1, .int .i64 a2, .int .i64 a3, .int .i64 a4, .int .i64 a5, .int .i64 a6, .bool (a7 == 1), .int .i64 a8, .int .i64 a9, .int .i64 a10, .int .i64 a11])).run Tryd.prog W = .ok (.bool true) W := NQ
  clear hn hk
  generalize msgV (named12 a0 a1 a2 a3 a4 a5 a6 a7 a8 a9 a10 a11) = nv at *
  have HP := Lib.hid hp
  have HF := Lib.hid hf
  clear hp hf h7
  obtain ⟨b, hb⟩ : ∃ b, b = (a7 == 1) := ⟨_, rfl⟩
  rw [← hb] at NQ CN ⊢
  clear hb
  go_enter Tryd.func25, Tryd.ntmps25
  go_wp2_with fail
  have K1 := Lib.hid (Blk.new w #[.int .i64 a0, .int .i64 a1, .int .i64 a2, .int .i64 a3, .int .i64 a4, .int .i64 a5, .int .i64 a6, .bool b, .int .i64 a8, .int .i64 a9, .int .i64 a10, .int .i64 a11] 66)
  have BB := Lib.hid (below_alloc1 w (.cells #[.int .i64 a0, .int .i64 a1, .int .i64 a2, .int .i64 a3, .int .i64 a4, .int .i64 a5, .int .i64 a6, .bool b, .int .i64 a8, .int .i64 a9, .int .i64 a10, .int .i64 a11] 66))
  generalize w.alloc (.cells #[.int .i64 a0, .int .i64 a1, .int .i64 a2, .int .i64 a3, .int .i64 a4, .int .i64 a5, .int .i64 a6, .bool b, .int .i64 a8, .int .i64 a9, .int .i64 a10, .int .i64 a11] 66) = w0 at *
  ((with_reducible refine (fits_any _ _ _ _ _ _ _ _ _ _ _ _ _).mono ?_))
  rintro e' w1 ⟨rfl, b1⟩
  rw [HF.out]
  replace K1 := Lib.hid (K1.out.below b1)
  replace BB := Lib.hid (bt BB.out b1)
  clear b1 HF
  go_wp2_with fail
  refine wp_region_ext (by kernel_rfl) (by kernel_rfl) ?_
  repeat (first
        | go_big_quiet_skip
        | (go_big_quiet_want
           first
             | (refine quiet_load_blk (T := 66) (g := w.heap.size) agg_msg _ rfl rfl K1 ?_ ?_; (· rfl); go_simp; go_big_quiet_on)
             | (go_big_quiet_op
                first
                  | go_big_quiet_on
                  | go_big_quiet_call (((with_reducible refine ext_of (CN.out _)))))))
  refine wpQuiet_nil ?_
  intro _ hw'
  obtain ⟨y9, rfl⟩ := hw'
  replace BB := Lib.hid (bt BB.out (exw_bel y9))
  generalize exw w1 y9 = w2 at *
  go_wp2_with fail
  go_ret2
  exact rputP_none HP.out rfl BB.out
theorem rput_lit (a0 a1 a2 a3 a4 a5 a6 a7 a8 a9 a10 a11 : Int) (h7 : a7 = 0 ∨ a7 = 1) (w : World) : Calls Tryd.prog 25 #[.agg #[.int .i64 a0, .int .i64 a1, .int .i64 a2, .int .i64 a3, .int .i64 a4, .int .i64 a5, .int .i64 a6, .bool (a7 == 1), .int .i64 a8, .int .i64 a9, .int .i64 a10, .int .i64 a11]] w (RPutP [a0, a1, a2, a3, a4, a5, a6, a7, a8, a9, a10, a11] w) := by
  cases hf : fitsB a0 a1 a2 a3 a4 a5 a6 a8 a9 a10 a11 with
  | false => exact rput_misfit a0 a1 a2 a3 a4 a5 a6 a7 a8 a9 a10 a11 h7 hf w
  | true =>
    by_cases hn : named12 a0 a1 a2 a3 a4 a5 a6 a7 a8 a9 a10 a11 = [a0, a1, a2, a3, a4, a5, a6, a7, a8, a9, a10, a11]
    · have hk := (fitsB_iff a0 a1 a2 a3 a4 a5 a6 a8 a9 a10 a11).1 hf
      have h : a0 = 1 ∨ a0 = 2 ∨ a0 = 3 ∨ a0 = 4 ∨ a0 = 5 ∨ a0 = 6 ∨ a0 = 7 ∨ a0 = 8 ∨ a0 = 9 ∨ a0 = 10 ∨ a0 = 11 := by omega
      obtain ⟨h8, h9, h10, h11, h0, h1, h4, h2, h3, h5, h6⟩ := hk
      clear h0 hf
      rcases h with rfl | rfl | rfl | rfl | rfl | rfl | rfl | rfl | rfl | rfl | rfl
      · replace hn : ([1, 0, a2, 0, 0, 0, 0, 0, 0, 0, 0, 0] : List Int) = [1, a1, a2, a3, a4, a5, a6, a7, a8, a9, a10, a11] := hn
        simp only [List.cons.injEq, true_and, and_true] at hn
        obtain ⟨rfl, rfl, rfl, rfl, rfl, rfl, rfl, rfl, rfl, rfl⟩ := hn
        exact rput_1 a2 h2 w
      · replace hn : ([2, 0, a2, 0, 0, 0, 0, 0, 0, 0, 0, 0] : List Int) = [2, a1, a2, a3, a4, a5, a6, a7, a8, a9, a10, a11] := hn
        simp only [List.cons.injEq, true_and, and_true] at hn
        obtain ⟨rfl, rfl, rfl, rfl, rfl, rfl, rfl, rfl, rfl, rfl⟩ := hn
        exact rput_2 a2 h2 w
      · replace hn : ([3, a1, 0, 0, 0, 0, 0, 0, 0, 0, 0, 0] : List Int) = [3, a1, a2, a3, a4, a5, a6, a7, a8, a9, a10, a11] := hn
        simp only [List.cons.injEq, true_and, and_true] at hn
        obtain ⟨rfl, rfl, rfl, rfl, rfl, rfl, rfl, rfl, rfl, rfl⟩ := hn
        exact rput_3 a1 h1 w
      · replace hn : ([4, a1, 0, 0, 0, 0, 0, 0, 0, 0, 0, 0] : List Int) = [4, a1, a2, a3, a4, a5, a6, a7, a8, a9, a10, a11] := hn
        simp only [List.cons.injEq, true_and, and_true] at hn
        obtain ⟨rfl, rfl, rfl, rfl, rfl, rfl, rfl, rfl, rfl, rfl⟩ := hn
        exact rput_4 a1 h1 w
      · replace hn : ([5, a1, 0, 0, 0, 0, 0, a7, 0, 0, 0, 0] : List Int) = [5, a1, a2, a3, a4, a5, a6, a7, a8, a9, a10, a11] := hn
        simp only [List.cons.injEq, true_and, and_true] at hn
        obtain ⟨rfl, rfl, rfl, rfl, rfl, rfl, rfl, rfl, rfl⟩ := hn
        exact rput_5 a1 a7 h1 h7 w
      · replace hn : ([6, a1, 0, a3, 0, 0, 0, 0, 0, 0, 0, 0] : List Int) = [6, a1, a2, a3, a4, a5, a6, a7, a8, a9, a10, a11] := hn
        simp only [List.cons.injEq, true_and, and_true] at hn
        obtain ⟨rfl, rfl, rfl, rfl, rfl, rfl, rfl, rfl, rfl⟩ := hn
        exact rput_6 a1 a3 h1 h3 w
      · replace hn : ([7, a1, 0, 0, a4, 0, 0, 0, 0, 0, 0, 0] : List Int) = [7, a1, a2, a3, a4, a5, a6, a7, a8, a9, a10, a11] := hn
        simp only [List.cons.injEq, true_and, and_true] at hn
        obtain ⟨rfl, rfl, rfl, rfl, rfl, rfl, rfl, rfl, rfl⟩ := hn
        exact rput_7 a1 a4 h1 h4 w
      · replace hn : ([8, a1, 0, 0, 0, 0, 0, 0, 0, 0, 0, 0] : List Int) = [8, a1, a2, a3, a4, a5, a6, a7, a8, a9, a10, a11] := hn
        simp only [List.cons.injEq, true_and, and_true] at hn
        obtain ⟨rfl, rfl, rfl, rfl, rfl, rfl, rfl, rfl, rfl, rfl⟩ := hn
        exact rput_8 a1 h1 w
      · replace hn : ([9, a1, 0, 0, 0, 0, 0, 0, 0, 0, 0, 0] : List Int) = [9, a1, a2, a3, a4, a5, a6, a7, a8, a9, a10, a11] := hn
        simp only [List.cons.injEq, true_and, and_true] at hn
        obtain ⟨rfl, rfl, rfl, rfl, rfl, rfl, rfl, rfl, rfl, rfl⟩ := hn
        exact rput_9 a1 h1 w
      · replace hn : ([10, a1, 0, 0, a4, a5, 0, 0, 0, 0, 0, 0] : List Int) = [10, a1, a2, a3, a4, a5, a6, a7, a8, a9, a10, a11] := hn
        simp only [List.cons.injEq, true_and, and_true] at hn
        obtain ⟨rfl, rfl, rfl, rfl, rfl, rfl, rfl, rfl⟩ := hn
        exact rput_10 a1 a4 a5 h1 h4 h5 w
      · replace hn : ([11, a1, 0, 0, a4, 0, a6, 0, a8, a9, a10, a11] : List Int) = [11, a1, a2, a3, a4, a5, a6, a7, a8, a9, a10, a11] := hn
        simp only [List.cons.injEq, true_and, and_true] at hn
        obtain ⟨rfl, rfl, rfl, rfl⟩ := hn
        exact rput_11 a1 a4 a6 a8 a9 a10 a11 h1 h4 (by simpa using h6) h8 h9 h10 h11 w
    · exact rput_unlike a0 a1 a2 a3 a4 a5 a6 a7 a8 a9 a10 a11 h7 hf hn w
theorem rput_any (l : List Int) (hl : IsMsgL l) (w : World) : Calls Tryd.prog 25 #[.agg (msgV l)] w (RPutP l w) := by
  obtain ⟨h1, h7⟩ := hl
  match l, h1 with
  | [a0, a1, a2, a3, a4, a5, a6, a7, a8, a9, a10, a11], _ => exact rput_lit a0 a1 a2 a3 a4 a5 a6 a7 a8 a9 a10 a11 h7 w
end Go.Proofs.YtapednkmefbldaaDoor
