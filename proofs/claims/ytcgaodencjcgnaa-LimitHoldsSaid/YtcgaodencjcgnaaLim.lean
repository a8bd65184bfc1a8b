/- Contracts of package limit: Step, Hold. -/
import Derived.Test.YtcgaodencjcgnaaEq
import Derived.Test.YtcgaodencjcgnaaNum
import Derived.Test.YtcgaodencjcgnaaRowW
import Derived.RegionTactic
import Derived.BigRegion
import Derived.Deep.RegionWith
namespace Go.Proofs.Ytcgaodencjcgnaa
open Go.RowKit

def InI (n : Int) : Prop := -9223372036854775808 ≤ n ∧ n ≤ 9223372036854775807
theorem toward_in {n a r : Int} (hn : InI n) (ha : InI a) (hr : InI r) : InI (toward n a r) := by
  unfold InI toward at *
  repeat' split
  all_goals omega
theorem agg_point : AggT Try.prog 36 12 := ⟨⟨_, Try.underlying36, rfl⟩, by kernel_rfl⟩
set_option maxRecDepth 100000 in
set_option maxHeartbeats 4000000 in
theorem step_any (f : Nat → Value) (c a0 a1 a2 a3 n0 n1 n2 n3 ru so se r : Int) (w : World) (hr : f 54 = .int .i64 r) (ir : InI r) (ia0 : InI a0) (ia1 : InI a1) (ia2 : InI a2) (ia3 : InI a3) (in0 : InI n0) (in1 : InI n1) (in2 : InI n2) (in3 : InI n3) (b : Bool) (hm : decide ((toward n0 a0 r) = n0 ∧ (toward n1 a1 r) = n1 ∧ (toward n2 a2 r) = n2 ∧ (toward n3 a3 r) = n3) = b) :
    Calls Try.prog 12 #[.agg (mkc 56 f), .agg #[.int .i64 c, .int .i64 a0, .int .i64 a1, .int .i64 a2, .int .i64 a3, .int .i64 n0, .int .i64 n1, .int .i64 n2, .int .i64 n3, .int .i64 ru, .int .i64 so, .int .i64 se]] w fun e w' => e = .returned (.agg #[.int .i64 c, .int .i64 a0, .int .i64 a1, .int .i64 a2, .int .i64 a3, .int .i64 (toward n0 a0 r), .int .i64 (toward n1 a1 r), .int .i64 (toward n2 a2 r), .int .i64 (toward n3 a3 r), .int .i64 (if b then ru else 4), .int .i64 so, .int .i64 se]) ∧ Below w.heap.size w w' := by
  have j0 : ∀ w, (Instr.index 29 (.agg #[.int .i64 a0, .int .i64 a1, .int .i64 a2, .int .i64 a3]) (.int .i64 0)).run Try.prog w = .ok (.int .i64 a0) w := fun _ => by kernel_rfl
  have j1 : ∀ w, (Instr.index 29 (.agg #[.int .i64 a0, .int .i64 a1, .int .i64 a2, .int .i64 a3]) (.int .i64 1)).run Try.prog w = .ok (.int .i64 a1) w := fun _ => by kernel_rfl
  have j2 : ∀ w, (Instr.index 29 (.agg #[.int .i64 a0, .int .i64 a1, .int .i64 a2, .int .i64 a3]) (.int .i64 2)).run Try.prog w = .ok (.int .i64 a2) w := fun _ => by kernel_rfl
  have j3 : ∀ w, (Instr.index 29 (.agg #[.int .i64 a0, .int .i64 a1, .int .i64 a2, .int .i64 a3]) (.int .i64 3)).run Try.prog w = .ok (.int .i64 a3) w := fun _ => by kernel_rfl
  have C0 := Lib.hid (toward_any n0 a0 r · in0.1 in0.2 ia0.1 ia0.2 ir.1 ir.2)
  have C1 := Lib.hid (toward_any n1 a1 r · in1.1 in1.2 ia1.1 ia1.2 ir.1 ir.2)
  have C2 := Lib.hid (toward_any n2 a2 r · in2.1 in2.2 ia2.1 ia2.2 ir.1 ir.2)
  have C3 := Lib.hid (toward_any n3 a3 r · in3.1 in3.2 ia3.1 ia3.2 ir.1 ir.2)
  have HM := Lib.hid hm
  have hneq := run_neq_four (toward n0 a0 r) (toward n1 a1 r) (toward n2 a2 r) (toward n3 a3 r) n0 n1 n2 n3
  rw [hm] at hneq
  clear hm
  have hl : (54 : Nat) < 56 := by omega
  clear ir ia0 ia1 ia2 ia3 in0 in1 in2 in3
  go_enter Try.func12, Try.ntmps12
  go_wp2_with fail
  go_loopw [12] (fun y wr => ∃ k : Int, y = .int .i64 k ∧ 0 ≤ k ∧ k ≤ 4 ∧ wr.heap[w.heap.size]? = some (.cells (mkc 56 f) 32 (0, 0)) ∧ wr.heap[w.heap.size + 1]? = some (.cells (if k = 0 then #[.int .i64 c, .int .i64 a0, .int .i64 a1, .int .i64 a2, .int .i64 a3, .int .i64 n0, .int .i64 n1, .int .i64 n2, .int .i64 n3, .int .i64 ru, .int .i64 so, .int .i64 se] else if k = 1 then #[.int .i64 c, .int .i64 a0, .int .i64 a1, .int .i64 a2, .int .i64 a3, .int .i64 (toward n0 a0 r), .int .i64 n1, .int .i64 n2, .int .i64 n3, .int .i64 ru, .int .i64 so, .int .i64 se] else if k = 2 then #[.int .i64 c, .int .i64 a0, .int .i64 a1, .int .i64 a2, .int .i64 a3, .int .i64 (toward n0 a0 r), .int .i64 (toward n1 a1 r), .int .i64 n2, .int .i64 n3, .int .i64 ru, .int .i64 so, .int .i64 se] else if k = 3 then #[.int .i64 c, .int .i64 a0, .int .i64 a1, .int .i64 a2, .int .i64 a3, .int .i64 (toward n0 a0 r), .int .i64 (toward n1 a1 r), .int .i64 (toward n2 a2 r), .int .i64 n3, .int .i64 ru, .int .i64 so, .int .i64 se] else #[.int .i64 c, .int .i64 a0, .int .i64 a1, .int .i64 a2, .int .i64 a3, .int .i64 (toward n0 a0 r), .int .i64 (toward n1 a1 r), .int .i64 (toward n2 a2 r), .int .i64 (toward n3 a3 r), .int .i64 ru, .int .i64 so, .int .i64 se]) 36 (0, 0)) ∧ wr.heap[w.heap.size + 1 + 1]? = some (.cells #[.int .i64 0, .int .i64 0, .int .i64 0, .int .i64 0, .int .i64 0, .int .i64 0, .int .i64 0, .int .i64 0, .int .i64 0, .int .i64 0, .int .i64 0, .int .i64 0] 36 (0, 0)) ∧ wr.heap[w.heap.size + 1 + 1 + 1]? = some (.cells #[.int .i64 n0, .int .i64 n1, .int .i64 n2, .int .i64 n3] 29 (0, 0)) ∧ Below w.heap.size w wr) (fun y _ => 4 - (intOf y).toNat)
  case atStart =>
    refine ⟨0, rfl, by omega, by omega, ?_, ?_, ?_, ?_, ?_⟩
    · exact blk_below (blk_below (heap_alloc2_old w _ _) (below_alloc1 _ _)) (below_alloc1 _ _)
    · exact blk_below (blk_below (heap_alloc2_new w _ _) (below_alloc1 _ _)) (below_alloc1 _ _)
    · exact blk_below (by have := heap_alloc_new ((w.alloc (.cells (mkc 56 f) 32)).alloc (.cells #[.int .i64 c, .int .i64 a0, .int .i64 a1, .int .i64 a2, .int .i64 a3, .int .i64 n0, .int .i64 n1, .int .i64 n2, .int .i64 n3, .int .i64 ru, .int .i64 so, .int .i64 se] 36)) (.cells #[.int .i64 0, .int .i64 0, .int .i64 0, .int .i64 0, .int .i64 0, .int .i64 0, .int .i64 0, .int .i64 0, .int .i64 0, .int .i64 0, .int .i64 0, .int .i64 0] 36); simpa using this) (below_alloc1 _ _)
    · have := heap_alloc_new (((w.alloc (.cells (mkc 56 f) 32)).alloc (.cells #[.int .i64 c, .int .i64 a0, .int .i64 a1, .int .i64 a2, .int .i64 a3, .int .i64 n0, .int .i64 n1, .int .i64 n2, .int .i64 n3, .int .i64 ru, .int .i64 so, .int .i64 se] 36)).alloc (.cells #[.int .i64 0, .int .i64 0, .int .i64 0, .int .i64 0, .int .i64 0, .int .i64 0, .int .i64 0, .int .i64 0, .int .i64 0, .int .i64 0, .int .i64 0, .int .i64 0] 36)) (.cells #[.int .i64 n0, .int .i64 n1, .int .i64 n2, .int .i64 n3] 29)
      simpa using this
    · exact bt (below_alloc3 w _ _ _) (below_alloc1 _ _)
  case round =>
    obtain ⟨k, rfl, k0, k4, hp, hq, hz, hn, hb⟩ := hrel
    have HP := Lib.hid hp
    have HN := Lib.hid hn
    have HB := Lib.hid hb
    have HZ := Lib.hid hz
    obtain ⟨cP, -⟩ := blk_cells hp
    obtain ⟨cN, -⟩ := blk_cells hn
    clear hp hn hb hz
    rcases (show k = 0 ∨ k = 1 ∨ k = 2 ∨ k = 3 ∨ k = 4 by omega) with rfl | rfl | rfl | rfl | rfl
    · simp only [if_true, reduceIte] at hq
      obtain ⟨cQ, fQ⟩ := blk_cells hq
      have HQ := Lib.hid hq
      clear hq hneq
      go_wp2_with fail
      go_region_with (go_at_call 10; ((with_reducible refine (C0.out _).mono ?_)); rintro e w1 ⟨rfl, rfl⟩)
      go_wp2_with fail
      all_goals
        refine ⟨⟨1, rfl, by omega, by omega, ?_, ?_, ?_, ?_, ?_⟩, by simp [intOf]⟩
        · show (wr.setCell _ _).heap[_]? = _
          rw [Below.heap_setCell _ _ _ _ (by simp only; omega)]; exact HP.out
        · show (wr.setCell _ _).heap[_]? = _
          rw [heap_set HQ.out 5 _]; rfl
        · show (wr.setCell _ _).heap[_]? = _
          rw [Below.heap_setCell _ _ _ _ (by simp only; omega)]; exact HZ.out
        · show (wr.setCell _ _).heap[_]? = _
          rw [Below.heap_setCell _ _ _ _ (by simp only; omega)]; exact HN.out
        · exact (HB.out.setCell (p := ⟨w.heap.size + 1, 5, none⟩) (by simp only; omega) _).drew
    · simp only [show ¬ ((1 : Int) = 0) from by omega, if_false, if_true, reduceIte] at hq
      obtain ⟨cQ, fQ⟩ := blk_cells hq
      have HQ := Lib.hid hq
      clear hq hneq
      go_wp2_with fail
      go_region_with (go_at_call 10; ((with_reducible refine (C1.out _).mono ?_)); rintro e w1 ⟨rfl, rfl⟩)
      go_wp2_with fail
      all_goals
        refine ⟨⟨2, rfl, by omega, by omega, ?_, ?_, ?_, ?_, ?_⟩, by simp [intOf]⟩
        · show (wr.setCell _ _).heap[_]? = _
          rw [Below.heap_setCell _ _ _ _ (by simp only; omega)]; exact HP.out
        · show (wr.setCell _ _).heap[_]? = _
          rw [heap_set HQ.out 6 _]; rfl
        · show (wr.setCell _ _).heap[_]? = _
          rw [Below.heap_setCell _ _ _ _ (by simp only; omega)]; exact HZ.out
        · show (wr.setCell _ _).heap[_]? = _
          rw [Below.heap_setCell _ _ _ _ (by simp only; omega)]; exact HN.out
        · exact (HB.out.setCell (p := ⟨w.heap.size + 1, 6, none⟩) (by simp only; omega) _).drew
    · simp only [show ¬ ((2 : Int) = 0) from by omega, show ¬ ((2 : Int) = 1) from by omega, if_false, if_true, reduceIte] at hq
      obtain ⟨cQ, fQ⟩ := blk_cells hq
      have HQ := Lib.hid hq
      clear hq hneq
      go_wp2_with fail
      go_region_with (go_at_call 10; ((with_reducible refine (C2.out _).mono ?_)); rintro e w1 ⟨rfl, rfl⟩)
      go_wp2_with fail
      all_goals
        refine ⟨⟨3, rfl, by omega, by omega, ?_, ?_, ?_, ?_, ?_⟩, by simp [intOf]⟩
        · show (wr.setCell _ _).heap[_]? = _
          rw [Below.heap_setCell _ _ _ _ (by simp only; omega)]; exact HP.out
        · show (wr.setCell _ _).heap[_]? = _
          rw [heap_set HQ.out 7 _]; rfl
        · show (wr.setCell _ _).heap[_]? = _
          rw [Below.heap_setCell _ _ _ _ (by simp only; omega)]; exact HZ.out
        · show (wr.setCell _ _).heap[_]? = _
          rw [Below.heap_setCell _ _ _ _ (by simp only; omega)]; exact HN.out
        · exact (HB.out.setCell (p := ⟨w.heap.size + 1, 7, none⟩) (by simp only; omega) _).drew
    · simp only [show ¬ ((3 : Int) = 0) from by omega, show ¬ ((3 : Int) = 1) from by omega, show ¬ ((3 : Int) = 2) from by omega, if_false, if_true, reduceIte] at hq
      obtain ⟨cQ, fQ⟩ := blk_cells hq
      have HQ := Lib.hid hq
      clear hq hneq
      go_wp2_with fail
      go_region_with (go_at_call 10; ((with_reducible refine (C3.out _).mono ?_)); rintro e w1 ⟨rfl, rfl⟩)
      go_wp2_with fail
      all_goals
        refine ⟨⟨4, rfl, by omega, by omega, ?_, ?_, ?_, ?_, ?_⟩, by simp [intOf]⟩
        · show (wr.setCell _ _).heap[_]? = _
          rw [Below.heap_setCell _ _ _ _ (by simp only; omega)]; exact HP.out
        · show (wr.setCell _ _).heap[_]? = _
          rw [heap_set HQ.out 8 _]; rfl
        · show (wr.setCell _ _).heap[_]? = _
          rw [Below.heap_setCell _ _ _ _ (by simp only; omega)]; exact HZ.out
        · show (wr.setCell _ _).heap[_]? = _
          rw [Below.heap_setCell _ _ _ _ (by simp only; omega)]; exact HN.out
        · exact (HB.out.setCell (p := ⟨w.heap.size + 1, 8, none⟩) (by simp only; omega) _).drew
    · simp only [show ¬ ((4 : Int) = 0) from by omega, show ¬ ((4 : Int) = 1) from by omega, show ¬ ((4 : Int) = 2) from by omega, show ¬ ((4 : Int) = 3) from by omega, if_false, if_true, reduceIte] at hq
      obtain ⟨cQ, fQ⟩ := blk_cells hq
      have HQ := Lib.hid hq
      clear hq j0 j1 j2 j3 C0 C1 C2 C3
      cases b
      · have hz' : (wr.setCell ⟨w.heap.size + 1, 9, none⟩ (.int .i64 4)).heap[w.heap.size + 1 + 1]? = _ := (Below.heap_setCell _ _ _ _ (by simp only; omega)).trans HZ.out
        have HZ := Lib.hid hz'
        have HB := Lib.hid (HB.out.setCell (p := ⟨w.heap.size + 1, 9, none⟩) (by simp only; omega) (.int .i64 4))
        clear hz'
        go_wp2_with ((with_reducible show wpList _ _ _ (⟨none, .store 36 (.tmp 4) _, _, _, _, _⟩ :: _) _ _); (with_reducible refine wpRow_store (cs := #[.int .i64 c, .int .i64 a0, .int .i64 a1, .int .i64 a2, .int .i64 a3, .int .i64 (toward n0 a0 r), .int .i64 (toward n1 a1 r), .int .i64 (toward n2 a2 r), .int .i64 (toward n3 a3 r), .int .i64 4, .int .i64 so, .int .i64 se]) agg_point ?_ ?_ HZ ?_ ?_ ?_ ?_); (· exact wanted0 rfl); (· exact ⟨rfl, rfl, rfl⟩); (· rfl); (· rfl); (· (simp [Value.oneCell']; done)))
        refine bodyPost_ret (v := .agg #[.int .i64 c, .int .i64 a0, .int .i64 a1, .int .i64 a2, .int .i64 a3, .int .i64 (toward n0 a0 r), .int .i64 (toward n1 a1 r), .int .i64 (toward n2 a2 r), .int .i64 (toward n3 a3 r), .int .i64 4, .int .i64 so, .int .i64 se]) ?_ rfl ⟨rfl, below_setRow HB.out (by omega) _⟩
        exact results_row agg_point rfl _ _ (w.heap.size + 1 + 1) _ rfl (setRow_heap _ _ _ _ _ _ HZ.out) rfl
      · go_wp2_with ((with_reducible show wpList _ _ _ (⟨none, .store 36 (.tmp 4) _, _, _, _, _⟩ :: _) _ _); (with_reducible refine wpRow_store (cs := #[.int .i64 c, .int .i64 a0, .int .i64 a1, .int .i64 a2, .int .i64 a3, .int .i64 (toward n0 a0 r), .int .i64 (toward n1 a1 r), .int .i64 (toward n2 a2 r), .int .i64 (toward n3 a3 r), .int .i64 ru, .int .i64 so, .int .i64 se]) agg_point ?_ ?_ HZ ?_ ?_ ?_ ?_); (· exact wanted0 rfl); (· exact ⟨rfl, rfl, rfl⟩); (· rfl); (· rfl); (· (simp [Value.oneCell']; done)))
        refine bodyPost_ret (v := .agg #[.int .i64 c, .int .i64 a0, .int .i64 a1, .int .i64 a2, .int .i64 a3, .int .i64 (toward n0 a0 r), .int .i64 (toward n1 a1 r), .int .i64 (toward n2 a2 r), .int .i64 (toward n3 a3 r), .int .i64 ru, .int .i64 so, .int .i64 se]) ?_ rfl ⟨rfl, below_setRow HB.out (by omega) _⟩
        exact results_row agg_point rfl _ _ (w.heap.size + 1 + 1) _ rfl (setRow_heap _ _ _ _ _ _ HZ.out) rfl
end Go.Proofs.Ytcgaodencjcgnaa
