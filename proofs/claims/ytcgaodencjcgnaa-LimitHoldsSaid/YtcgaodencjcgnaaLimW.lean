/- The head of the limit laws. -/
import Derived.Test.YtcgaodencjcgnaaLimS
import Derived.Test.YtcgaodencjcgnaaConf
namespace Go.Proofs.Ytcgaodencjcgnaa
open Go.RowKit

theorem step_s0 (w : World) : Calls Try.prog 12 #[.agg (mkc 56 q21), .agg #[.int .i64 1, .int .i64 0, .int .i64 100, .int .i64 0, .int .i64 0, .int .i64 0, .int .i64 0, .int .i64 0, .int .i64 0, .int .i64 1, .int .i64 2, .int .i64 9]] w fun e w' => e = .returned (.agg #[.int .i64 1, .int .i64 0, .int .i64 100, .int .i64 0, .int .i64 0, .int .i64 0, .int .i64 30, .int .i64 0, .int .i64 0, .int .i64 4, .int .i64 2, .int .i64 9]) ∧ Below w.heap.size w w' := by
  have i0 : ∀ n : Int, 0 ≤ n → n ≤ 1000 → InI n := fun n h1 h2 => ⟨by omega, by omega⟩
  have t0 : toward 0 0 30 = 0 := rfl
  have t1 : toward 0 100 30 = 30 := rfl
  have h := step_any q21 1 0 100 0 0 0 0 0 0 1 2 9 30 w rfl (i0 _ (by omega) (by omega)) (i0 _ (by omega) (by omega)) (i0 _ (by omega) (by omega)) (i0 _ (by omega) (by omega)) (i0 _ (by omega) (by omega)) (i0 _ (by omega) (by omega)) (i0 _ (by omega) (by omega)) (i0 _ (by omega) (by omega)) (i0 _ (by omega) (by omega)) false (by rw [t0, t1]; decide)
  rw [t0, t1] at h
  exact h
theorem step_s1 (w : World) : Calls Try.prog 12 #[.agg (mkc 56 q21), .agg #[.int .i64 1, .int .i64 0, .int .i64 100, .int .i64 0, .int .i64 0, .int .i64 0, .int .i64 30, .int .i64 0, .int .i64 0, .int .i64 4, .int .i64 2, .int .i64 9]] w fun e w' => e = .returned (.agg #[.int .i64 1, .int .i64 0, .int .i64 100, .int .i64 0, .int .i64 0, .int .i64 0, .int .i64 60, .int .i64 0, .int .i64 0, .int .i64 4, .int .i64 2, .int .i64 9]) ∧ Below w.heap.size w w' := by
  have i0 : ∀ n : Int, 0 ≤ n → n ≤ 1000 → InI n := fun n h1 h2 => ⟨by omega, by omega⟩
  have t0 : toward 0 0 30 = 0 := rfl
  have t1 : toward 30 100 30 = 60 := rfl
  have h := step_any q21 1 0 100 0 0 0 30 0 0 4 2 9 30 w rfl (i0 _ (by omega) (by omega)) (i0 _ (by omega) (by omega)) (i0 _ (by omega) (by omega)) (i0 _ (by omega) (by omega)) (i0 _ (by omega) (by omega)) (i0 _ (by omega) (by omega)) (i0 _ (by omega) (by omega)) (i0 _ (by omega) (by omega)) (i0 _ (by omega) (by omega)) false (by rw [t0, t1]; decide)
  rw [t0, t1] at h
  exact h
theorem step_s2 (w : World) : Calls Try.prog 12 #[.agg (mkc 56 q21), .agg #[.int .i64 1, .int .i64 0, .int .i64 100, .int .i64 0, .int .i64 0, .int .i64 0, .int .i64 60, .int .i64 0, .int .i64 0, .int .i64 4, .int .i64 2, .int .i64 9]] w fun e w' => e = .returned (.agg #[.int .i64 1, .int .i64 0, .int .i64 100, .int .i64 0, .int .i64 0, .int .i64 0, .int .i64 90, .int .i64 0, .int .i64 0, .int .i64 4, .int .i64 2, .int .i64 9]) ∧ Below w.heap.size w w' := by
  have i0 : ∀ n : Int, 0 ≤ n → n ≤ 1000 → InI n := fun n h1 h2 => ⟨by omega, by omega⟩
  have t0 : toward 0 0 30 = 0 := rfl
  have t1 : toward 60 100 30 = 90 := rfl
  have h := step_any q21 1 0 100 0 0 0 60 0 0 4 2 9 30 w rfl (i0 _ (by omega) (by omega)) (i0 _ (by omega) (by omega)) (i0 _ (by omega) (by omega)) (i0 _ (by omega) (by omega)) (i0 _ (by omega) (by omega)) (i0 _ (by omega) (by omega)) (i0 _ (by omega) (by omega)) (i0 _ (by omega) (by omega)) (i0 _ (by omega) (by omega)) false (by rw [t0, t1]; decide)
  rw [t0, t1] at h
  exact h
theorem step_s3 (w : World) : Calls Try.prog 12 #[.agg (mkc 56 q21), .agg #[.int .i64 1, .int .i64 0, .int .i64 100, .int .i64 0, .int .i64 0, .int .i64 0, .int .i64 90, .int .i64 0, .int .i64 0, .int .i64 4, .int .i64 2, .int .i64 9]] w fun e w' => e = .returned (.agg #[.int .i64 1, .int .i64 0, .int .i64 100, .int .i64 0, .int .i64 0, .int .i64 0, .int .i64 100, .int .i64 0, .int .i64 0, .int .i64 4, .int .i64 2, .int .i64 9]) ∧ Below w.heap.size w w' := by
  have i0 : ∀ n : Int, 0 ≤ n → n ≤ 1000 → InI n := fun n h1 h2 => ⟨by omega, by omega⟩
  have t0 : toward 0 0 30 = 0 := rfl
  have t1 : toward 90 100 30 = 100 := rfl
  have h := step_any q21 1 0 100 0 0 0 90 0 0 4 2 9 30 w rfl (i0 _ (by omega) (by omega)) (i0 _ (by omega) (by omega)) (i0 _ (by omega) (by omega)) (i0 _ (by omega) (by omega)) (i0 _ (by omega) (by omega)) (i0 _ (by omega) (by omega)) (i0 _ (by omega) (by omega)) (i0 _ (by omega) (by omega)) (i0 _ (by omega) (by omega)) false (by rw [t0, t1]; decide)
  rw [t0, t1] at h
  exact h
theorem step_s4 (w : World) : Calls Try.prog 12 #[.agg (mkc 56 q21), .agg #[.int .i64 1, .int .i64 0, .int .i64 100, .int .i64 0, .int .i64 0, .int .i64 0, .int .i64 100, .int .i64 0, .int .i64 0, .int .i64 4, .int .i64 2, .int .i64 9]] w fun e w' => e = .returned (.agg #[.int .i64 1, .int .i64 0, .int .i64 100, .int .i64 0, .int .i64 0, .int .i64 0, .int .i64 100, .int .i64 0, .int .i64 0, .int .i64 4, .int .i64 2, .int .i64 9]) ∧ Below w.heap.size w w' := by
  have i0 : ∀ n : Int, 0 ≤ n → n ≤ 1000 → InI n := fun n h1 h2 => ⟨by omega, by omega⟩
  have t0 : toward 0 0 30 = 0 := rfl
  have t1 : toward 100 100 30 = 100 := rfl
  have h := step_any q21 1 0 100 0 0 0 100 0 0 4 2 9 30 w rfl (i0 _ (by omega) (by omega)) (i0 _ (by omega) (by omega)) (i0 _ (by omega) (by omega)) (i0 _ (by omega) (by omega)) (i0 _ (by omega) (by omega)) (i0 _ (by omega) (by omega)) (i0 _ (by omega) (by omega)) (i0 _ (by omega) (by omega)) (i0 _ (by omega) (by omega)) true (by rw [t0, t1]; decide)
  rw [t0, t1] at h
  exact h
theorem agg_pol : AggT Try.prog 32 56 := ⟨⟨_, Try.underlying32, rfl⟩, by kernel_rfl⟩
def R5 (W : World) (i : Nat) (v : Value) (w : World) : Prop := match i with
  | 0 => v = .agg (mkc 56 q21)
  | 1 => v = .agg (mkc 56 q21)
  | 2 => v = .agg (mkc 56 q21)
  | 3 => v = .agg #[.int .i64 1, .int .i64 0, .int .i64 100, .int .i64 0, .int .i64 0, .int .i64 0, .int .i64 30, .int .i64 0, .int .i64 0, .int .i64 4, .int .i64 2, .int .i64 9]
  | 4 => v = .agg #[.int .i64 1, .int .i64 0, .int .i64 100, .int .i64 0, .int .i64 0, .int .i64 0, .int .i64 60, .int .i64 0, .int .i64 0, .int .i64 4, .int .i64 2, .int .i64 9]
  | 5 => v = .agg #[.int .i64 1, .int .i64 0, .int .i64 100, .int .i64 0, .int .i64 0, .int .i64 0, .int .i64 90, .int .i64 0, .int .i64 0, .int .i64 4, .int .i64 2, .int .i64 9]
  | 6 => v = .agg #[.int .i64 1, .int .i64 0, .int .i64 100, .int .i64 0, .int .i64 0, .int .i64 0, .int .i64 100, .int .i64 0, .int .i64 0, .int .i64 4, .int .i64 2, .int .i64 9]
  | 7 => ∃ g, v = .pointer (some ⟨g, 0, none⟩) ∧ W.heap.size ≤ g ∧ w.heap[g]? = some (.cells #[.int .i64 0, .int .i64 0, .int .i64 0, .int .i64 0, .int .i64 0, .int .i64 0, .int .i64 0, .int .i64 0, .int .i64 0, .int .i64 0, .int .i64 0, .int .i64 0] 36 (0, 0))
  | _ => True
theorem R5_keep (W : World) : ∀ i v w w', i < 8 → R5 W i v w → Below w.heap.size w w' → R5 W i v w' := by
  intro i v w w' hi h hb
  match i, hi with
  | 0, _ | 1, _ | 2, _ | 3, _ | 4, _ | 5, _ | 6, _ => exact h
  | 7, _ =>
    obtain ⟨g, e1, e2, e3⟩ := h
    exact ⟨g, e1, e2, blk_below e3 hb⟩
set_option maxRecDepth 100000 in
set_option maxHeartbeats 1600000 in
theorem shown21 (w : World) : Calls Try.prog 11 #[] w fun e w' => e = .returned (.bool true) ∧ Below w.heap.size w w' := by
  go_enter Try.func11, Try.ntmps11
  go_wp2_with ((with_reducible show wpList _ _ _ (⟨some 7, _, _, _, _, _⟩ :: _) _ _); refine Marker.mk ?_)
  refine Marker.in ?_
  refine wpList_build' rfl 32 #[(17, .tmp 6), (18, .const (.int .i64 30))] rfl (mkc 56 q21) built_21 ?_
  go_wp2_with ((with_reducible show wpList _ _ _ (⟨_, .alloc 32, _, _, _, _⟩ :: _) _ _); refine wpList_alloc_pol rfl rfl ?_; refine Marker.mk ?_)
  refine Marker.in ?_
  go_wp2_with ((with_reducible show wpList _ _ _ (⟨_, .store 32 _ _, _, _, _, _⟩ :: _) _ _); refine wpList_store_pol rfl (.tmp 1) (.tmp 7) rfl _ _ _ rfl rfl rfl q21_one ?_; refine Marker.mk ?_)
  have HP := Lib.hid (heap_alloc_new w (.cells (mkc 56 q21) 32))
  have HB := Lib.hid (below_alloc1 w (.cells (mkc 56 q21) 32))
  refine Marker.in ?_
  have HP := Lib.hid (blk_below HP.out (below_alloc1 _ (.cells #[.int .i64 1, .int .i64 2, .int .i64 9] 34)))
  go_wp2_with (first
    | ((with_reducible show wpList _ _ _ (⟨_, .load 32 _, _, _, _, none⟩ :: _) _ _); (with_reducible refine wpList_load_at ?_ ?_ HP ?_); (· exact wanted_none rfl); (· exact ⟨rfl, rfl⟩); refine Marker.mk ?_)
    | fail)
  refine Marker.in ?_
  go_wp2_with fail
  ((with_reducible refine (set_shown _).mono ?_))
  rintro e w1 ⟨rfl, b1⟩
  have HL := Lib.hid (blk_below (heap_alloc_new _ _) b1)
  have HP := Lib.hid (blk_below HP.out b1)
  have HB := Lib.hid (bt (bt HB.out (below_alloc1 _ _)) b1)
  have HP := Lib.hid (blk_below HP.out (below_alloc1 _ (.cells #[.int .i64 1, .int .i64 0, .int .i64 100, .int .i64 0, .int .i64 0, .int .i64 0, .int .i64 0, .int .i64 0, .int .i64 0, .int .i64 1, .int .i64 2, .int .i64 9] 36)))
  clear b1
  go_wp2_with (first
    | ((with_reducible show wpList _ _ _ (⟨_, .load 32 _, _, _, _, none⟩ :: _) _ _); (with_reducible refine wpList_load_at ?_ ?_ HP ?_); (· exact wanted_none rfl); (· exact ⟨rfl, rfl⟩))
    | (go_at_call 12; ((with_reducible refine (step_s0 _).mono ?_)); rintro e w2 ⟨rfl, b2⟩; refine Marker.mk ?_))
  have HA := Lib.hid (blk_below (heap_alloc_new w1 (.cells #[.int .i64 1, .int .i64 0, .int .i64 100, .int .i64 0, .int .i64 0, .int .i64 0, .int .i64 0, .int .i64 0, .int .i64 0, .int .i64 1, .int .i64 2, .int .i64 9] 36)) b2)
  have HL := Lib.hid (blk_below (blk_below HL.out (below_alloc1 w1 (.cells #[.int .i64 1, .int .i64 0, .int .i64 100, .int .i64 0, .int .i64 0, .int .i64 0, .int .i64 0, .int .i64 0, .int .i64 0, .int .i64 1, .int .i64 2, .int .i64 9] 36))) b2)
  have HP := Lib.hid (blk_below HP.out b2)
  have HB := Lib.hid (bt (bt HB.out (below_alloc1 w1 (.cells #[.int .i64 1, .int .i64 0, .int .i64 100, .int .i64 0, .int .i64 0, .int .i64 0, .int .i64 0, .int .i64 0, .int .i64 0, .int .i64 1, .int .i64 2, .int .i64 9] 36))) b2)
  clear b2
  have bw := below_alloc1 w2 (.cells #[.int .i64 1, .int .i64 0, .int .i64 100, .int .i64 0, .int .i64 0, .int .i64 0, .int .i64 30, .int .i64 0, .int .i64 0, .int .i64 4, .int .i64 2, .int .i64 9] 36)
  have HC := Lib.hid (heap_alloc_new w2 (.cells #[.int .i64 1, .int .i64 0, .int .i64 100, .int .i64 0, .int .i64 0, .int .i64 0, .int .i64 30, .int .i64 0, .int .i64 0, .int .i64 4, .int .i64 2, .int .i64 9] 36))
  have HA := Lib.hid (blk_below HA.out bw)
  have HL := Lib.hid (blk_below HL.out bw)
  have HP := Lib.hid (blk_below HP.out bw)
  replace HB := Lib.hid (bt HB.out bw)
  clear bw
  refine Marker.in ?_
  go_wp2_with fail
  generalize w2.alloc (.cells #[.int .i64 1, .int .i64 0, .int .i64 100, .int .i64 0, .int .i64 0, .int .i64 0, .int .i64 30, .int .i64 0, .int .i64 0, .int .i64 4, .int .i64 2, .int .i64 9] 36) = w5 at *
  refine wp_region_conf' (by kernel_rfl) 8 (by kernel_rfl) (by simp) (by decide) (R5 w5) (R5_keep w5) ?_ ?_
  · simp only [ConfSteps, List.take_succ_cons, List.take_zero, putAll, Act.put, List.setIfInBounds_toArray, List.set_cons_succ, List.set_cons_zero, and_true]
    refine ⟨?_, ?_, ?_, ?_, ?_, ?_, ?_, ?_⟩
    · intro x w' hb hd
      refine conf_load (g := w.heap.size) (cs := mkc 56 q21) agg_pol (wanted0 rfl) ?_ (blk_below HP.out hb) (mkc_size _ _) rfl
      exact ⟨rfl, rfl⟩
    · intro x w' hb hd
      refine conf_load (g := w.heap.size) (cs := mkc 56 q21) agg_pol (wanted0 rfl) ?_ (blk_below HP.out hb) (mkc_size _ _) rfl
      exact ⟨rfl, rfl⟩
    · intro x w' hb hd
      refine conf_load (g := w.heap.size) (cs := mkc 56 q21) agg_pol (wanted0 rfl) ?_ (blk_below HP.out hb) (mkc_size _ _) rfl
      exact ⟨rfl, rfl⟩
    · intro x w' hb hd
      refine conf_load (g := w2.heap.size) agg_point (wanted0 rfl) ?_ (blk_below HC.out hb) rfl rfl
      exact ⟨rfl, rfl⟩
    · intro x w' hb hd
      have d1 : x 2 = _ := hd ⟨2, .data⟩ (by simp) rfl
      have d2 : x 3 = _ := hd ⟨3, .data⟩ (by simp) rfl
      refine conf_call (f := 12) (args := #[x 2, x 3]) (wanted0 rfl) (by simp [go_sem]) ?_
      rw [d1, d2]
      exact (step_s1 w').mono fun e w'' ⟨he, hb'⟩ => ⟨_, he, hb', rfl⟩
    · intro x w' hb hd
      have d1 : x 1 = _ := hd ⟨1, .data⟩ (by simp) rfl
      have d2 : x 4 = _ := hd ⟨4, .data⟩ (by simp) rfl
      refine conf_call (f := 12) (args := #[x 1, x 4]) (wanted0 rfl) (by simp [go_sem]) ?_
      rw [d1, d2]
      exact (step_s2 w').mono fun e w'' ⟨he, hb'⟩ => ⟨_, he, hb', rfl⟩
    · intro x w' hb hd
      have d1 : x 0 = _ := hd ⟨0, .data⟩ (by simp) rfl
      have d2 : x 5 = _ := hd ⟨5, .data⟩ (by simp) rfl
      refine conf_call (f := 12) (args := #[x 0, x 5]) (wanted0 rfl) (by simp [go_sem]) ?_
      rw [d1, d2]
      exact (step_s3 w').mono fun e w'' ⟨he, hb'⟩ => ⟨_, he, hb', rfl⟩
    · intro x w' hb hd
      refine conf_make (v := .pointer (some ⟨w'.heap.size, 0, none⟩)) (w' := w'.alloc (.cells #[.int .i64 0, .int .i64 0, .int .i64 0, .int .i64 0, .int .i64 0, .int .i64 0, .int .i64 0, .int .i64 0, .int .i64 0, .int .i64 0, .int .i64 0, .int .i64 0] 36)) (wanted0 rfl) (by simp [go_sem]) (below_alloc1 _ _) ⟨_, rfl, hb.size, heap_alloc_new _ _⟩
  · intro x w' hb hr
    obtain ⟨g, e7, lo, hg⟩ := hr 7 (by omega)
    have e6 : x 6 = _ := hr 6 (by omega)
    simp only [List.take_succ_cons, List.take_zero, List.drop_succ_cons, List.drop_zero, putAll, Act.put, List.setIfInBounds_toArray, List.set_cons_succ, List.set_cons_zero]
    rw [e6, e7]
    have HG := Lib.hid hg
    have lo2 := HB.out.size
    replace HB := Lib.hid (bt HB.out hb)
    have gP := blk_lt HP.out
    have gL := blk_lt HL.out
    have gA := blk_lt HA.out
    have gC := blk_lt HC.out
    have HP := Lib.hid (blk_below HP.out hb)
    have HL := Lib.hid (blk_below HL.out hb)
    have HA := Lib.hid (blk_below HA.out hb)
    have HC := Lib.hid (blk_below HC.out hb)
    clear hg hr
    (with_reducible refine wpRow_store (cs := #[.int .i64 1, .int .i64 0, .int .i64 100, .int .i64 0, .int .i64 0, .int .i64 0, .int .i64 100, .int .i64 0, .int .i64 0, .int .i64 4, .int .i64 2, .int .i64 9]) agg_point ?_ ?_ HG ?_ ?_ ?_ ?_)
    · exact wanted0 rfl
    · exact ⟨rfl, rfl, rfl⟩
    · rfl
    · rfl
    · simp [Value.oneCell']
    have HP := Lib.hid ((setRow_other w' g _ #[.int .i64 1, .int .i64 0, .int .i64 100, .int .i64 0, .int .i64 0, .int .i64 0, .int .i64 100, .int .i64 0, .int .i64 0, .int .i64 4, .int .i64 2, .int .i64 9] (by omega)).trans HP.out)
    have HL := Lib.hid ((setRow_other w' g _ #[.int .i64 1, .int .i64 0, .int .i64 100, .int .i64 0, .int .i64 0, .int .i64 0, .int .i64 100, .int .i64 0, .int .i64 0, .int .i64 4, .int .i64 2, .int .i64 9] (by omega)).trans HL.out)
    have HA := Lib.hid ((setRow_other w' g _ #[.int .i64 1, .int .i64 0, .int .i64 100, .int .i64 0, .int .i64 0, .int .i64 0, .int .i64 100, .int .i64 0, .int .i64 0, .int .i64 4, .int .i64 2, .int .i64 9] (by omega)).trans HA.out)
    have HC := Lib.hid ((setRow_other w' g _ #[.int .i64 1, .int .i64 0, .int .i64 100, .int .i64 0, .int .i64 0, .int .i64 0, .int .i64 100, .int .i64 0, .int .i64 0, .int .i64 4, .int .i64 2, .int .i64 9] (by omega)).trans HC.out)
    have HG := Lib.hid (setRow_heap w' g _ #[.int .i64 1, .int .i64 0, .int .i64 100, .int .i64 0, .int .i64 0, .int .i64 0, .int .i64 100, .int .i64 0, .int .i64 0, .int .i64 4, .int .i64 2, .int .i64 9] _ _ HG.out)
    have HB := Lib.hid (below_setRow (g := g) HB.out (by omega) #[.int .i64 1, .int .i64 0, .int .i64 100, .int .i64 0, .int .i64 0, .int .i64 0, .int .i64 100, .int .i64 0, .int .i64 0, .int .i64 4, .int .i64 2, .int .i64 9])
    generalize w'.setRow g #[.int .i64 1, .int .i64 0, .int .i64 100, .int .i64 0, .int .i64 0, .int .i64 0, .int .i64 100, .int .i64 0, .int .i64 0, .int .i64 4, .int .i64 2, .int .i64 9] = w6 at *
    clear e6 e7
    go_wp2_with fail
    simp only [Act.put]
    have HL := HL.out
    rw [show (w.alloc (.cells (mkc 56 q21) 32)).heap.size = w.heap.size + 1 from by simp] at HL
    replace HL := Lib.hid HL
    have CA := exw_cell HA.out
    have CC := exw_cell HC.out
    have CG := exw_cell HG.out
    have PE : ∀ W, (binOp .eql 36 (.agg #[.int .i64 1, .int .i64 0, .int .i64 100, .int .i64 0, .int .i64 0, .int .i64 0, .int .i64 100, .int .i64 0, .int .i64 0, .int .i64 4, .int .i64 2, .int .i64 9]) (.agg #[.int .i64 1, .int .i64 0, .int .i64 100, .int .i64 0, .int .i64 0, .int .i64 0, .int .i64 100, .int .i64 0, .int .i64 0, .int .i64 4, .int .i64 2, .int .i64 9])).run Try.prog W = .ok (.bool true) W := fun _ => by kernel_rfl
    refine wp_region_ext (by kernel_rfl) (by kernel_rfl) ?_
    repeat (first
      | go_big_quiet_skip
      | (go_big_quiet_want
         first
           | (refine quiet_load_row 32 _ rfl w.heap.size (mkc 56 q21) HP _ Try.underlying32 rfl (by rw [info_pol', mkc_size]) rfl ?_; go_simp; go_big_quiet_on)
           | (refine quiet_load_row 36 _ rfl g _ HG _ Try.underlying36 rfl rfl rfl ?_; go_simp; go_big_quiet_on)
           | (refine quiet_load_row 34 _ rfl _ _ HL _ Try.underlying34 rfl rfl rfl ?_; go_simp; go_big_quiet_on)
           | (go_big_quiet_op
              first
                | go_big_quiet_on
                | go_big_quiet_call ((go_at_call 12; exact ext_of (step_s4 _))))))
    refine wpQuiet_nil ?_
    intro _ hw'
    obtain ⟨y, rfl⟩ := hw'
    replace HB := Lib.hid (bt HB.out (exw_bel y))
    generalize exw w6 y = w9 at *
    clear CA CC CG PE
    go_wp2_with fail
    go_ret
    exact ⟨rfl, HB.out⟩
end Go.Proofs.Ytcgaodencjcgnaa
