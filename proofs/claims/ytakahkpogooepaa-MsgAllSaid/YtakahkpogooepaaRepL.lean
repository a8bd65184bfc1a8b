/- msg.replied: which fields a reply's kind names. -/
import Derived.Test.YtakahkpogooepaaRepF
namespace Go.Proofs.Ytakahkpogooepaa
open Go.RowKit

def fCode : FD := ⟨2, 1, 0, 255, 5⟩
def fOct (i : Nat) : FD := ⟨3, 1, 0, 255, 6 + i⟩
def repliedOf (k : Int) : Option (List FD) :=
  if k = 129 then some [fOct 0, fOct 1, fOct 2, fOct 3, fOct 4, fOct 5, fOct 6, fOct 7] else if k = 130 then some [fRole, fTo, fEpoch] else if k = 131 then some [fSeq] else if k = 132 then some [fSeq, fCode]
  else if k = 133 then some [fEpoch] else if k = 134 ∨ k = 135 then some [fTo, fEpoch] else if k = 136 then some [fTo, fCode] else none
set_option maxRecDepth 100000 in
set_option maxHeartbeats 400000 in
theorem replied_131 (gm : Nat) (l : List Int) (w : World) (hm : Blk w gm (repV l) 40) (hk : l.getD 0 0 = 131) :
    Calls Try.prog 30 #[.pointer (some ⟨gm, 0, none⟩)] w (FieldsPost w gm [fSeq]) := by
  have c0 := hm.cell 0
  rw [repV_get _ _ (by omega), if_neg (by omega), hk] at c0
  have CF := Lib.hid (fun W => seq_any gm 1 W)
  have BB := Lib.hid (Below.refl w.heap.size w)
  clear hm hk
  go_enter Try.func30, Try.ntmps30
  go_wp2_with fail
  ((with_reducible refine (CF.out _).mono ?_))
  rintro e w1 ⟨v, rfl, ⟨gb, rfl, lb, kb⟩, b1⟩
  have FB : Hid (Below w.heap.size w (w1.alloc (.cells (flatF [(fSeq, gb)]).toArray 57))) := Lib.hid (b1.alloc b1.size _)
  have FK : Hid (FLs (w1.alloc (.cells (flatF [(fSeq, gb)]).toArray 57)) w.heap.size w1.heap.size gm [(fSeq, gb)]) := Lib.hid (fls_blk (Blk.new w1 _ 57) (fun i hi => by
    have : i = 0 := by simpa using hi
    subst this
    exact ⟨lb, Blk.alloc kb _⟩) b1.size)
  clear b1 c0 CF kb
  unfold fldV
  go_wp2_with fail
  go_ret2
  exact ⟨_, _, _, rfl, rfl, FK.out, FB.out⟩
set_option maxRecDepth 100000 in
set_option maxHeartbeats 400000 in
theorem replied_133 (gm : Nat) (l : List Int) (w : World) (hm : Blk w gm (repV l) 40) (hk : l.getD 0 0 = 133) :
    Calls Try.prog 30 #[.pointer (some ⟨gm, 0, none⟩)] w (FieldsPost w gm [fEpoch]) := by
  have c0 := hm.cell 0
  rw [repV_get _ _ (by omega), if_neg (by omega), hk] at c0
  have CF := Lib.hid (fun W => epoch_any gm 4 W)
  have BB := Lib.hid (Below.refl w.heap.size w)
  clear hm hk
  go_enter Try.func30, Try.ntmps30
  go_wp2_with fail
  ((with_reducible refine (CF.out _).mono ?_))
  rintro e w1 ⟨v, rfl, ⟨gb, rfl, lb, kb⟩, b1⟩
  have FB : Hid (Below w.heap.size w (w1.alloc (.cells (flatF [(fEpoch, gb)]).toArray 57))) := Lib.hid (b1.alloc b1.size _)
  have FK : Hid (FLs (w1.alloc (.cells (flatF [(fEpoch, gb)]).toArray 57)) w.heap.size w1.heap.size gm [(fEpoch, gb)]) := Lib.hid (fls_blk (Blk.new w1 _ 57) (fun i hi => by
    have : i = 0 := by simpa using hi
    subst this
    exact ⟨lb, Blk.alloc kb _⟩) b1.size)
  clear b1 c0 CF kb
  unfold fldV
  go_wp2_with fail
  go_ret2
  exact ⟨_, _, _, rfl, rfl, FK.out, FB.out⟩
def RF134 (base gm : Nat) (i : Nat) (v : Value) (w : World) : Prop := match i with
  | 0 => v = .pointer (some ⟨gm, 0, none⟩)
  | 1 => v = .pointer (some ⟨gm, 0, none⟩)
  | 2 => v = .pointer (some ⟨gm, 3, none⟩)
  | 3 => FV w base gm fTo v
  | 4 => v = .pointer (some ⟨gm, 0, none⟩)
  | 5 => v = .pointer (some ⟨gm, 0, none⟩)
  | 6 => v = .pointer (some ⟨gm, 4, none⟩)
  | 7 => FV w base gm fEpoch v
  | 8 => ∃ (gl : Nat) (fs : List (FD × Nat)), v = .slice (some ⟨gl, 0, none⟩) 2 2 ∧ fs.map (·.1) = [fTo, fEpoch] ∧ base ≤ gl ∧ Boxes w base gm fs ∧ Blk w gl (flatF fs).toArray 57
  | 9 => ∃ (gl : Nat) (fs : List (FD × Nat)), v = .slice (some ⟨gl, 0, none⟩) 2 2 ∧ fs.map (·.1) = [fTo, fEpoch] ∧ base ≤ gl ∧ Boxes w base gm fs ∧ Blk w gl (flatF fs).toArray 57
  | _ => v = .bool true
theorem RF134_keep (base gm : Nat) : ∀ i v w w', i < 11 → RF134 base gm i v w → BelR w w' → RF134 base gm i v w' := by
  intro i v w w' hi h hb
  unfold RF134 at *
  split at h
  case h_4 | h_8 => exact h.below hb
  case h_9 | h_10 => obtain ⟨gl, fs, e, m, lg, bx, kk⟩ := h; exact ⟨gl, fs, e, m, lg, bx.below hb, kk.below hb⟩
  all_goals exact h
set_option maxRecDepth 100000 in
set_option maxHeartbeats 800000 in
theorem replied_134 (gm : Nat) (l : List Int) (w : World) (hm : Blk w gm (repV l) 40) (hk : l.getD 0 0 = 134) :
    Calls Try.prog 30 #[.pointer (some ⟨gm, 0, none⟩)] w (FieldsPost w gm [fTo, fEpoch]) := by
  have c0 := hm.cell 0
  rw [repV_get _ _ (by omega), if_neg (by omega), hk] at c0
  have BB := Lib.hid (Below.refl w.heap.size w)
  clear hm hk
  go_enter Try.func30, Try.ntmps30
  go_wp2_with fail
  clear c0
  refine wp_region_confR' belR_kept (by kernel_rfl) 11 (by kernel_rfl) (by simp) (by decide) (RF134 w.heap.size gm) (RF134_keep _ _) ?_ ?_
  · simp only [ConfStepsR, List.take_succ_cons, List.take_zero, putAll, Act.put, List.setIfInBounds_toArray, List.set_cons_succ, List.set_cons_zero, and_true]
    refine ⟨?_, ?_, ?_, ?_, ?_, ?_, ?_, ?_, ?_, ?_, ?_⟩
    all_goals intro v w' hb hd
    · exact conf_valueR belR_kept (wanted0 rfl) (by simp [go_sem]) rfl
    · have d0 : v 0 = Value.pointer (some ⟨gm, 0, none⟩) := hd.at 0 rfl
      exact conf_valueR belR_kept (wanted0 rfl) (by simp [go_sem, d0]) rfl
    · have d1 : v 1 = Value.pointer (some ⟨gm, 0, none⟩) := hd.at 1 rfl
      exact conf_valueR belR_kept (wanted0 rfl) (by simp [go_sem, d1]) rfl
    · have d2 : v 2 = .pointer (some ⟨gm, 3, none⟩) := hd.at 2 rfl
      refine conf_callR (f := 36) (args := #[v 2]) (wanted0 rfl) (by simp [go_sem]) ?_
      rw [d2]
      exact (source_any gm 3 w').mono fun e w'' ⟨v, he, ⟨gb, e2, lb, kb⟩, hb'⟩ => ⟨v, he, hb', gb, e2, Nat.le_trans (Nat.le_trans BB.out.size hb.size) lb, kb⟩
    · exact conf_valueR belR_kept (wanted0 rfl) (by simp [go_sem]) rfl
    · have d4 : v 4 = Value.pointer (some ⟨gm, 0, none⟩) := hd.at 4 rfl
      exact conf_valueR belR_kept (wanted0 rfl) (by simp [go_sem, d4]) rfl
    · have d5 : v 5 = Value.pointer (some ⟨gm, 0, none⟩) := hd.at 5 rfl
      exact conf_valueR belR_kept (wanted0 rfl) (by simp [go_sem, d5]) rfl
    · have d6 : v 6 = .pointer (some ⟨gm, 4, none⟩) := hd.at 6 rfl
      refine conf_callR (f := 37) (args := #[v 6]) (wanted0 rfl) (by simp [go_sem]) ?_
      rw [d6]
      exact (epoch_any gm 4 w').mono fun e w'' ⟨v, he, ⟨gb, e2, lb, kb⟩, hb'⟩ => ⟨v, he, hb', gb, e2, Nat.le_trans (Nat.le_trans BB.out.size hb.size) lb, kb⟩
    · obtain ⟨g0, d3, l0, k0⟩ : FV w' w.heap.size gm fTo (v 3) := hd.at 3 rfl
      obtain ⟨g1, d7, l1, k1⟩ : FV w' w.heap.size gm fEpoch (v 7) := hd.at 7 rfl
      refine conf_makeR (w' := w'.alloc (.cells (flatF [(fTo, g0), (fEpoch, g1)]).toArray 57)) (v := .slice (some ⟨w'.heap.size, 0, none⟩) 2 2) (wanted0 rfl) (by simp [go_sem, d3, d7, fldV, flatF]) (below_alloc1 w' _) ⟨w'.heap.size, [(fTo, g0), (fEpoch, g1)], rfl, rfl, Nat.le_trans BB.out.size hb.size, fun i hi => ?_, Blk.new _ _ _⟩
      match i, hi with
      | 0, _ => exact ⟨l0, Blk.alloc k0 _⟩
      | 1, _ => exact ⟨l1, Blk.alloc k1 _⟩
    · obtain ⟨gl, fs, e, m, lg, bx, kk⟩ : ∃ (gl : Nat) (fs : List (FD × Nat)), v 8 = .slice (some ⟨gl, 0, none⟩) 2 2 ∧ fs.map (·.1) = [fTo, fEpoch] ∧ w.heap.size ≤ gl ∧ Boxes w' w.heap.size gm fs ∧ Blk w' gl (flatF fs).toArray 57 := hd.at 8 rfl
      exact conf_valueR belR_kept (wanted0 rfl) (by simp [go_sem, e]) ⟨gl, fs, rfl, m, lg, bx, kk⟩
    · exact conf_valueR belR_kept (wanted0 rfl) (by simp [go_sem]) rfl
  · intro v w' hb hr
    obtain ⟨gl, fs, e, m, lg, bx, kk⟩ : ∃ (gl : Nat) (fs : List (FD × Nat)), v 9 = .slice (some ⟨gl, 0, none⟩) 2 2 ∧ fs.map (·.1) = [fTo, fEpoch] ∧ w.heap.size ≤ gl ∧ Boxes w' w.heap.size gm fs ∧ Blk w' gl (flatF fs).toArray 57 := hr 9 (by omega)
    have dt : v 10 = Value.bool true := hr 10 (by omega)
    simp only [List.take_succ_cons, List.take_zero, List.drop_succ_cons, List.drop_zero, putAll, Act.put, List.setIfInBounds_toArray, List.set_cons_succ, List.set_cons_zero]
    rw [dt, e]
    have FK := Lib.hid (fls_blk kk bx lg)
    have FB := Lib.hid (bt BB.out hb)
    replace m := Lib.hid m
    clear hr hb dt e kk bx
    go_wp2_with fail
    go_ret2
    exact ⟨gl, _, fs, rfl, m.out, FK.out, FB.out⟩
def RF135 (base gm : Nat) (i : Nat) (v : Value) (w : World) : Prop := match i with
  | 0 => v = .pointer (some ⟨gm, 0, none⟩)
  | 1 => v = .pointer (some ⟨gm, 0, none⟩)
  | 2 => v = .pointer (some ⟨gm, 3, none⟩)
  | 3 => FV w base gm fTo v
  | 4 => v = .pointer (some ⟨gm, 0, none⟩)
  | 5 => v = .pointer (some ⟨gm, 0, none⟩)
  | 6 => v = .pointer (some ⟨gm, 4, none⟩)
  | 7 => FV w base gm fEpoch v
  | 8 => ∃ (gl : Nat) (fs : List (FD × Nat)), v = .slice (some ⟨gl, 0, none⟩) 2 2 ∧ fs.map (·.1) = [fTo, fEpoch] ∧ base ≤ gl ∧ Boxes w base gm fs ∧ Blk w gl (flatF fs).toArray 57
  | 9 => ∃ (gl : Nat) (fs : List (FD × Nat)), v = .slice (some ⟨gl, 0, none⟩) 2 2 ∧ fs.map (·.1) = [fTo, fEpoch] ∧ base ≤ gl ∧ Boxes w base gm fs ∧ Blk w gl (flatF fs).toArray 57
  | _ => v = .bool true
theorem RF135_keep (base gm : Nat) : ∀ i v w w', i < 11 → RF135 base gm i v w → BelR w w' → RF135 base gm i v w' := by
  intro i v w w' hi h hb
  unfold RF135 at *
  split at h
  case h_4 | h_8 => exact h.below hb
  case h_9 | h_10 => obtain ⟨gl, fs, e, m, lg, bx, kk⟩ := h; exact ⟨gl, fs, e, m, lg, bx.below hb, kk.below hb⟩
  all_goals exact h
set_option maxRecDepth 100000 in
set_option maxHeartbeats 800000 in
theorem replied_135 (gm : Nat) (l : List Int) (w : World) (hm : Blk w gm (repV l) 40) (hk : l.getD 0 0 = 135) :
    Calls Try.prog 30 #[.pointer (some ⟨gm, 0, none⟩)] w (FieldsPost w gm [fTo, fEpoch]) := by
  have c0 := hm.cell 0
  rw [repV_get _ _ (by omega), if_neg (by omega), hk] at c0
  have BB := Lib.hid (Below.refl w.heap.size w)
  clear hm hk
  go_enter Try.func30, Try.ntmps30
  go_wp2_with fail
  clear c0
  refine wp_region_confR' belR_kept (by kernel_rfl) 11 (by kernel_rfl) (by simp) (by decide) (RF135 w.heap.size gm) (RF135_keep _ _) ?_ ?_
  · simp only [ConfStepsR, List.take_succ_cons, List.take_zero, putAll, Act.put, List.setIfInBounds_toArray, List.set_cons_succ, List.set_cons_zero, and_true]
    refine ⟨?_, ?_, ?_, ?_, ?_, ?_, ?_, ?_, ?_, ?_, ?_⟩
    all_goals intro v w' hb hd
    · exact conf_valueR belR_kept (wanted0 rfl) (by simp [go_sem]) rfl
    · have d0 : v 0 = Value.pointer (some ⟨gm, 0, none⟩) := hd.at 0 rfl
      exact conf_valueR belR_kept (wanted0 rfl) (by simp [go_sem, d0]) rfl
    · have d1 : v 1 = Value.pointer (some ⟨gm, 0, none⟩) := hd.at 1 rfl
      exact conf_valueR belR_kept (wanted0 rfl) (by simp [go_sem, d1]) rfl
    · have d2 : v 2 = .pointer (some ⟨gm, 3, none⟩) := hd.at 2 rfl
      refine conf_callR (f := 36) (args := #[v 2]) (wanted0 rfl) (by simp [go_sem]) ?_
      rw [d2]
      exact (source_any gm 3 w').mono fun e w'' ⟨v, he, ⟨gb, e2, lb, kb⟩, hb'⟩ => ⟨v, he, hb', gb, e2, Nat.le_trans (Nat.le_trans BB.out.size hb.size) lb, kb⟩
    · exact conf_valueR belR_kept (wanted0 rfl) (by simp [go_sem]) rfl
    · have d4 : v 4 = Value.pointer (some ⟨gm, 0, none⟩) := hd.at 4 rfl
      exact conf_valueR belR_kept (wanted0 rfl) (by simp [go_sem, d4]) rfl
    · have d5 : v 5 = Value.pointer (some ⟨gm, 0, none⟩) := hd.at 5 rfl
      exact conf_valueR belR_kept (wanted0 rfl) (by simp [go_sem, d5]) rfl
    · have d6 : v 6 = .pointer (some ⟨gm, 4, none⟩) := hd.at 6 rfl
      refine conf_callR (f := 37) (args := #[v 6]) (wanted0 rfl) (by simp [go_sem]) ?_
      rw [d6]
      exact (epoch_any gm 4 w').mono fun e w'' ⟨v, he, ⟨gb, e2, lb, kb⟩, hb'⟩ => ⟨v, he, hb', gb, e2, Nat.le_trans (Nat.le_trans BB.out.size hb.size) lb, kb⟩
    · obtain ⟨g0, d3, l0, k0⟩ : FV w' w.heap.size gm fTo (v 3) := hd.at 3 rfl
      obtain ⟨g1, d7, l1, k1⟩ : FV w' w.heap.size gm fEpoch (v 7) := hd.at 7 rfl
      refine conf_makeR (w' := w'.alloc (.cells (flatF [(fTo, g0), (fEpoch, g1)]).toArray 57)) (v := .slice (some ⟨w'.heap.size, 0, none⟩) 2 2) (wanted0 rfl) (by simp [go_sem, d3, d7, fldV, flatF]) (below_alloc1 w' _) ⟨w'.heap.size, [(fTo, g0), (fEpoch, g1)], rfl, rfl, Nat.le_trans BB.out.size hb.size, fun i hi => ?_, Blk.new _ _ _⟩
      match i, hi with
      | 0, _ => exact ⟨l0, Blk.alloc k0 _⟩
      | 1, _ => exact ⟨l1, Blk.alloc k1 _⟩
    · obtain ⟨gl, fs, e, m, lg, bx, kk⟩ : ∃ (gl : Nat) (fs : List (FD × Nat)), v 8 = .slice (some ⟨gl, 0, none⟩) 2 2 ∧ fs.map (·.1) = [fTo, fEpoch] ∧ w.heap.size ≤ gl ∧ Boxes w' w.heap.size gm fs ∧ Blk w' gl (flatF fs).toArray 57 := hd.at 8 rfl
      exact conf_valueR belR_kept (wanted0 rfl) (by simp [go_sem, e]) ⟨gl, fs, rfl, m, lg, bx, kk⟩
    · exact conf_valueR belR_kept (wanted0 rfl) (by simp [go_sem]) rfl
  · intro v w' hb hr
    obtain ⟨gl, fs, e, m, lg, bx, kk⟩ : ∃ (gl : Nat) (fs : List (FD × Nat)), v 9 = .slice (some ⟨gl, 0, none⟩) 2 2 ∧ fs.map (·.1) = [fTo, fEpoch] ∧ w.heap.size ≤ gl ∧ Boxes w' w.heap.size gm fs ∧ Blk w' gl (flatF fs).toArray 57 := hr 9 (by omega)
    have dt : v 10 = Value.bool true := hr 10 (by omega)
    simp only [List.take_succ_cons, List.take_zero, List.drop_succ_cons, List.drop_zero, putAll, Act.put, List.setIfInBounds_toArray, List.set_cons_succ, List.set_cons_zero]
    rw [dt, e]
    have FK := Lib.hid (fls_blk kk bx lg)
    have FB := Lib.hid (bt BB.out hb)
    replace m := Lib.hid m
    clear hr hb dt e kk bx
    go_wp2_with fail
    go_ret2
    exact ⟨gl, _, fs, rfl, m.out, FK.out, FB.out⟩
def RF136 (base gm : Nat) (i : Nat) (v : Value) (w : World) : Prop := match i with
  | 0 => v = .pointer (some ⟨gm, 0, none⟩)
  | 1 => v = .pointer (some ⟨gm, 0, none⟩)
  | 2 => v = .pointer (some ⟨gm, 3, none⟩)
  | 3 => FV w base gm fTo v
  | 4 => v = .pointer (some ⟨gm, 0, none⟩)
  | 5 => v = .pointer (some ⟨gm, 0, none⟩)
  | 6 => v = .pointer (some ⟨gm, 5, none⟩)
  | 7 => FV w base gm fCode v
  | 8 => ∃ (gl : Nat) (fs : List (FD × Nat)), v = .slice (some ⟨gl, 0, none⟩) 2 2 ∧ fs.map (·.1) = [fTo, fCode] ∧ base ≤ gl ∧ Boxes w base gm fs ∧ Blk w gl (flatF fs).toArray 57
  | 9 => ∃ (gl : Nat) (fs : List (FD × Nat)), v = .slice (some ⟨gl, 0, none⟩) 2 2 ∧ fs.map (·.1) = [fTo, fCode] ∧ base ≤ gl ∧ Boxes w base gm fs ∧ Blk w gl (flatF fs).toArray 57
  | _ => v = .bool true
theorem RF136_keep (base gm : Nat) : ∀ i v w w', i < 11 → RF136 base gm i v w → BelR w w' → RF136 base gm i v w' := by
  intro i v w w' hi h hb
  unfold RF136 at *
  split at h
  case h_4 | h_8 => exact h.below hb
  case h_9 | h_10 => obtain ⟨gl, fs, e, m, lg, bx, kk⟩ := h; exact ⟨gl, fs, e, m, lg, bx.below hb, kk.below hb⟩
  all_goals exact h
set_option maxRecDepth 100000 in
set_option maxHeartbeats 800000 in
theorem replied_136 (gm : Nat) (l : List Int) (w : World) (hm : Blk w gm (repV l) 40) (hk : l.getD 0 0 = 136) :
    Calls Try.prog 30 #[.pointer (some ⟨gm, 0, none⟩)] w (FieldsPost w gm [fTo, fCode]) := by
  have c0 := hm.cell 0
  rw [repV_get _ _ (by omega), if_neg (by omega), hk] at c0
  have BB := Lib.hid (Below.refl w.heap.size w)
  clear hm hk
  go_enter Try.func30, Try.ntmps30
  go_wp2_with fail
  clear c0
  refine wp_region_confR' belR_kept (by kernel_rfl) 11 (by kernel_rfl) (by simp) (by decide) (RF136 w.heap.size gm) (RF136_keep _ _) ?_ ?_
  · simp only [ConfStepsR, List.take_succ_cons, List.take_zero, putAll, Act.put, List.setIfInBounds_toArray, List.set_cons_succ, List.set_cons_zero, and_true]
    refine ⟨?_, ?_, ?_, ?_, ?_, ?_, ?_, ?_, ?_, ?_, ?_⟩
    all_goals intro v w' hb hd
    · exact conf_valueR belR_kept (wanted0 rfl) (by simp [go_sem]) rfl
    · have d0 : v 0 = Value.pointer (some ⟨gm, 0, none⟩) := hd.at 0 rfl
      exact conf_valueR belR_kept (wanted0 rfl) (by simp [go_sem, d0]) rfl
    · have d1 : v 1 = Value.pointer (some ⟨gm, 0, none⟩) := hd.at 1 rfl
      exact conf_valueR belR_kept (wanted0 rfl) (by simp [go_sem, d1]) rfl
    · have d2 : v 2 = .pointer (some ⟨gm, 3, none⟩) := hd.at 2 rfl
      refine conf_callR (f := 36) (args := #[v 2]) (wanted0 rfl) (by simp [go_sem]) ?_
      rw [d2]
      exact (source_any gm 3 w').mono fun e w'' ⟨v, he, ⟨gb, e2, lb, kb⟩, hb'⟩ => ⟨v, he, hb', gb, e2, Nat.le_trans (Nat.le_trans BB.out.size hb.size) lb, kb⟩
    · exact conf_valueR belR_kept (wanted0 rfl) (by simp [go_sem]) rfl
    · have d4 : v 4 = Value.pointer (some ⟨gm, 0, none⟩) := hd.at 4 rfl
      exact conf_valueR belR_kept (wanted0 rfl) (by simp [go_sem, d4]) rfl
    · have d5 : v 5 = Value.pointer (some ⟨gm, 0, none⟩) := hd.at 5 rfl
      exact conf_valueR belR_kept (wanted0 rfl) (by simp [go_sem, d5]) rfl
    · have d6 : v 6 = .pointer (some ⟨gm, 5, none⟩) := hd.at 6 rfl
      refine conf_callR (f := 44) (args := #[v 6]) (wanted0 rfl) (by simp [go_sem]) ?_
      rw [d6]
      exact (code_any gm 5 w').mono fun e w'' ⟨v, he, ⟨gb, e2, lb, kb⟩, hb'⟩ => ⟨v, he, hb', gb, e2, Nat.le_trans (Nat.le_trans BB.out.size hb.size) lb, kb⟩
    · obtain ⟨g0, d3, l0, k0⟩ : FV w' w.heap.size gm fTo (v 3) := hd.at 3 rfl
      obtain ⟨g1, d7, l1, k1⟩ : FV w' w.heap.size gm fCode (v 7) := hd.at 7 rfl
      refine conf_makeR (w' := w'.alloc (.cells (flatF [(fTo, g0), (fCode, g1)]).toArray 57)) (v := .slice (some ⟨w'.heap.size, 0, none⟩) 2 2) (wanted0 rfl) (by simp [go_sem, d3, d7, fldV, flatF]) (below_alloc1 w' _) ⟨w'.heap.size, [(fTo, g0), (fCode, g1)], rfl, rfl, Nat.le_trans BB.out.size hb.size, fun i hi => ?_, Blk.new _ _ _⟩
      match i, hi with
      | 0, _ => exact ⟨l0, Blk.alloc k0 _⟩
      | 1, _ => exact ⟨l1, Blk.alloc k1 _⟩
    · obtain ⟨gl, fs, e, m, lg, bx, kk⟩ : ∃ (gl : Nat) (fs : List (FD × Nat)), v 8 = .slice (some ⟨gl, 0, none⟩) 2 2 ∧ fs.map (·.1) = [fTo, fCode] ∧ w.heap.size ≤ gl ∧ Boxes w' w.heap.size gm fs ∧ Blk w' gl (flatF fs).toArray 57 := hd.at 8 rfl
      exact conf_valueR belR_kept (wanted0 rfl) (by simp [go_sem, e]) ⟨gl, fs, rfl, m, lg, bx, kk⟩
    · exact conf_valueR belR_kept (wanted0 rfl) (by simp [go_sem]) rfl
  · intro v w' hb hr
    obtain ⟨gl, fs, e, m, lg, bx, kk⟩ : ∃ (gl : Nat) (fs : List (FD × Nat)), v 9 = .slice (some ⟨gl, 0, none⟩) 2 2 ∧ fs.map (·.1) = [fTo, fCode] ∧ w.heap.size ≤ gl ∧ Boxes w' w.heap.size gm fs ∧ Blk w' gl (flatF fs).toArray 57 := hr 9 (by omega)
    have dt : v 10 = Value.bool true := hr 10 (by omega)
    simp only [List.take_succ_cons, List.take_zero, List.drop_succ_cons, List.drop_zero, putAll, Act.put, List.setIfInBounds_toArray, List.set_cons_succ, List.set_cons_zero]
    rw [dt, e]
    have FK := Lib.hid (fls_blk kk bx lg)
    have FB := Lib.hid (bt BB.out hb)
    replace m := Lib.hid m
    clear hr hb dt e kk bx
    go_wp2_with fail
    go_ret2
    exact ⟨gl, _, fs, rfl, m.out, FK.out, FB.out⟩
def RF132 (base gm : Nat) (i : Nat) (v : Value) (w : World) : Prop := match i with
  | 0 => v = .pointer (some ⟨gm, 0, none⟩)
  | 1 => v = .pointer (some ⟨gm, 0, none⟩)
  | 2 => v = .pointer (some ⟨gm, 1, none⟩)
  | 3 => FV w base gm fSeq v
  | 4 => v = .pointer (some ⟨gm, 0, none⟩)
  | 5 => v = .pointer (some ⟨gm, 0, none⟩)
  | 6 => v = .pointer (some ⟨gm, 5, none⟩)
  | 7 => FV w base gm fCode v
  | 8 => ∃ (gl : Nat) (fs : List (FD × Nat)), v = .slice (some ⟨gl, 0, none⟩) 2 2 ∧ fs.map (·.1) = [fSeq, fCode] ∧ base ≤ gl ∧ Boxes w base gm fs ∧ Blk w gl (flatF fs).toArray 57
  | 9 => ∃ (gl : Nat) (fs : List (FD × Nat)), v = .slice (some ⟨gl, 0, none⟩) 2 2 ∧ fs.map (·.1) = [fSeq, fCode] ∧ base ≤ gl ∧ Boxes w base gm fs ∧ Blk w gl (flatF fs).toArray 57
  | _ => v = .bool true
theorem RF132_keep (base gm : Nat) : ∀ i v w w', i < 11 → RF132 base gm i v w → BelR w w' → RF132 base gm i v w' := by
  intro i v w w' hi h hb
  unfold RF132 at *
  split at h
  case h_4 | h_8 => exact h.below hb
  case h_9 | h_10 => obtain ⟨gl, fs, e, m, lg, bx, kk⟩ := h; exact ⟨gl, fs, e, m, lg, bx.below hb, kk.below hb⟩
  all_goals exact h
set_option maxRecDepth 100000 in
set_option maxHeartbeats 800000 in
theorem replied_132 (gm : Nat) (l : List Int) (w : World) (hm : Blk w gm (repV l) 40) (hk : l.getD 0 0 = 132) :
    Calls Try.prog 30 #[.pointer (some ⟨gm, 0, none⟩)] w (FieldsPost w gm [fSeq, fCode]) := by
  have c0 := hm.cell 0
  rw [repV_get _ _ (by omega), if_neg (by omega), hk] at c0
  have BB := Lib.hid (Below.refl w.heap.size w)
  clear hm hk
  go_enter Try.func30, Try.ntmps30
  go_wp2_with fail
  clear c0
  refine wp_region_confR' belR_kept (by kernel_rfl) 11 (by kernel_rfl) (by simp) (by decide) (RF132 w.heap.size gm) (RF132_keep _ _) ?_ ?_
  · simp only [ConfStepsR, List.take_succ_cons, List.take_zero, putAll, Act.put, List.setIfInBounds_toArray, List.set_cons_succ, List.set_cons_zero, and_true]
    refine ⟨?_, ?_, ?_, ?_, ?_, ?_, ?_, ?_, ?_, ?_, ?_⟩
    all_goals intro v w' hb hd
    · exact conf_valueR belR_kept (wanted0 rfl) (by simp [go_sem]) rfl
    · have d0 : v 0 = Value.pointer (some ⟨gm, 0, none⟩) := hd.at 0 rfl
      exact conf_valueR belR_kept (wanted0 rfl) (by simp [go_sem, d0]) rfl
    · have d1 : v 1 = Value.pointer (some ⟨gm, 0, none⟩) := hd.at 1 rfl
      exact conf_valueR belR_kept (wanted0 rfl) (by simp [go_sem, d1]) rfl
    · have d2 : v 2 = .pointer (some ⟨gm, 1, none⟩) := hd.at 2 rfl
      refine conf_callR (f := 34) (args := #[v 2]) (wanted0 rfl) (by simp [go_sem]) ?_
      rw [d2]
      exact (seq_any gm 1 w').mono fun e w'' ⟨v, he, ⟨gb, e2, lb, kb⟩, hb'⟩ => ⟨v, he, hb', gb, e2, Nat.le_trans (Nat.le_trans BB.out.size hb.size) lb, kb⟩
    · exact conf_valueR belR_kept (wanted0 rfl) (by simp [go_sem]) rfl
    · have d4 : v 4 = Value.pointer (some ⟨gm, 0, none⟩) := hd.at 4 rfl
      exact conf_valueR belR_kept (wanted0 rfl) (by simp [go_sem, d4]) rfl
    · have d5 : v 5 = Value.pointer (some ⟨gm, 0, none⟩) := hd.at 5 rfl
      exact conf_valueR belR_kept (wanted0 rfl) (by simp [go_sem, d5]) rfl
    · have d6 : v 6 = .pointer (some ⟨gm, 5, none⟩) := hd.at 6 rfl
      refine conf_callR (f := 44) (args := #[v 6]) (wanted0 rfl) (by simp [go_sem]) ?_
      rw [d6]
      exact (code_any gm 5 w').mono fun e w'' ⟨v, he, ⟨gb, e2, lb, kb⟩, hb'⟩ => ⟨v, he, hb', gb, e2, Nat.le_trans (Nat.le_trans BB.out.size hb.size) lb, kb⟩
    · obtain ⟨g0, d3, l0, k0⟩ : FV w' w.heap.size gm fSeq (v 3) := hd.at 3 rfl
      obtain ⟨g1, d7, l1, k1⟩ : FV w' w.heap.size gm fCode (v 7) := hd.at 7 rfl
      refine conf_makeR (w' := w'.alloc (.cells (flatF [(fSeq, g0), (fCode, g1)]).toArray 57)) (v := .slice (some ⟨w'.heap.size, 0, none⟩) 2 2) (wanted0 rfl) (by simp [go_sem, d3, d7, fldV, flatF]) (below_alloc1 w' _) ⟨w'.heap.size, [(fSeq, g0), (fCode, g1)], rfl, rfl, Nat.le_trans BB.out.size hb.size, fun i hi => ?_, Blk.new _ _ _⟩
      match i, hi with
      | 0, _ => exact ⟨l0, Blk.alloc k0 _⟩
      | 1, _ => exact ⟨l1, Blk.alloc k1 _⟩
    · obtain ⟨gl, fs, e, m, lg, bx, kk⟩ : ∃ (gl : Nat) (fs : List (FD × Nat)), v 8 = .slice (some ⟨gl, 0, none⟩) 2 2 ∧ fs.map (·.1) = [fSeq, fCode] ∧ w.heap.size ≤ gl ∧ Boxes w' w.heap.size gm fs ∧ Blk w' gl (flatF fs).toArray 57 := hd.at 8 rfl
      exact conf_valueR belR_kept (wanted0 rfl) (by simp [go_sem, e]) ⟨gl, fs, rfl, m, lg, bx, kk⟩
    · exact conf_valueR belR_kept (wanted0 rfl) (by simp [go_sem]) rfl
  · intro v w' hb hr
    obtain ⟨gl, fs, e, m, lg, bx, kk⟩ : ∃ (gl : Nat) (fs : List (FD × Nat)), v 9 = .slice (some ⟨gl, 0, none⟩) 2 2 ∧ fs.map (·.1) = [fSeq, fCode] ∧ w.heap.size ≤ gl ∧ Boxes w' w.heap.size gm fs ∧ Blk w' gl (flatF fs).toArray 57 := hr 9 (by omega)
    have dt : v 10 = Value.bool true := hr 10 (by omega)
    simp only [List.take_succ_cons, List.take_zero, List.drop_succ_cons, List.drop_zero, putAll, Act.put, List.setIfInBounds_toArray, List.set_cons_succ, List.set_cons_zero]
    rw [dt, e]
    have FK := Lib.hid (fls_blk kk bx lg)
    have FB := Lib.hid (bt BB.out hb)
    replace m := Lib.hid m
    clear hr hb dt e kk bx
    go_wp2_with fail
    go_ret2
    exact ⟨gl, _, fs, rfl, m.out, FK.out, FB.out⟩
def RF130 (base gm : Nat) (i : Nat) (v : Value) (w : World) : Prop := match i with
  | 0 => v = .pointer (some ⟨gm, 0, none⟩)
  | 1 => v = .pointer (some ⟨gm, 0, none⟩)
  | 2 => v = .pointer (some ⟨gm, 2, none⟩)
  | 3 => FV w base gm fRole v
  | 4 => v = .pointer (some ⟨gm, 0, none⟩)
  | 5 => v = .pointer (some ⟨gm, 0, none⟩)
  | 6 => v = .pointer (some ⟨gm, 3, none⟩)
  | 7 => FV w base gm fTo v
  | 8 => v = .pointer (some ⟨gm, 0, none⟩)
  | 9 => v = .pointer (some ⟨gm, 0, none⟩)
  | 10 => v = .pointer (some ⟨gm, 4, none⟩)
  | 11 => FV w base gm fEpoch v
  | 12 => ∃ (gl : Nat) (fs : List (FD × Nat)), v = .slice (some ⟨gl, 0, none⟩) 3 3 ∧ fs.map (·.1) = [fRole, fTo, fEpoch] ∧ base ≤ gl ∧ Boxes w base gm fs ∧ Blk w gl (flatF fs).toArray 57
  | 13 => ∃ (gl : Nat) (fs : List (FD × Nat)), v = .slice (some ⟨gl, 0, none⟩) 3 3 ∧ fs.map (·.1) = [fRole, fTo, fEpoch] ∧ base ≤ gl ∧ Boxes w base gm fs ∧ Blk w gl (flatF fs).toArray 57
  | _ => v = .bool true
theorem RF130_keep (base gm : Nat) : ∀ i v w w', i < 15 → RF130 base gm i v w → BelR w w' → RF130 base gm i v w' := by
  intro i v w w' hi h hb
  unfold RF130 at *
  split at h
  case h_4 | h_8 | h_12 => exact h.below hb
  case h_13 | h_14 => obtain ⟨gl, fs, e, m, lg, bx, kk⟩ := h; exact ⟨gl, fs, e, m, lg, bx.below hb, kk.below hb⟩
  all_goals exact h
set_option maxRecDepth 100000 in
set_option maxHeartbeats 800000 in
theorem replied_130 (gm : Nat) (l : List Int) (w : World) (hm : Blk w gm (repV l) 40) (hk : l.getD 0 0 = 130) :
    Calls Try.prog 30 #[.pointer (some ⟨gm, 0, none⟩)] w (FieldsPost w gm [fRole, fTo, fEpoch]) := by
  have c0 := hm.cell 0
  rw [repV_get _ _ (by omega), if_neg (by omega), hk] at c0
  have BB := Lib.hid (Below.refl w.heap.size w)
  clear hm hk
  go_enter Try.func30, Try.ntmps30
  go_wp2_with fail
  clear c0
  refine wp_region_confR' belR_kept (by kernel_rfl) 15 (by kernel_rfl) (by simp) (by decide) (RF130 w.heap.size gm) (RF130_keep _ _) ?_ ?_
  · simp only [ConfStepsR, List.take_succ_cons, List.take_zero, putAll, Act.put, List.setIfInBounds_toArray, List.set_cons_succ, List.set_cons_zero, and_true]
    refine ⟨?_, ?_, ?_, ?_, ?_, ?_, ?_, ?_, ?_, ?_, ?_, ?_, ?_, ?_, ?_⟩
    all_goals intro v w' hb hd
    · exact conf_valueR belR_kept (wanted0 rfl) (by simp [go_sem]) rfl
    · have d0 : v 0 = Value.pointer (some ⟨gm, 0, none⟩) := hd.at 0 rfl
      exact conf_valueR belR_kept (wanted0 rfl) (by simp [go_sem, d0]) rfl
    · have d1 : v 1 = Value.pointer (some ⟨gm, 0, none⟩) := hd.at 1 rfl
      exact conf_valueR belR_kept (wanted0 rfl) (by simp [go_sem, d1]) rfl
    · have d2 : v 2 = .pointer (some ⟨gm, 2, none⟩) := hd.at 2 rfl
      refine conf_callR (f := 33) (args := #[v 2]) (wanted0 rfl) (by simp [go_sem]) ?_
      rw [d2]
      exact (role_any gm 2 w').mono fun e w'' ⟨v, he, ⟨gb, e2, lb, kb⟩, hb'⟩ => ⟨v, he, hb', gb, e2, Nat.le_trans (Nat.le_trans BB.out.size hb.size) lb, kb⟩
    · exact conf_valueR belR_kept (wanted0 rfl) (by simp [go_sem]) rfl
    · have d4 : v 4 = Value.pointer (some ⟨gm, 0, none⟩) := hd.at 4 rfl
      exact conf_valueR belR_kept (wanted0 rfl) (by simp [go_sem, d4]) rfl
    · have d5 : v 5 = Value.pointer (some ⟨gm, 0, none⟩) := hd.at 5 rfl
      exact conf_valueR belR_kept (wanted0 rfl) (by simp [go_sem, d5]) rfl
    · have d6 : v 6 = .pointer (some ⟨gm, 3, none⟩) := hd.at 6 rfl
      refine conf_callR (f := 36) (args := #[v 6]) (wanted0 rfl) (by simp [go_sem]) ?_
      rw [d6]
      exact (source_any gm 3 w').mono fun e w'' ⟨v, he, ⟨gb, e2, lb, kb⟩, hb'⟩ => ⟨v, he, hb', gb, e2, Nat.le_trans (Nat.le_trans BB.out.size hb.size) lb, kb⟩
    · exact conf_valueR belR_kept (wanted0 rfl) (by simp [go_sem]) rfl
    · have d8 : v 8 = Value.pointer (some ⟨gm, 0, none⟩) := hd.at 8 rfl
      exact conf_valueR belR_kept (wanted0 rfl) (by simp [go_sem, d8]) rfl
    · have d9 : v 9 = Value.pointer (some ⟨gm, 0, none⟩) := hd.at 9 rfl
      exact conf_valueR belR_kept (wanted0 rfl) (by simp [go_sem, d9]) rfl
    · have d10 : v 10 = .pointer (some ⟨gm, 4, none⟩) := hd.at 10 rfl
      refine conf_callR (f := 37) (args := #[v 10]) (wanted0 rfl) (by simp [go_sem]) ?_
      rw [d10]
      exact (epoch_any gm 4 w').mono fun e w'' ⟨v, he, ⟨gb, e2, lb, kb⟩, hb'⟩ => ⟨v, he, hb', gb, e2, Nat.le_trans (Nat.le_trans BB.out.size hb.size) lb, kb⟩
    · obtain ⟨g0, d3, l0, k0⟩ : FV w' w.heap.size gm fRole (v 3) := hd.at 3 rfl
      obtain ⟨g1, d7, l1, k1⟩ : FV w' w.heap.size gm fTo (v 7) := hd.at 7 rfl
      obtain ⟨g2, d11, l2, k2⟩ : FV w' w.heap.size gm fEpoch (v 11) := hd.at 11 rfl
      refine conf_makeR (w' := w'.alloc (.cells (flatF [(fRole, g0), (fTo, g1), (fEpoch, g2)]).toArray 57)) (v := .slice (some ⟨w'.heap.size, 0, none⟩) 3 3) (wanted0 rfl) (by simp [go_sem, d3, d7, d11, fldV, flatF]) (below_alloc1 w' _) ⟨w'.heap.size, [(fRole, g0), (fTo, g1), (fEpoch, g2)], rfl, rfl, Nat.le_trans BB.out.size hb.size, fun i hi => ?_, Blk.new _ _ _⟩
      match i, hi with
      | 0, _ => exact ⟨l0, Blk.alloc k0 _⟩
      | 1, _ => exact ⟨l1, Blk.alloc k1 _⟩
      | 2, _ => exact ⟨l2, Blk.alloc k2 _⟩
    · obtain ⟨gl, fs, e, m, lg, bx, kk⟩ : ∃ (gl : Nat) (fs : List (FD × Nat)), v 12 = .slice (some ⟨gl, 0, none⟩) 3 3 ∧ fs.map (·.1) = [fRole, fTo, fEpoch] ∧ w.heap.size ≤ gl ∧ Boxes w' w.heap.size gm fs ∧ Blk w' gl (flatF fs).toArray 57 := hd.at 12 rfl
      exact conf_valueR belR_kept (wanted0 rfl) (by simp [go_sem, e]) ⟨gl, fs, rfl, m, lg, bx, kk⟩
    · exact conf_valueR belR_kept (wanted0 rfl) (by simp [go_sem]) rfl
  · intro v w' hb hr
    obtain ⟨gl, fs, e, m, lg, bx, kk⟩ : ∃ (gl : Nat) (fs : List (FD × Nat)), v 13 = .slice (some ⟨gl, 0, none⟩) 3 3 ∧ fs.map (·.1) = [fRole, fTo, fEpoch] ∧ w.heap.size ≤ gl ∧ Boxes w' w.heap.size gm fs ∧ Blk w' gl (flatF fs).toArray 57 := hr 13 (by omega)
    have dt : v 14 = Value.bool true := hr 14 (by omega)
    simp only [List.take_succ_cons, List.take_zero, List.drop_succ_cons, List.drop_zero, putAll, Act.put, List.setIfInBounds_toArray, List.set_cons_succ, List.set_cons_zero]
    rw [dt, e]
    have FK := Lib.hid (fls_blk kk bx lg)
    have FB := Lib.hid (bt BB.out hb)
    replace m := Lib.hid m
    clear hr hb dt e kk bx
    go_wp2_with fail
    go_ret2
    exact ⟨gl, _, fs, rfl, m.out, FK.out, FB.out⟩

/-- a row of fields of one's own, or none yet -/
def FOwn0 (w : World) (base : Nat) (A : Option Addr) (gm cap : Nat) (fs : List (FD × Nat)) : Prop := w.ownsRow base 57 5 (.slice A fs.length cap) fs.length (flatF fs) ∧ Boxes w base gm fs
theorem FOwn0.below {w w' : World} {base gm cap : Nat} {A : Option Addr} {fs : List (FD × Nat)} (h : FOwn0 w base A gm cap fs) (hb : Below w.heap.size w w') : FOwn0 w' base A gm cap fs :=
  ⟨growR_owns (growR_below (b0 := 0) (T := 57) (N := 0) (ys := []) hb) h.1 fun j _ hj hlt => absurd hj (by simp only [List.length_nil]; omega), h.2.below hb⟩
theorem fown0_nil (w : World) (base gm : Nat) : FOwn0 w base none gm 0 [] := ⟨⟨rfl, .inl ⟨rfl, rfl⟩⟩, fun i hi => absurd hi (by simp)⟩
theorem FOwn0.fls {w : World} {base gm cap : Nat} {A : Option Addr} {fs : List (FD × Nat)} (h : FOwn0 w base A gm cap fs) (hf : fs ≠ []) : ∃ gl, A = some ⟨gl, 0, none⟩ ∧ FLs w base gl gm fs := by
  rcases h.1.2 with ⟨h1, h2⟩ | ⟨g, cp, cur, hv, hbg, -⟩
  · exact absurd (List.eq_nil_of_length_eq_zero h2) hf
  · injection hv with e1 e2 e3
    subst e1
    exact ⟨g, rfl, hbg, fun j u hu => by have := h.1.cells (g := g) rfl j u hu; rwa [add_fld] at this, h.2⟩
set_option maxRecDepth 100000 in
theorem run_append_fld0 (w : World) (base gm cap : Nat) (A : Option Addr) (fs : List (FD × Nat)) (n : Nat) (hn : fs.length = n) (h : FOwn0 w base A gm cap fs) (d : FD) (gb g1 c1 : Nat) (hgb : base ≤ gb) (hbx : Box w d gm gb) (hk : Blk w g1 (flatF [(d, gb)]).toArray 57) (hs : n ≤ 1000) (hbase : base ≤ w.heap.size) (ty : TypeId) :
    ∃ A' cap' w', (Builtin.append_ #[48, 48] ty #[.slice A n cap, .slice (some ⟨g1, 0, none⟩) 1 c1]).run Try.prog w = .ok (.slice A' (n + 1) cap') w' ∧ FOwn0 w' base A' gm cap' (fs ++ [(d, gb)]) ∧ Below base w w' := by
  subst hn
  obtain ⟨i0, hi, hz0, hz1, hz2⟩ := info_parts info_fld
  obtain ⟨A', cap', w', hrun, h2, h3, h4, -⟩ := run_append_growR (P := Try.prog) w base base 48 ty 57 i0 _ 5 40 Try.underlying48 hi hz0 hz1 hz2 rfl A cap fs.length _ h.1 ⟨g1, 0, none⟩ 1 c1 (flatF [(d, gb)]) (flatF_len _)
    (fun j u hu => by rw [add_fld, hk.cell j, List.getElem?_toArray]; exact hu) (flatF_one _) (fun _ => by omega) (by unfold maxLen; omega) (by omega) hbase (Nat.le_refl _)
  rw [← flatF_append] at h2
  refine ⟨A', cap', w', hrun, ⟨by rw [List.length_append]; exact h2, fun i hi => ?_⟩, h3.2.1 hbase⟩
  rcases Nat.lt_or_ge i fs.length with hlt | hge
  · rw [List.getElem_append_left hlt]
    exact ⟨(h.2 i hlt).1, growR_blk h3 (h.2 i hlt).2 (box_ne _)⟩
  · have : i = fs.length := by simp at hi; omega
    subst this
    rw [List.getElem_append_right (Nat.le_refl _)]
    simp only [Nat.sub_self, List.getElem_cons_zero]
    exact ⟨hgb, growR_blk h3 hbx (box_ne d)⟩
set_option maxRecDepth 100000 in
set_option maxHeartbeats 1600000 in
theorem replied_129 (gm : Nat) (l : List Int) (w : World) (hm : Blk w gm (repV l) 40) (hk : l.getD 0 0 = 129) :
    Calls Try.prog 30 #[.pointer (some ⟨gm, 0, none⟩)] w (FieldsPost w gm [fOct 0, fOct 1, fOct 2, fOct 3, fOct 4, fOct 5, fOct 6, fOct 7]) := by
  have c0 := hm.cell 0
  rw [repV_get _ _ (by omega), if_neg (by omega), hk] at c0
  have BB := Lib.hid (Below.refl w.heap.size w)
  have K0 := Lib.hid (fown0_nil w w.heap.size gm)
  clear hm hk
  go_enter Try.func30, Try.ntmps30
  go_wp2_with fail
  refine wp_loop_rounds 9 ?_
  rw [rounds_succ]
  go_wp2_with fail
  ((with_reducible refine (octet_any gm 6 _).mono ?_))
  rintro e x0 ⟨v0, rfl, ⟨gb0, rfl, lb0, kb0⟩, b0⟩
  have lx0 := BB.out.size
  replace K0 := Lib.hid ((K0.out.below b0).below (below_alloc1 x0 (.cells (flatF [(fOct 0, gb0)]).toArray 57)))
  have HA := Lib.hid (Blk.new x0 (flatF [(fOct 0, gb0)]).toArray 57)
  have HB0 := Lib.hid (Blk.alloc kb0 (.cells (flatF [(fOct 0, gb0)]).toArray 57))
  replace BB := Lib.hid (bt (bt BB.out b0) (below_alloc1 x0 (.cells (flatF [(fOct 0, gb0)]).toArray 57)))
  clear b0 kb0
  unfold fldV
  go_wp2_with ((with_reducible show wpList _ _ _ (⟨some 23, _, _, _, _, _⟩ :: _) _ _); refine Marker.mk ?_)
  refine Marker.in ?_
  change wpList _ _ _ _ _ (x0.alloc (.cells (flatF [(fOct 0, gb0)]).toArray 57))
  have hz0 : w.heap.size ≤ (x0.alloc (.cells (flatF [(fOct 0, gb0)]).toArray 57)).heap.size := BB.out.size
  obtain ⟨A1, cp1, y0, hrun, k, b⟩ := run_append_fld0 _ w.heap.size gm _ _ _ 0 rfl K0.out (fOct 0) gb0 x0.heap.size 1 (by omega) HB0.out HA.out (by omega) hz0 48
  (with_reducible refine wpRow_run ?_ (run_op_append (s := .tmp 15) (y := .tmp 22) ?_ ?_ ?_ hrun) ?_)
  · exact wanted0 rfl
  · rfl
  · rfl
  · rfl
  have K1 := Lib.hid k
  replace BB := Lib.hid (BB.out.trans b)
  clear k b hrun HA HB0 K0 hz0 lx0
  go_wp2_with fail
  rw [rounds_succ]
  go_wp2_with fail
  ((with_reducible refine (octet_any gm 7 _).mono ?_))
  rintro e x1 ⟨v1, rfl, ⟨gb1, rfl, lb1, kb1⟩, b1⟩
  have lx1 := BB.out.size
  replace K1 := Lib.hid ((K1.out.below b1).below (below_alloc1 x1 (.cells (flatF [(fOct 1, gb1)]).toArray 57)))
  have HA := Lib.hid (Blk.new x1 (flatF [(fOct 1, gb1)]).toArray 57)
  have HB1 := Lib.hid (Blk.alloc kb1 (.cells (flatF [(fOct 1, gb1)]).toArray 57))
  replace BB := Lib.hid (bt (bt BB.out b1) (below_alloc1 x1 (.cells (flatF [(fOct 1, gb1)]).toArray 57)))
  clear b1 kb1
  unfold fldV
  go_wp2_with ((with_reducible show wpList _ _ _ (⟨some 23, _, _, _, _, _⟩ :: _) _ _); refine Marker.mk ?_)
  refine Marker.in ?_
  change wpList _ _ _ _ _ (x1.alloc (.cells (flatF [(fOct 1, gb1)]).toArray 57))
  have hz1 : w.heap.size ≤ (x1.alloc (.cells (flatF [(fOct 1, gb1)]).toArray 57)).heap.size := BB.out.size
  obtain ⟨A2, cp2, y1, hrun, k, b⟩ := run_append_fld0 _ w.heap.size gm _ _ _ 1 rfl K1.out (fOct 1) gb1 x1.heap.size 1 (by omega) HB1.out HA.out (by omega) hz1 48
  (with_reducible refine wpRow_run ?_ (run_op_append (s := .tmp 15) (y := .tmp 22) ?_ ?_ ?_ hrun) ?_)
  · exact wanted0 rfl
  · rfl
  · rfl
  · rfl
  have K2 := Lib.hid k
  replace BB := Lib.hid (BB.out.trans b)
  clear k b hrun HA HB1 K1 hz1 lx1
  go_wp2_with fail
  rw [rounds_succ]
  go_wp2_with fail
  ((with_reducible refine (octet_any gm 8 _).mono ?_))
  rintro e x2 ⟨v2, rfl, ⟨gb2, rfl, lb2, kb2⟩, b2⟩
  have lx2 := BB.out.size
  replace K2 := Lib.hid ((K2.out.below b2).below (below_alloc1 x2 (.cells (flatF [(fOct 2, gb2)]).toArray 57)))
  have HA := Lib.hid (Blk.new x2 (flatF [(fOct 2, gb2)]).toArray 57)
  have HB2 := Lib.hid (Blk.alloc kb2 (.cells (flatF [(fOct 2, gb2)]).toArray 57))
  replace BB := Lib.hid (bt (bt BB.out b2) (below_alloc1 x2 (.cells (flatF [(fOct 2, gb2)]).toArray 57)))
  clear b2 kb2
  unfold fldV
  go_wp2_with ((with_reducible show wpList _ _ _ (⟨some 23, _, _, _, _, _⟩ :: _) _ _); refine Marker.mk ?_)
  refine Marker.in ?_
  change wpList _ _ _ _ _ (x2.alloc (.cells (flatF [(fOct 2, gb2)]).toArray 57))
  have hz2 : w.heap.size ≤ (x2.alloc (.cells (flatF [(fOct 2, gb2)]).toArray 57)).heap.size := BB.out.size
  obtain ⟨A3, cp3, y2, hrun, k, b⟩ := run_append_fld0 _ w.heap.size gm _ _ _ 2 rfl K2.out (fOct 2) gb2 x2.heap.size 1 (by omega) HB2.out HA.out (by omega) hz2 48
  (with_reducible refine wpRow_run ?_ (run_op_append (s := .tmp 15) (y := .tmp 22) ?_ ?_ ?_ hrun) ?_)
  · exact wanted0 rfl
  · rfl
  · rfl
  · rfl
  have K3 := Lib.hid k
  replace BB := Lib.hid (BB.out.trans b)
  clear k b hrun HA HB2 K2 hz2 lx2
  go_wp2_with fail
  rw [rounds_succ]
  go_wp2_with fail
  ((with_reducible refine (octet_any gm 9 _).mono ?_))
  rintro e x3 ⟨v3, rfl, ⟨gb3, rfl, lb3, kb3⟩, b3⟩
  have lx3 := BB.out.size
  replace K3 := Lib.hid ((K3.out.below b3).below (below_alloc1 x3 (.cells (flatF [(fOct 3, gb3)]).toArray 57)))
  have HA := Lib.hid (Blk.new x3 (flatF [(fOct 3, gb3)]).toArray 57)
  have HB3 := Lib.hid (Blk.alloc kb3 (.cells (flatF [(fOct 3, gb3)]).toArray 57))
  replace BB := Lib.hid (bt (bt BB.out b3) (below_alloc1 x3 (.cells (flatF [(fOct 3, gb3)]).toArray 57)))
  clear b3 kb3
  unfold fldV
  go_wp2_with ((with_reducible show wpList _ _ _ (⟨some 23, _, _, _, _, _⟩ :: _) _ _); refine Marker.mk ?_)
  refine Marker.in ?_
  change wpList _ _ _ _ _ (x3.alloc (.cells (flatF [(fOct 3, gb3)]).toArray 57))
  have hz3 : w.heap.size ≤ (x3.alloc (.cells (flatF [(fOct 3, gb3)]).toArray 57)).heap.size := BB.out.size
  obtain ⟨A4, cp4, y3, hrun, k, b⟩ := run_append_fld0 _ w.heap.size gm _ _ _ 3 rfl K3.out (fOct 3) gb3 x3.heap.size 1 (by omega) HB3.out HA.out (by omega) hz3 48
  (with_reducible refine wpRow_run ?_ (run_op_append (s := .tmp 15) (y := .tmp 22) ?_ ?_ ?_ hrun) ?_)
  · exact wanted0 rfl
  · rfl
  · rfl
  · rfl
  have K4 := Lib.hid k
  replace BB := Lib.hid (BB.out.trans b)
  clear k b hrun HA HB3 K3 hz3 lx3
  go_wp2_with fail
  rw [rounds_succ]
  go_wp2_with fail
  ((with_reducible refine (octet_any gm 10 _).mono ?_))
  rintro e x4 ⟨v4, rfl, ⟨gb4, rfl, lb4, kb4⟩, b4⟩
  have lx4 := BB.out.size
  replace K4 := Lib.hid ((K4.out.below b4).below (below_alloc1 x4 (.cells (flatF [(fOct 4, gb4)]).toArray 57)))
  have HA := Lib.hid (Blk.new x4 (flatF [(fOct 4, gb4)]).toArray 57)
  have HB4 := Lib.hid (Blk.alloc kb4 (.cells (flatF [(fOct 4, gb4)]).toArray 57))
  replace BB := Lib.hid (bt (bt BB.out b4) (below_alloc1 x4 (.cells (flatF [(fOct 4, gb4)]).toArray 57)))
  clear b4 kb4
  unfold fldV
  go_wp2_with ((with_reducible show wpList _ _ _ (⟨some 23, _, _, _, _, _⟩ :: _) _ _); refine Marker.mk ?_)
  refine Marker.in ?_
  change wpList _ _ _ _ _ (x4.alloc (.cells (flatF [(fOct 4, gb4)]).toArray 57))
  have hz4 : w.heap.size ≤ (x4.alloc (.cells (flatF [(fOct 4, gb4)]).toArray 57)).heap.size := BB.out.size
  obtain ⟨A5, cp5, y4, hrun, k, b⟩ := run_append_fld0 _ w.heap.size gm _ _ _ 4 rfl K4.out (fOct 4) gb4 x4.heap.size 1 (by omega) HB4.out HA.out (by omega) hz4 48
  (with_reducible refine wpRow_run ?_ (run_op_append (s := .tmp 15) (y := .tmp 22) ?_ ?_ ?_ hrun) ?_)
  · exact wanted0 rfl
  · rfl
  · rfl
  · rfl
  have K5 := Lib.hid k
  replace BB := Lib.hid (BB.out.trans b)
  clear k b hrun HA HB4 K4 hz4 lx4
  go_wp2_with fail
  rw [rounds_succ]
  go_wp2_with fail
  ((with_reducible refine (octet_any gm 11 _).mono ?_))
  rintro e x5 ⟨v5, rfl, ⟨gb5, rfl, lb5, kb5⟩, b5⟩
  have lx5 := BB.out.size
  replace K5 := Lib.hid ((K5.out.below b5).below (below_alloc1 x5 (.cells (flatF [(fOct 5, gb5)]).toArray 57)))
  have HA := Lib.hid (Blk.new x5 (flatF [(fOct 5, gb5)]).toArray 57)
  have HB5 := Lib.hid (Blk.alloc kb5 (.cells (flatF [(fOct 5, gb5)]).toArray 57))
  replace BB := Lib.hid (bt (bt BB.out b5) (below_alloc1 x5 (.cells (flatF [(fOct 5, gb5)]).toArray 57)))
  clear b5 kb5
  unfold fldV
  go_wp2_with ((with_reducible show wpList _ _ _ (⟨some 23, _, _, _, _, _⟩ :: _) _ _); refine Marker.mk ?_)
  refine Marker.in ?_
  change wpList _ _ _ _ _ (x5.alloc (.cells (flatF [(fOct 5, gb5)]).toArray 57))
  have hz5 : w.heap.size ≤ (x5.alloc (.cells (flatF [(fOct 5, gb5)]).toArray 57)).heap.size := BB.out.size
  obtain ⟨A6, cp6, y5, hrun, k, b⟩ := run_append_fld0 _ w.heap.size gm _ _ _ 5 rfl K5.out (fOct 5) gb5 x5.heap.size 1 (by omega) HB5.out HA.out (by omega) hz5 48
  (with_reducible refine wpRow_run ?_ (run_op_append (s := .tmp 15) (y := .tmp 22) ?_ ?_ ?_ hrun) ?_)
  · exact wanted0 rfl
  · rfl
  · rfl
  · rfl
  have K6 := Lib.hid k
  replace BB := Lib.hid (BB.out.trans b)
  clear k b hrun HA HB5 K5 hz5 lx5
  go_wp2_with fail
  rw [rounds_succ]
  go_wp2_with fail
  ((with_reducible refine (octet_any gm 12 _).mono ?_))
  rintro e x6 ⟨v6, rfl, ⟨gb6, rfl, lb6, kb6⟩, b6⟩
  have lx6 := BB.out.size
  replace K6 := Lib.hid ((K6.out.below b6).below (below_alloc1 x6 (.cells (flatF [(fOct 6, gb6)]).toArray 57)))
  have HA := Lib.hid (Blk.new x6 (flatF [(fOct 6, gb6)]).toArray 57)
  have HB6 := Lib.hid (Blk.alloc kb6 (.cells (flatF [(fOct 6, gb6)]).toArray 57))
  replace BB := Lib.hid (bt (bt BB.out b6) (below_alloc1 x6 (.cells (flatF [(fOct 6, gb6)]).toArray 57)))
  clear b6 kb6
  unfold fldV
  go_wp2_with ((with_reducible show wpList _ _ _ (⟨some 23, _, _, _, _, _⟩ :: _) _ _); refine Marker.mk ?_)
  refine Marker.in ?_
  change wpList _ _ _ _ _ (x6.alloc (.cells (flatF [(fOct 6, gb6)]).toArray 57))
  have hz6 : w.heap.size ≤ (x6.alloc (.cells (flatF [(fOct 6, gb6)]).toArray 57)).heap.size := BB.out.size
  obtain ⟨A7, cp7, y6, hrun, k, b⟩ := run_append_fld0 _ w.heap.size gm _ _ _ 6 rfl K6.out (fOct 6) gb6 x6.heap.size 1 (by omega) HB6.out HA.out (by omega) hz6 48
  (with_reducible refine wpRow_run ?_ (run_op_append (s := .tmp 15) (y := .tmp 22) ?_ ?_ ?_ hrun) ?_)
  · exact wanted0 rfl
  · rfl
  · rfl
  · rfl
  have K7 := Lib.hid k
  replace BB := Lib.hid (BB.out.trans b)
  clear k b hrun HA HB6 K6 hz6 lx6
  go_wp2_with fail
  rw [rounds_succ]
  go_wp2_with fail
  ((with_reducible refine (octet_any gm 13 _).mono ?_))
  rintro e x7 ⟨v7, rfl, ⟨gb7, rfl, lb7, kb7⟩, b7⟩
  have lx7 := BB.out.size
  replace K7 := Lib.hid ((K7.out.below b7).below (below_alloc1 x7 (.cells (flatF [(fOct 7, gb7)]).toArray 57)))
  have HA := Lib.hid (Blk.new x7 (flatF [(fOct 7, gb7)]).toArray 57)
  have HB7 := Lib.hid (Blk.alloc kb7 (.cells (flatF [(fOct 7, gb7)]).toArray 57))
  replace BB := Lib.hid (bt (bt BB.out b7) (below_alloc1 x7 (.cells (flatF [(fOct 7, gb7)]).toArray 57)))
  clear b7 kb7
  unfold fldV
  go_wp2_with ((with_reducible show wpList _ _ _ (⟨some 23, _, _, _, _, _⟩ :: _) _ _); refine Marker.mk ?_)
  refine Marker.in ?_
  change wpList _ _ _ _ _ (x7.alloc (.cells (flatF [(fOct 7, gb7)]).toArray 57))
  have hz7 : w.heap.size ≤ (x7.alloc (.cells (flatF [(fOct 7, gb7)]).toArray 57)).heap.size := BB.out.size
  obtain ⟨A8, cp8, y7, hrun, k, b⟩ := run_append_fld0 _ w.heap.size gm _ _ _ 7 rfl K7.out (fOct 7) gb7 x7.heap.size 1 (by omega) HB7.out HA.out (by omega) hz7 48
  (with_reducible refine wpRow_run ?_ (run_op_append (s := .tmp 15) (y := .tmp 22) ?_ ?_ ?_ hrun) ?_)
  · exact wanted0 rfl
  · rfl
  · rfl
  · rfl
  have K8 := Lib.hid k
  replace BB := Lib.hid (BB.out.trans b)
  clear k b hrun HA HB7 K7 hz7 lx7
  go_wp2_with fail
  rw [rounds_succ]
  go_wp2_with fail
  go_ret2
  obtain ⟨gl, hA, hfl⟩ := K8.out.fls (by simp)
  subst hA
  exact ⟨_, _, _, rfl, rfl, hfl, BB.out⟩
end Go.Proofs.Ytakahkpogooepaa
