/- msg: a reply's cells; its fields read, set, made. -/
import Derived.Test.YtakahkpogooepaaMsgL
namespace Go.Proofs.Ytakahkpogooepaa
open Go.RowKit

/-- the cells of a reply: fourteen numbers, of which the last eight are bytes -/
def repV (l : List Int) : Array Value := ((List.range 14).map fun i => if 6 ≤ i then Value.int .u8 (l.getD i 0) else .int .i64 (l.getD i 0)).toArray
theorem repV_size (l : List Int) : (repV l).size = 14 := by simp [repV]
theorem repV_get (l : List Int) (i : Nat) (h : i < 14) : (repV l)[i]? = some (if 6 ≤ i then Value.int .u8 (l.getD i 0) else .int .i64 (l.getD i 0)) := by
  simp [repV, h]
theorem repV_one (l : List Int) : (repV l).all (·.oneCell') = true := by
  rw [Array.all_eq_true]
  intro i hi
  simp only [repV, List.getElem_toArray, List.getElem_map]
  split <;> rfl
theorem repV_set (l : List Int) (hl : l.length = 14) (o : Nat) (ho : o < 14) (n : Int) : (repV l).setIfInBounds o (if 6 ≤ o then Value.int .u8 n else .int .i64 n) = repV (l.set o n) := by
  apply Array.ext_getElem?
  intro j
  rw [Array.getElem?_setIfInBounds]
  by_cases h : o = j
  · subst h
    rw [if_pos rfl, if_pos (by rw [repV_size]; exact ho), repV_get _ _ ho]
    have e : (l.set o n).getD o 0 = n := by simp [hl, ho]
    rw [e]
  · rw [if_neg h]
    by_cases hj : j < 14
    · rw [repV_get _ _ hj, repV_get _ _ hj]
      have e1 : (l.set o n).getD j 0 = l.getD j 0 := by simp [List.getD_eq_getElem?_getD, List.getElem?_set_ne h]
      rw [e1]
    · rw [Array.getElem?_eq_none (by rw [repV_size]; omega), Array.getElem?_eq_none (by rw [repV_size]; omega)]
theorem agg_rep : AggT Try.prog 40 14 := ⟨⟨_, Try.underlying40, rfl⟩, by kernel_rfl⟩
theorem zeroT_rep : ZeroT Try.prog 40 (repV (List.replicate 14 0)) := by
  intro ev o w ho
  unfold execOp
  simp only [ho]
  simp [go_sem]
  exact congrArg (fun c => w.alloc (.cells c 40)) (by kernel_rfl)
def IsRepL (l : List Int) : Prop := l.length = 14 ∧ ∀ i, 6 ≤ i → i < 14 → 0 ≤ l.getD i 0 ∧ l.getD i 0 ≤ 255
def FD.okR (d : FD) : Prop := d.off < 14 ∧ (d.kd = 0 ∨ d.kd = 2 ∨ d.kd = 3) ∧ (d.kd = 3 ↔ 6 ≤ d.off)
theorem FD.get2 {d : FD} (h : d.kd = 2) : d.get = 55 := by unfold FD.get; rw [h]; rfl
theorem FD.set2 {d : FD} (h : d.kd = 2) : d.set = 56 := by unfold FD.set; rw [h]; rfl
theorem FD.box2 {d : FD} (h : d.kd = 2) : d.box = 80 := by unfold FD.box; rw [h]; rfl
theorem FD.get3 {d : FD} (h : d.kd = 3) : d.get = 53 := by unfold FD.get; rw [h]; rfl
theorem FD.set3 {d : FD} (h : d.kd = 3) : d.set = 54 := by unfold FD.set; rw [h]; rfl
theorem FD.box3 {d : FD} (h : d.kd = 3) : d.box = 78 := by unfold FD.box; rw [h]; rfl
set_option maxRecDepth 100000 in
set_option maxHeartbeats 400000 in
theorem get_code (gb gm o : Nat) (n : Int) (w : World) (hb : Blk w gb #[.pointer (some ⟨gm, o, none⟩)] 80) (hc : w.cell? ⟨gm, o, none⟩ = some (.int .i64 n)) :
    Calls Try.prog 55 #[.pointer (some ⟨gb, 0, none⟩)] w fun e w' => e = .returned (.int .i64 n) ∧ w = w' := by
  have c0 := hb.cell 0
  simp only [List.getElem?_toArray, List.getElem?_cons_zero] at c0
  clear hb
  go_enter Try.func55, Try.ntmps55
  go_wp2_with fail
  go_ret
  exact ⟨rfl, rfl⟩
set_option maxRecDepth 100000 in
set_option maxHeartbeats 400000 in
theorem set_code (gb gm o : Nat) (n m : Int) (w : World) (hb : Blk w gb #[.pointer (some ⟨gm, o, none⟩)] 80) (hc : w.cell? ⟨gm, o, none⟩ = some (.int .i64 m)) (hf : w.frozen? ⟨gm, o, none⟩ = false) :
    Calls Try.prog 56 #[.int .i64 n, .pointer (some ⟨gb, 0, none⟩)] w fun e w' => e = .returned (.tuple #[]) ∧ w.setCell ⟨gm, o, none⟩ (.int .i64 n) = w' := by
  have c0 := hb.cell 0
  simp only [List.getElem?_toArray, List.getElem?_cons_zero] at c0
  clear hb
  go_enter Try.func56, Try.ntmps56
  go_wp2_with fail
  go_end0
  exact ⟨rfl, rfl⟩
set_option maxRecDepth 100000 in
set_option maxHeartbeats 400000 in
theorem get_octet (gb gm o : Nat) (n : Int) (w : World) (h0 : 0 ≤ n) (h1 : n ≤ 255) (hb : Blk w gb #[.pointer (some ⟨gm, o, none⟩)] 78) (hc : w.cell? ⟨gm, o, none⟩ = some (.int .u8 n)) :
    Calls Try.prog 53 #[.pointer (some ⟨gb, 0, none⟩)] w fun e w' => e = .returned (.int .i64 n) ∧ w = w' := by
  have c0 := hb.cell 0
  simp only [List.getElem?_toArray, List.getElem?_cons_zero] at c0
  clear hb
  go_enter Try.func53, Try.ntmps53
  go_wp2_with fail
  go_ret
  exact ⟨rfl, rfl⟩
set_option maxRecDepth 100000 in
set_option maxHeartbeats 400000 in
theorem set_octet (gb gm o : Nat) (n m : Int) (w : World) (h0 : 0 ≤ n) (h1 : n ≤ 255) (hb : Blk w gb #[.pointer (some ⟨gm, o, none⟩)] 78) (hc : w.cell? ⟨gm, o, none⟩ = some (.int .u8 m)) (hf : w.frozen? ⟨gm, o, none⟩ = false) :
    Calls Try.prog 54 #[.int .i64 n, .pointer (some ⟨gb, 0, none⟩)] w fun e w' => e = .returned (.tuple #[]) ∧ w.setCell ⟨gm, o, none⟩ (.int .u8 n) = w' := by
  have c0 := hb.cell 0
  simp only [List.getElem?_toArray, List.getElem?_cons_zero] at c0
  clear hb
  go_enter Try.func54, Try.ntmps54
  go_wp2_with fail
  go_end0
  exact ⟨rfl, rfl⟩
theorem get_rfld (d : FD) (gb gm : Nat) (l : List Int) (w : World) (hd : d.okR) (hl : IsRepL l) (hb : Box w d gm gb) (hm : Blk w gm (repV l) 40) :
    Calls Try.prog d.get #[.pointer (some ⟨gb, 0, none⟩)] w fun e w' => e = .returned (.int .i64 (l.getD d.off 0)) ∧ w = w' := by
  obtain ⟨ho, hk, h3⟩ := hd
  have hc := hm.cell d.off
  rw [repV_get _ _ ho] at hc
  unfold Box at hb
  rcases hk with hk | hk | hk
  · rw [if_neg (fun h => by have := h3.2 h; omega)] at hc
    rw [FD.box0 hk] at hb
    rw [FD.get0 hk]
    exact get_num gb gm d.off _ w hb hc
  · rw [if_neg (fun h => by have := h3.2 h; omega)] at hc
    rw [FD.box2 hk] at hb
    rw [FD.get2 hk]
    exact get_code gb gm d.off _ w hb hc
  · rw [if_pos (h3.1 hk)] at hc
    rw [FD.box3 hk] at hb
    rw [FD.get3 hk]
    have h8 := hl.2 d.off (h3.1 hk) ho
    exact get_octet gb gm d.off _ w h8.1 h8.2 hb hc
theorem set_rfld (d : FD) (gb gm : Nat) (l : List Int) (n : Int) (w : World) (hd : d.okR) (hn : d.kd = 3 → 0 ≤ n ∧ n ≤ 255) (hl : IsRepL l) (hb : Box w d gm gb) (hm : Blk w gm (repV l) 40) :
    Calls Try.prog d.set #[.int .i64 n, .pointer (some ⟨gb, 0, none⟩)] w fun e w' => e = .returned (.tuple #[]) ∧ Blk w' gm (repV (l.set d.off n)) 40 ∧ (∀ k, k ≠ gm → w'.heap[k]? = w.heap[k]?) ∧ w'.heap.size = w.heap.size ∧ Below gm w w' := by
  obtain ⟨ho, hk, h3⟩ := hd
  have hc := hm.cell d.off
  have hf := hm.frozen d.off
  rw [repV_get _ _ ho] at hc
  have fin : ∀ v, v = (if 6 ≤ d.off then Value.int .u8 n else .int .i64 n) → Blk (w.setCell ⟨gm, d.off, none⟩ v) gm (repV (l.set d.off n)) 40 ∧ (∀ k, k ≠ gm → (w.setCell ⟨gm, d.off, none⟩ v).heap[k]? = w.heap[k]?) ∧ (w.setCell ⟨gm, d.off, none⟩ v).heap.size = w.heap.size ∧ Below gm w (w.setCell ⟨gm, d.off, none⟩ v) := by
    intro v hv
    subst hv
    refine ⟨?_, fun k hk => Below.heap_setCell _ _ _ _ hk, by simp [World.setCell], (Below.refl gm w).setCell (p := ⟨gm, d.off, none⟩) (Nat.le_refl _) _⟩
    have h := hm.set d.off (if 6 ≤ d.off then Value.int .u8 n else .int .i64 n)
    rw [repV_set l hl.1 _ ho] at h
    exact h
  unfold Box at hb
  rcases hk with hk | hk | hk
  · have h6 : ¬ 6 ≤ d.off := fun h => by have := h3.2 h; omega
    rw [if_neg h6] at hc
    rw [FD.box0 hk] at hb
    rw [FD.set0 hk]
    have fin8 := fin (.int .i64 n) (by rw [if_neg h6])
    exact (set_num gb gm d.off n _ w hb hc hf).mono fun e w' ⟨he, hw⟩ => ⟨he, by rw [← hw]; exact fin8⟩
  · have h6 : ¬ 6 ≤ d.off := fun h => by have := h3.2 h; omega
    rw [if_neg h6] at hc
    rw [FD.box2 hk] at hb
    rw [FD.set2 hk]
    have fin8 := fin (.int .i64 n) (by rw [if_neg h6])
    exact (set_code gb gm d.off n _ w hb hc hf).mono fun e w' ⟨he, hw⟩ => ⟨he, by rw [← hw]; exact fin8⟩
  · have h6 := h3.1 hk
    rw [if_pos h6] at hc
    rw [FD.box3 hk] at hb
    rw [FD.set3 hk]
    have fin8 := fin (.int .u8 n) (by rw [if_pos h6])
    have h8 := hn hk
    exact (set_octet gb gm d.off n _ w h8.1 h8.2 hb hc hf).mono fun e w' ⟨he, hw⟩ => ⟨he, by rw [← hw]; exact fin8⟩
set_option maxRecDepth 100000 in
set_option maxHeartbeats 400000 in
theorem code_any (gm o : Nat) (w : World) :
    Calls Try.prog 44 #[.pointer (some ⟨gm, o, none⟩)] w fun e w' => ∃ v, e = .returned v ∧ FV w' w.heap.size gm ⟨2, 1, 0, 255, o⟩ v ∧ Below w.heap.size w w' := by
  have BF : Try.prog.built 57 [(0, .int .i64 1), (2, .int .i64 255), (3, .func (.func 55) #[] #[.pointer (some ⟨w.heap.size, 0, none⟩)]), (4, .func (.func 56) #[] #[.pointer (some ⟨w.heap.size, 0, none⟩)])] = some (fldV ⟨2, 1, 0, 255, o⟩ w.heap.size) := build_now ⟨2, 1, 0, 255, o⟩ w.heap.size rfl
  have O1 := Lib.hid (fldV_one ⟨2, 1, 0, 255, o⟩ w.heap.size)
  have FSz : Hid ((fldV ⟨2, 1, 0, 255, o⟩ w.heap.size).size = 5) := Lib.hid rfl
  generalize hfv : fldV ⟨2, 1, 0, 255, o⟩ w.heap.size = fv at *
  replace BF := Lib.hid BF
  have HB : Hid (∀ W : World, Blk W w.heap.size #[.pointer (some ⟨gm, o, none⟩)] 80 → FV W w.heap.size gm ⟨2, 1, 0, 255, o⟩ (.agg fv)) := Lib.hid fun W h => ⟨w.heap.size, by rw [hfv], Nat.le_refl _, h⟩
  clear hfv
  go_enter Try.func44, Try.ntmps44
  go_wp2_with ((with_reducible show wpList _ _ _ (⟨_, .alloc 57, _, _, _, none⟩ :: _) _ _); (with_reducible refine wpRow_alloc zeroT_fld ?_ ?_ ?_); (· exact wanted0 rfl); (· rfl); refine Marker.mk ?_)
  refine Marker.in ?_
  have K4 := Lib.hid ((Blk.new w #[.pointer (some ⟨gm, o, none⟩)] 80).alloc (.cells zfld 57))
  have K8 := Lib.hid (Blk.new' (w.alloc (.cells #[.pointer (some ⟨gm, o, none⟩)] 80)) zfld 57 (g := w.heap.size + 1) (by simp))
  have BB := Lib.hid (below_alloc2 w (.cells #[.pointer (some ⟨gm, o, none⟩)] 80) (.cells zfld 57))
  generalize (w.alloc (.cells #[.pointer (some ⟨gm, o, none⟩)] 80)).alloc (.cells zfld 57) = w1 at *
  go_wp2_with (first | ((with_reducible show wpList _ _ _ (⟨some 5, _, _, _, _, _⟩ :: _) _ _); refine wpList_build' rfl 57 _ rfl fv BF.out ?_) | ((with_reducible show wpList _ _ _ (⟨_, .store 57 _ _, _, _, _, none⟩ :: _) _ _); (with_reducible refine wpBlk_store (g := w.heap.size + 1) (cs := fv) agg_fld ?_ ?_ K8 ?_ ?_ ?_ ?_); (· exact wanted0 rfl); (· exact ⟨rfl, rfl, rfl⟩); (· rfl); (· exact FSz.out); (· exact O1.out)))
  refine bodyPost_ret (v := .agg fv) (results_blk agg_fld rfl _ _ (w.heap.size + 1) _ rfl (K8.out.setRow _) FSz.out) rfl ⟨_, rfl, HB.out _ (K4.out.setRow_other _ _ (by omega)), below_setRow BB.out (by omega) _⟩
set_option maxRecDepth 100000 in
set_option maxHeartbeats 400000 in
theorem octet_any (gm o : Nat) (w : World) :
    Calls Try.prog 43 #[.pointer (some ⟨gm, o, none⟩)] w fun e w' => ∃ v, e = .returned v ∧ FV w' w.heap.size gm ⟨3, 1, 0, 255, o⟩ v ∧ Below w.heap.size w w' := by
  have BF : Try.prog.built 57 [(0, .int .i64 1), (2, .int .i64 255), (3, .func (.func 53) #[] #[.pointer (some ⟨w.heap.size, 0, none⟩)]), (4, .func (.func 54) #[] #[.pointer (some ⟨w.heap.size, 0, none⟩)])] = some (fldV ⟨3, 1, 0, 255, o⟩ w.heap.size) := build_now ⟨3, 1, 0, 255, o⟩ w.heap.size rfl
  have O1 := Lib.hid (fldV_one ⟨3, 1, 0, 255, o⟩ w.heap.size)
  have FSz : Hid ((fldV ⟨3, 1, 0, 255, o⟩ w.heap.size).size = 5) := Lib.hid rfl
  generalize hfv : fldV ⟨3, 1, 0, 255, o⟩ w.heap.size = fv at *
  replace BF := Lib.hid BF
  have HB : Hid (∀ W : World, Blk W w.heap.size #[.pointer (some ⟨gm, o, none⟩)] 78 → FV W w.heap.size gm ⟨3, 1, 0, 255, o⟩ (.agg fv)) := Lib.hid fun W h => ⟨w.heap.size, by rw [hfv], Nat.le_refl _, h⟩
  clear hfv
  go_enter Try.func43, Try.ntmps43
  go_wp2_with ((with_reducible show wpList _ _ _ (⟨_, .alloc 57, _, _, _, none⟩ :: _) _ _); (with_reducible refine wpRow_alloc zeroT_fld ?_ ?_ ?_); (· exact wanted0 rfl); (· rfl); refine Marker.mk ?_)
  refine Marker.in ?_
  have K4 := Lib.hid ((Blk.new w #[.pointer (some ⟨gm, o, none⟩)] 78).alloc (.cells zfld 57))
  have K8 := Lib.hid (Blk.new' (w.alloc (.cells #[.pointer (some ⟨gm, o, none⟩)] 78)) zfld 57 (g := w.heap.size + 1) (by simp))
  have BB := Lib.hid (below_alloc2 w (.cells #[.pointer (some ⟨gm, o, none⟩)] 78) (.cells zfld 57))
  generalize (w.alloc (.cells #[.pointer (some ⟨gm, o, none⟩)] 78)).alloc (.cells zfld 57) = w1 at *
  go_wp2_with (first | ((with_reducible show wpList _ _ _ (⟨some 5, _, _, _, _, _⟩ :: _) _ _); refine wpList_build' rfl 57 _ rfl fv BF.out ?_) | ((with_reducible show wpList _ _ _ (⟨_, .store 57 _ _, _, _, _, none⟩ :: _) _ _); (with_reducible refine wpBlk_store (g := w.heap.size + 1) (cs := fv) agg_fld ?_ ?_ K8 ?_ ?_ ?_ ?_); (· exact wanted0 rfl); (· exact ⟨rfl, rfl, rfl⟩); (· rfl); (· exact FSz.out); (· exact O1.out)))
  refine bodyPost_ret (v := .agg fv) (results_blk agg_fld rfl _ _ (w.heap.size + 1) _ rfl (K8.out.setRow _) FSz.out) rfl ⟨_, rfl, HB.out _ (K4.out.setRow_other _ _ (by omega)), below_setRow BB.out (by omega) _⟩
end Go.Proofs.Ytakahkpogooepaa
