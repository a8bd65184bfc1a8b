/- msg: a message's cells, a field, its number read and set. -/
import Derived.Test.YtakahkpogooepaaStep
import Derived.Test.YtakahkpogooepaaGrow
import Derived.Test.YtakahkpogooepaaConv
import Derived.Laws.EntriesVeiled
namespace Go.Proofs.Ytakahkpogooepaa
open Go.RowKit

/-- the cells of a message: twelve numbers, of which the eighth is told as a bool -/
def msgV (l : List Int) : Array Value := ((List.range 12).map fun i => if i = 7 then Value.bool (l.getD 7 0 == 1) else .int .i64 (l.getD i 0)).toArray
theorem msgV_size (l : List Int) : (msgV l).size = 12 := by simp [msgV]
theorem msgV_get (l : List Int) (i : Nat) (h : i < 12) : (msgV l)[i]? = some (if i = 7 then Value.bool (l.getD 7 0 == 1) else .int .i64 (l.getD i 0)) := by
  simp [msgV, h]
theorem msgV_one (l : List Int) : (msgV l).all (·.oneCell') = true := by
  rw [Array.all_eq_true]
  intro i hi
  simp only [msgV, List.getElem_toArray, List.getElem_map]
  split <;> rfl
theorem msgV_set (l : List Int) (hl : l.length = 12) (o : Nat) (ho : o < 12) (n : Int) : (msgV l).setIfInBounds o (if o = 7 then Value.bool (n == 1) else .int .i64 n) = msgV (l.set o n) := by
  apply Array.ext_getElem?
  intro j
  rw [Array.getElem?_setIfInBounds]
  by_cases h : o = j
  · subst h
    rw [if_pos rfl, if_pos (by rw [msgV_size]; exact ho), msgV_get _ _ ho]
    by_cases h7 : o = 7
    · subst h7; simp [hl]
    · rw [if_neg h7, if_neg h7]; simp [hl, ho]
  · rw [if_neg h]
    by_cases hj : j < 12
    · rw [msgV_get _ _ hj, msgV_get _ _ hj]
      have e1 : ∀ k, k ≠ o → (l.set o n).getD k 0 = l.getD k 0 := fun k hk => by simp [List.getD_eq_getElem?_getD, List.getElem?_set_ne (Ne.symm hk)]
      by_cases h7 : j = 7
      · subst h7; rw [if_pos rfl, if_pos rfl, e1 7 (Ne.symm h)]
      · rw [if_neg h7, if_neg h7, e1 j (Ne.symm h)]
    · rw [Array.getElem?_eq_none (by rw [msgV_size]; omega), Array.getElem?_eq_none (by rw [msgV_size]; omega)]

/-- a field: of which kind (0 a number, 1 the bool, 2 a code, 3 an octet); its size, least, greatest number, and where it lies -/
structure FD where
  kd : Nat
  (size lo hi : Int)
  off : Nat
def FD.get (d : FD) : Nat := if d.kd = 1 then 45 else
  if d.kd = 2 then 55 else
  if d.kd = 3 then 53 else
  47
def FD.set (d : FD) : Nat := if d.kd = 1 then 46 else
  if d.kd = 2 then 56 else
  if d.kd = 3 then 54 else
  48
def FD.box (d : FD) : TypeId := if d.kd = 1 then 71 else
  if d.kd = 2 then 80 else
  if d.kd = 3 then 78 else
  69
def FD.ok (d : FD) : Prop := d.off < 12 ∧ d.kd ≤ 1 ∧ (d.kd = 1 ↔ d.off = 7)
theorem FD.get0 {d : FD} (h : d.kd = 0) : d.get = 47 := by unfold FD.get; rw [h]; rfl
theorem FD.set0 {d : FD} (h : d.kd = 0) : d.set = 48 := by unfold FD.set; rw [h]; rfl
theorem FD.box0 {d : FD} (h : d.kd = 0) : d.box = 69 := by unfold FD.box; rw [h]; rfl
theorem FD.get1 {d : FD} (h : d.kd = 1) : d.get = 45 := by unfold FD.get; rw [h]; rfl
theorem FD.set1 {d : FD} (h : d.kd = 1) : d.set = 46 := by unfold FD.set; rw [h]; rfl
theorem FD.box1 {d : FD} (h : d.kd = 1) : d.box = 71 := by unfold FD.box; rw [h]; rfl
def fldV (d : FD) (gb : Nat) : Array Value := #[.int .i64 d.size, .int .i64 d.lo, .int .i64 d.hi, .func (.func d.get) #[] #[.pointer (some ⟨gb, 0, none⟩)], .func (.func d.set) #[] #[.pointer (some ⟨gb, 0, none⟩)]]
theorem fldV_one (d : FD) (gb : Nat) : (fldV d gb).all (·.oneCell') = true := by simp [fldV, Value.oneCell']
def Box (w : World) (d : FD) (gm gb : Nat) : Prop := Blk w gb #[.pointer (some ⟨gm, d.off, none⟩)] d.box
theorem agg_fld : AggT Try.prog 57 5 := ⟨⟨_, Try.underlying57, rfl⟩, by kernel_rfl⟩
theorem agg_msg : AggT Try.prog 24 12 := ⟨⟨_, Try.underlying24, rfl⟩, by kernel_rfl⟩
def zfld : Array Value := #[.int .i64 0, .int .i64 0, .int .i64 0, .nilFunc, .nilFunc]
theorem zeroT_fld : ZeroT Try.prog 57 zfld := by
  intro ev o w ho
  unfold execOp
  simp only [ho]
  simp [go_sem]
  exact congrArg (fun c => w.alloc (.cells c 57)) (by kernel_rfl)
theorem zeroT_msg : ZeroT Try.prog 24 (msgV (List.replicate 12 0)) := by
  intro ev o w ho
  unfold execOp
  simp only [ho]
  simp [go_sem]
  exact congrArg (fun c => w.alloc (.cells c 24)) (by kernel_rfl)

/-! ### the number read -/
set_option maxRecDepth 100000 in
set_option maxHeartbeats 400000 in
theorem get_num (gb gm o : Nat) (n : Int) (w : World) (hb : Blk w gb #[.pointer (some ⟨gm, o, none⟩)] 69) (hc : w.cell? ⟨gm, o, none⟩ = some (.int .i64 n)) :
    Calls Try.prog 47 #[.pointer (some ⟨gb, 0, none⟩)] w fun e w' => e = .returned (.int .i64 n) ∧ w = w' := by
  have c0 := hb.cell 0
  simp only [List.getElem?_toArray, List.getElem?_cons_zero] at c0
  clear hb
  go_enter Try.func47, Try.ntmps47
  go_wp2_with fail
  go_ret
  exact ⟨rfl, rfl⟩
set_option maxRecDepth 100000 in
set_option maxHeartbeats 400000 in
theorem get_now (gb gm o : Nat) (b : Bool) (w : World) (hb : Blk w gb #[.pointer (some ⟨gm, o, none⟩)] 71) (hc : w.cell? ⟨gm, o, none⟩ = some (.bool b)) :
    Calls Try.prog 45 #[.pointer (some ⟨gb, 0, none⟩)] w fun e w' => e = .returned (.int .i64 (if b then 1 else 0)) ∧ w = w' := by
  have c0 := hb.cell 0
  simp only [List.getElem?_toArray, List.getElem?_cons_zero] at c0
  clear hb
  cases b
  · go_enter Try.func45, Try.ntmps45
    go_wp2_with fail
    go_ret
    exact ⟨rfl, rfl⟩
  · go_enter Try.func45, Try.ntmps45
    go_wp2_with fail
    go_ret
    exact ⟨rfl, rfl⟩
/-- a message that is: twelve numbers, the bool's 0 or 1 -/
def IsMsgL (l : List Int) : Prop := l.length = 12 ∧ (l.getD 7 0 = 0 ∨ l.getD 7 0 = 1)
theorem get_fld (d : FD) (gb gm : Nat) (l : List Int) (w : World) (hd : d.ok) (hl : IsMsgL l) (hb : Box w d gm gb) (hm : Blk w gm (msgV l) 24) :
    Calls Try.prog d.get #[.pointer (some ⟨gb, 0, none⟩)] w fun e w' => e = .returned (.int .i64 (l.getD d.off 0)) ∧ w = w' := by
  have hc := hm.cell d.off
  rw [msgV_get _ _ hd.1] at hc
  unfold Box at hb
  by_cases hn : d.kd = 1
  · have h7 := hd.2.2.1 hn
    rw [FD.box1 hn] at hb
    rw [FD.get1 hn]
    rw [h7] at hc hb ⊢
    rw [if_pos rfl] at hc
    refine (get_now gb gm 7 _ w hb hc).mono fun e w' ⟨he, hw⟩ => ⟨?_, hw⟩
    rw [he]
    rcases hl.2 with h | h <;> rw [h] <;> rfl
  · have h7 : d.off ≠ 7 := fun h => hn (hd.2.2.2 h)
    have h0 : d.kd = 0 := by have := hd.2.1; omega
    rw [FD.box0 h0] at hb
    rw [FD.get0 h0]
    rw [if_neg h7] at hc
    exact get_num gb gm d.off _ w hb hc

/-! ### the number set -/
set_option maxRecDepth 100000 in
set_option maxHeartbeats 400000 in
theorem set_num (gb gm o : Nat) (n m : Int) (w : World) (hb : Blk w gb #[.pointer (some ⟨gm, o, none⟩)] 69) (hc : w.cell? ⟨gm, o, none⟩ = some (.int .i64 m)) (hf : w.frozen? ⟨gm, o, none⟩ = false) :
    Calls Try.prog 48 #[.int .i64 n, .pointer (some ⟨gb, 0, none⟩)] w fun e w' => e = .returned (.tuple #[]) ∧ w.setCell ⟨gm, o, none⟩ (.int .i64 n) = w' := by
  have c0 := hb.cell 0
  simp only [List.getElem?_toArray, List.getElem?_cons_zero] at c0
  clear hb
  go_enter Try.func48, Try.ntmps48
  go_wp2_with fail
  go_end0
  exact ⟨rfl, rfl⟩
set_option maxRecDepth 100000 in
set_option maxHeartbeats 400000 in
theorem set_now (gb gm o : Nat) (n : Int) (b : Bool) (w : World) (hb : Blk w gb #[.pointer (some ⟨gm, o, none⟩)] 71) (hc : w.cell? ⟨gm, o, none⟩ = some (.bool b)) (hf : w.frozen? ⟨gm, o, none⟩ = false) :
    Calls Try.prog 46 #[.int .i64 n, .pointer (some ⟨gb, 0, none⟩)] w fun e w' => e = .returned (.tuple #[]) ∧ w.setCell ⟨gm, o, none⟩ (.bool (n == 1)) = w' := by
  have c0 := hb.cell 0
  simp only [List.getElem?_toArray, List.getElem?_cons_zero] at c0
  clear hb
  go_enter Try.func46, Try.ntmps46
  go_wp2_with fail
  go_end0
  exact ⟨rfl, rfl⟩
theorem set_fld (d : FD) (gb gm : Nat) (l : List Int) (n : Int) (w : World) (hd : d.ok) (hl : IsMsgL l) (hb : Box w d gm gb) (hm : Blk w gm (msgV l) 24) :
    Calls Try.prog d.set #[.int .i64 n, .pointer (some ⟨gb, 0, none⟩)] w fun e w' => e = .returned (.tuple #[]) ∧ Blk w' gm (msgV (l.set d.off n)) 24 ∧ (∀ k, k ≠ gm → w'.heap[k]? = w.heap[k]?) ∧ w'.heap.size = w.heap.size ∧ Below gm w w' := by
  have hc := hm.cell d.off
  have hf := hm.frozen d.off
  rw [msgV_get _ _ hd.1] at hc
  have fin : ∀ v, v = (if d.off = 7 then Value.bool (n == 1) else .int .i64 n) → Blk (w.setCell ⟨gm, d.off, none⟩ v) gm (msgV (l.set d.off n)) 24 ∧ (∀ k, k ≠ gm → (w.setCell ⟨gm, d.off, none⟩ v).heap[k]? = w.heap[k]?) ∧ (w.setCell ⟨gm, d.off, none⟩ v).heap.size = w.heap.size ∧ Below gm w (w.setCell ⟨gm, d.off, none⟩ v) := by
    intro v hv
    subst hv
    refine ⟨?_, fun k hk => Below.heap_setCell _ _ _ _ hk, by simp [World.setCell], (Below.refl gm w).setCell (p := ⟨gm, d.off, none⟩) (Nat.le_refl _) _⟩
    have h := hm.set d.off (if d.off = 7 then Value.bool (n == 1) else .int .i64 n)
    rw [msgV_set l hl.1 _ hd.1] at h
    exact h
  unfold Box at hb
  by_cases hn : d.kd = 1
  · have h7 := hd.2.2.1 hn
    rw [FD.box1 hn] at hb
    rw [FD.set1 hn]
    have fin7 := fin (.bool (n == 1)) (by rw [if_pos h7])
    rw [h7] at hc hb hf fin7 ⊢
    rw [if_pos rfl] at hc
    exact (set_now gb gm 7 n _ w hb hc hf).mono fun e w' ⟨he, hw⟩ => ⟨he, by rw [← hw]; exact fin7⟩
  · have h7 : d.off ≠ 7 := fun h => hn (hd.2.2.2 h)
    have h0 : d.kd = 0 := by have := hd.2.1; omega
    rw [FD.box0 h0] at hb
    rw [FD.set0 h0]
    rw [if_neg h7] at hc
    have fin8 := fin (.int .i64 n) (by rw [if_neg h7])
    exact (set_num gb gm d.off n _ w hb hc hf).mono fun e w' ⟨he, hw⟩ => ⟨he, by rw [← hw]; exact fin8⟩

/-! ### fields made -/
/-- the value of a field of d over the message at gm -/
def FV (w : World) (base gm : Nat) (d : FD) (v : Value) : Prop := ∃ gb, v = .agg (fldV d gb) ∧ base ≤ gb ∧ Box w d gm gb
theorem FV.below {w w' : World} {base gm : Nat} {d : FD} {v : Value} (h : FV w base gm d v) (hb : Below w.heap.size w w') : FV w' base gm d v := by
  obtain ⟨gb, e, l, k⟩ := h
  exact ⟨gb, e, l, k.below hb⟩
theorem build_fld (d : FD) (gb : Nat) : Try.prog.built 57 [(0, .int .i64 d.size), (1, .int .i64 d.lo), (2, .int .i64 d.hi), (3, .func (.func d.get) #[] #[.pointer (some ⟨gb, 0, none⟩)]), (4, .func (.func d.set) #[] #[.pointer (some ⟨gb, 0, none⟩)])] = some (fldV d gb) := by kernel_rfl
theorem build_now (d : FD) (gb : Nat) (h0 : d.lo = 0) : Try.prog.built 57 [(0, .int .i64 d.size), (2, .int .i64 d.hi), (3, .func (.func d.get) #[] #[.pointer (some ⟨gb, 0, none⟩)]), (4, .func (.func d.set) #[] #[.pointer (some ⟨gb, 0, none⟩)])] = some (fldV d gb) := by
  unfold fldV
  rw [h0]
  kernel_rfl
set_option maxRecDepth 100000 in
set_option maxHeartbeats 400000 in
theorem number_any (d : FD) (hd : d.kd = 0) (gm : Nat) (w : World) :
    Calls Try.prog 38 #[.pointer (some ⟨gm, d.off, none⟩), .int .i64 d.size, .int .i64 d.lo, .int .i64 d.hi] w fun e w' => ∃ v, e = .returned v ∧ FV w' w.heap.size gm d v ∧ Below w.heap.size w w' := by
  have hg := FD.get0 hd
  have hs := FD.set0 hd
  have hx := FD.box0 hd
  have BF := build_fld d w.heap.size
  rw [hg, hs] at BF
  have O1 := Lib.hid (fldV_one d w.heap.size)
  have FSz : Hid ((fldV d w.heap.size).size = 5) := Lib.hid rfl
  have HV : Hid (fldV d w.heap.size = fldV d w.heap.size) := Lib.hid rfl
  generalize hfv : fldV d w.heap.size = fv at *
  replace hfv := Lib.hid hfv
  replace BF := Lib.hid BF
  clear HV hg hs
  have HX := Lib.hid hx
  clear hx
  have HB : Hid (∀ W : World, Blk W w.heap.size #[.pointer (some ⟨gm, d.off, none⟩)] 69 → FV W w.heap.size gm d (.agg fv)) := Lib.hid fun W h => ⟨w.heap.size, by rw [hfv.out], Nat.le_refl _, by unfold Box; rw [HX.out]; exact h⟩
  clear HX hfv
  generalize d.size = sz at *
  generalize d.lo = lo at *
  generalize d.hi = hi at *
  generalize d.off = of at *
  go_enter Try.func38, Try.ntmps38
  go_wp2_with ((with_reducible show wpList _ _ _ (⟨_, .alloc 57, _, _, _, none⟩ :: _) _ _); (with_reducible refine wpRow_alloc zeroT_fld ?_ ?_ ?_); (· exact wanted0 rfl); (· rfl); refine Marker.mk ?_)
  refine Marker.in ?_
  have K4 := Lib.hid ((Blk.new w #[.pointer (some ⟨gm, of, none⟩)] 69).alloc (.cells zfld 57))
  have K8 := Lib.hid (Blk.new' (w.alloc (.cells #[.pointer (some ⟨gm, of, none⟩)] 69)) zfld 57 (g := w.heap.size + 1) (by simp))
  have BB := Lib.hid (below_alloc2 w (.cells #[.pointer (some ⟨gm, of, none⟩)] 69) (.cells zfld 57))
  generalize (w.alloc (.cells #[.pointer (some ⟨gm, of, none⟩)] 69)).alloc (.cells zfld 57) = w1 at *
  go_wp2_with (first | ((with_reducible show wpList _ _ _ (⟨some 14, _, _, _, _, _⟩ :: _) _ _); refine wpList_build' rfl 57 _ rfl fv BF.out ?_) | ((with_reducible show wpList _ _ _ (⟨_, .store 57 _ _, _, _, _, none⟩ :: _) _ _); (with_reducible refine wpBlk_store (g := w.heap.size + 1) (cs := fv) agg_fld ?_ ?_ K8 ?_ ?_ ?_ ?_); (· exact wanted0 rfl); (· exact ⟨rfl, rfl, rfl⟩); (· rfl); (· exact FSz.out); (· exact O1.out)))
  refine bodyPost_ret (v := .agg fv) (results_blk agg_fld rfl _ _ (w.heap.size + 1) _ rfl (K8.out.setRow _) FSz.out) rfl ⟨_, rfl, HB.out _ (K4.out.setRow_other _ _ (by omega)), below_setRow BB.out (by omega) _⟩
end Go.Proofs.Ytakahkpogooepaa
