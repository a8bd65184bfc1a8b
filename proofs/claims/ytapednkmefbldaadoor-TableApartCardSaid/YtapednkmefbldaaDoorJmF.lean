/- Several texts in one. -/
import Derived.Test.YtapednkmefbldaaDoorStep
import Derived.Test.YtapednkmefbldaaDoorGrow
import Derived.Test.YtapednkmefbldaaDoorConv
import Derived.Laws.EntriesVeiled

/- msg: a message's cells, a field, its number read and set. -/
namespace Go.Proofs.YtapednkmefbldaaDoor
open Go.RowKit

/-- the cells of a message: twelve numbers, of which the eighth is told as a bool -/
def msgV (l : List Int) : Array Value := ((List.range 12).map fun i => if i = 7 then Value.bool (l.getD 7 0 == 1) else .int .i64 (l.getD i 0)).toArray
theorem msgV_size (l : List Int) : (msgV l).size = 12 := by simp [msgV]
theorem msgV_get (l : List Int) (i : Nat) (h : i < 12) : (msgV l)[i]? = some (if i = 7 then Value.bool (l.getD 7 0 == 1) else .int .i64 (l.getD i 0)) := by
  simp [msgV, h]
theorem msgV_one (l : List Int) : (msgV l).all (·.oneCell') = true := by
  rw [Array.all_eq_true]
  intro i hi
  simp only [msgV, List.getElem_toArray, List.getElem_map]
  split <;> rfl
theorem msgV_set (l : List Int) (hl : l.length = 12) (o : Nat) (ho : o < 12) (n : Int) : (msgV l).setIfInBounds o (if o = 7 then Value.bool (n == 1) else .int .i64 n) = msgV (l.set o n) := by
  apply Array.ext_getElem?
  intro j
  rw [Array.getElem?_setIfInBounds]
  by_cases h : o = j
  · subst h
    rw [if_pos rfl, if_pos (by rw [msgV_size]; exact ho), msgV_get _ _ ho]
    by_cases h7 : o = 7
    · subst h7; simp [hl]
    · rw [if_neg h7, if_neg h7]; simp [hl, ho]
  · rw [if_neg h]
    by_cases hj : j < 12
    · rw [msgV_get _ _ hj, msgV_get _ _ hj]
      have e1 : ∀ k, k ≠ o → (l.set o n).getD k 0 = l.getD k 0 := fun k hk => by simp [List.getD_eq_getElem?_getD, List.getElem?_set_ne (Ne.symm hk)]
      by_cases h7 : j = 7
      · subst h7; rw [if_pos rfl, if_pos rfl, e1 7 (Ne.symm h)]
      · rw [if_neg h7, if_neg h7, e1 j (Ne.symm h)]
    · rw [Array.getElem?_eq_none (by rw [msgV_size]; omega), Array.getElem?_eq_none (by rw [msgV_size]; omega)]

/-- a field: of which kind (0 a number, 1 the bool, 2 a code, 3 an octet); its size, least, greatest number, and where it lies -/
structure FD where
  kd : Nat
  (size lo hi : Int)
  off : Nat
def FD.get (d : FD) : Nat := if d.kd = 1 then 80 else
  82
def FD.set (d : FD) : Nat := if d.kd = 1 then 81 else
  83
def FD.box (d : FD) : TypeId := if d.kd = 1 then 134 else
  132
def FD.ok (d : FD) : Prop := d.off < 12 ∧ d.kd ≤ 1 ∧ (d.kd = 1 ↔ d.off = 7)
theorem FD.get0 {d : FD} (h : d.kd = 0) : d.get = 82 := by unfold FD.get; rw [h]; rfl
theorem FD.set0 {d : FD} (h : d.kd = 0) : d.set = 83 := by unfold FD.set; rw [h]; rfl
theorem FD.box0 {d : FD} (h : d.kd = 0) : d.box = 132 := by unfold FD.box; rw [h]; rfl
theorem FD.get1 {d : FD} (h : d.kd = 1) : d.get = 80 := by unfold FD.get; rw [h]; rfl
theorem FD.set1 {d : FD} (h : d.kd = 1) : d.set = 81 := by unfold FD.set; rw [h]; rfl
theorem FD.box1 {d : FD} (h : d.kd = 1) : d.box = 134 := by unfold FD.box; rw [h]; rfl
def fldV (d : FD) (gb : Nat) : Array Value := #[.int .i64 d.size, .int .i64 d.lo, .int .i64 d.hi, .func (.func d.get) #[] #[.pointer (some ⟨gb, 0, none⟩)], .func (.func d.set) #[] #[.pointer (some ⟨gb, 0, none⟩)]]
theorem fldV_one (d : FD) (gb : Nat) : (fldV d gb).all (·.oneCell') = true := by simp [fldV, Value.oneCell']
def Box (w : World) (d : FD) (gm gb : Nat) : Prop := Blk w gb #[.pointer (some ⟨gm, d.off, none⟩)] d.box
theorem agg_fld : AggT Tryd.prog 130 5 := ⟨⟨_, Tryd.underlying130, rfl⟩, by kernel_rfl⟩
theorem agg_msg : AggT Tryd.prog 66 12 := ⟨⟨_, Tryd.underlying66, rfl⟩, by kernel_rfl⟩
def zfld : Array Value := #[.int .i64 0, .int .i64 0, .int .i64 0, .nilFunc, .nilFunc]
theorem zeroT_fld : ZeroT Tryd.prog 130 zfld := by
  intro ev o w ho
  unfold execOp
  simp only [ho]
  simp [go_sem]
  exact congrArg (fun c => w.alloc (.cells c 130)) (by kernel_rfl)
theorem zeroT_msg : ZeroT Tryd.prog 66 (msgV (List.replicate 12 0)) := by
  intro ev o w ho
  unfold execOp
  simp only [ho]
  simp [go_sem]
  exact congrArg (fun c => w.alloc (.cells c 66)) (by kernel_rfl)

/-! ### the number read -/
set_option maxRecDepth 100000 in
set_option maxHeartbeats 400000 in
theorem get_num (gb gm o : Nat) (n : Int) (w : World) (hb : Blk w gb #[.pointer (some ⟨gm, o, none⟩)] 132) (hc : w.cell? ⟨gm, o, none⟩ = some (.int .i64 n)) :
    Calls Tryd.prog 82 #[.pointer (some ⟨gb, 0, none⟩)] w fun e w' => e = .returned (.int .i64 n) ∧ w = w' := by
  have c0 := hb.cell 0
  simp only [List.getElem?_toArray, List.getElem?_cons_zero] at c0
  clear hb
  go_enter Tryd.func82, Tryd.ntmps82
  go_wp2_with fail
  go_ret
  exact ⟨rfl, rfl⟩
set_option maxRecDepth 100000 in
set_option maxHeartbeats 400000 in
theorem get_now (gb gm o : Nat) (b : Bool) (w : World) (hb : Blk w gb #[.pointer (some ⟨gm, o, none⟩)] 134) (hc : w.cell? ⟨gm, o, none⟩ = some (.bool b)) :
    Calls Tryd.prog 80 #[.pointer (some ⟨gb, 0, none⟩)] w fun e w' => e = .returned (.int .i64 (if b then 1 else 0)) ∧ w = w' := by
  have c0 := hb.cell 0
  simp only [List.getElem?_toArray, List.getElem?_cons_zero] at c0
  clear hb
  cases b
  · go_enter Tryd.func80, Tryd.ntmps80
    go_wp2_with fail
    go_ret
    exact ⟨rfl, rfl⟩
  · go_enter Tryd.func80, Tryd.ntmps80
    go_wp2_with fail
    go_ret
    exact ⟨rfl, rfl⟩
/-- a message that is: twelve numbers, the bool's 0 or 1 -/
def IsMsgL (l : List Int) : Prop := l.length = 12 ∧ (l.getD 7 0 = 0 ∨ l.getD 7 0 = 1)
theorem get_fld (d : FD) (gb gm : Nat) (l : List Int) (w : World) (hd : d.ok) (hl : IsMsgL l) (hb : Box w d gm gb) (hm : Blk w gm (msgV l) 66) :
    Calls Tryd.prog d.get #[.pointer (some ⟨gb, 0, none⟩)] w fun e w' => e = .returned (.int .i64 (l.getD d.off 0)) ∧ w = w' := by
  have hc := hm.cell d.off
  rw [msgV_get _ _ hd.1] at hc
  unfold Box at hb
  by_cases hn : d.kd = 1
  · have h7 := hd.2.2.1 hn
    rw [FD.box1 hn] at hb
    rw [FD.get1 hn]
    rw [h7] at hc hb ⊢
    rw [if_pos rfl] at hc
    refine (get_now gb gm 7 _ w hb hc).mono fun e w' ⟨he, hw⟩ => ⟨?_, hw⟩
    rw [he]
    rcases hl.2 with h | h <;> rw [h] <;> rfl
  · have h7 : d.off ≠ 7 := fun h => hn (hd.2.2.2 h)
    have h0 : d.kd = 0 := by have := hd.2.1; omega
    rw [FD.box0 h0] at hb
    rw [FD.get0 h0]
    rw [if_neg h7] at hc
    exact get_num gb gm d.off _ w hb hc

/-! ### the number set -/
set_option maxRecDepth 100000 in
set_option maxHeartbeats 400000 in
theorem set_num (gb gm o : Nat) (n m : Int) (w : World) (hb : Blk w gb #[.pointer (some ⟨gm, o, none⟩)] 132) (hc : w.cell? ⟨gm, o, none⟩ = some (.int .i64 m)) (hf : w.frozen? ⟨gm, o, none⟩ = false) :
    Calls Tryd.prog 83 #[.int .i64 n, .pointer (some ⟨gb, 0, none⟩)] w fun e w' => e = .returned (.tuple #[]) ∧ w.setCell ⟨gm, o, none⟩ (.int .i64 n) = w' := by
  have c0 := hb.cell 0
  simp only [List.getElem?_toArray, List.getElem?_cons_zero] at c0
  clear hb
  go_enter Tryd.func83, Tryd.ntmps83
  go_wp2_with fail
  go_end0
  exact ⟨rfl, rfl⟩
set_option maxRecDepth 100000 in
set_option maxHeartbeats 400000 in
theorem set_now (gb gm o : Nat) (n : Int) (b : Bool) (w : World) (hb : Blk w gb #[.pointer (some ⟨gm, o, none⟩)] 134) (hc : w.cell? ⟨gm, o, none⟩ = some (.bool b)) (hf : w.frozen? ⟨gm, o, none⟩ = false) :
    Calls Tryd.prog 81 #[.int .i64 n, .pointer (some ⟨gb, 0, none⟩)] w fun e w' => e = .returned (.tuple #[]) ∧ w.setCell ⟨gm, o, none⟩ (.bool (n == 1)) = w' := by
  have c0 := hb.cell 0
  simp only [List.getElem?_toArray, List.getElem?_cons_zero] at c0
  clear hb
  go_enter Tryd.func81, Tryd.ntmps81
  go_wp2_with fail
  go_end0
  exact ⟨rfl, rfl⟩
theorem set_fld (d : FD) (gb gm : Nat) (l : List Int) (n : Int) (w : World) (hd : d.ok) (hl : IsMsgL l) (hb : Box w d gm gb) (hm : Blk w gm (msgV l) 66) :
    Calls Tryd.prog d.set #[.int .i64 n, .pointer (some ⟨gb, 0, none⟩)] w fun e w' => e = .returned (.tuple #[]) ∧ Blk w' gm (msgV (l.set d.off n)) 66 ∧ (∀ k, k ≠ gm → w'.heap[k]? = w.heap[k]?) ∧ w'.heap.size = w.heap.size ∧ Below gm w w' := by
  have hc := hm.cell d.off
  have hf := hm.frozen d.off
  rw [msgV_get _ _ hd.1] at hc
  have fin : ∀ v, v = (if d.off = 7 then Value.bool (n == 1) else .int .i64 n) → Blk (w.setCell ⟨gm, d.off, none⟩ v) gm (msgV (l.set d.off n)) 66 ∧ (∀ k, k ≠ gm → (w.setCell ⟨gm, d.off, none⟩ v).heap[k]? = w.heap[k]?) ∧ (w.setCell ⟨gm, d.off, none⟩ v).heap.size = w.heap.size ∧ Below gm w (w.setCell ⟨gm, d.off, none⟩ v) := by
    intro v hv
    subst hv
    refine ⟨?_, fun k hk => Below.heap_setCell _ _ _ _ hk, by simp [World.setCell], (Below.refl gm w).setCell (p := ⟨gm, d.off, none⟩) (Nat.le_refl _) _⟩
    have h := hm.set d.off (if d.off = 7 then Value.bool (n == 1) else .int .i64 n)
    rw [msgV_set l hl.1 _ hd.1] at h
    exact h
  unfold Box at hb
  by_cases hn : d.kd = 1
  · have h7 := hd.2.2.1 hn
    rw [FD.box1 hn] at hb
    rw [FD.set1 hn]
    have fin7 := fin (.bool (n == 1)) (by rw [if_pos h7])
    rw [h7] at hc hb hf fin7 ⊢
    rw [if_pos rfl] at hc
    exact (set_now gb gm 7 n _ w hb hc hf).mono fun e w' ⟨he, hw⟩ => ⟨he, by rw [← hw]; exact fin7⟩
  · have h7 : d.off ≠ 7 := fun h => hn (hd.2.2.2 h)
    have h0 : d.kd = 0 := by have := hd.2.1; omega
    rw [FD.box0 h0] at hb
    rw [FD.set0 h0]
    rw [if_neg h7] at hc
    have fin8 := fin (.int .i64 n) (by rw [if_neg h7])
    exact (set_num gb gm d.off n _ w hb hc hf).mono fun e w' ⟨he, hw⟩ => ⟨he, by rw [← hw]; exact fin8⟩

/-! ### fields made -/
/-- the value of a field of d over the message at gm -/
def FV (w : World) (base gm : Nat) (d : FD) (v : Value) : Prop := ∃ gb, v = .agg (fldV d gb) ∧ base ≤ gb ∧ Box w d gm gb
theorem FV.below {w w' : World} {base gm : Nat} {d : FD} {v : Value} (h : FV w base gm d v) (hb : Below w.heap.size w w') : FV w' base gm d v := by
  obtain ⟨gb, e, l, k⟩ := h
  exact ⟨gb, e, l, k.below hb⟩
theorem build_fld (d : FD) (gb : Nat) : Tryd.prog.built 130 [(0, .int .i64 d.size), (1, .int .i64 d.lo), (2, .int .i64 d.hi), (3, .func (.func d.get) #[] #[.pointer (some ⟨gb, 0, none⟩)]), (4, .func (.func d.set) #[] #[.pointer (some ⟨gb, 0, none⟩)])] = some (fldV d gb) := by kernel_rfl
theorem build_now (d : FD) (gb : Nat) (h0 : d.lo = 0) : Tryd.prog.built 130 [(0, .int .i64 d.size), (2, .int .i64 d.hi), (3, .func (.func d.get) #[] #[.pointer (some ⟨gb, 0, none⟩)]), (4, .func (.func d.set) #[] #[.pointer (some ⟨gb, 0, none⟩)])] = some (fldV d gb) := by
  unfold fldV
  rw [h0]
  kernel_rfl
set_option maxRecDepth 100000 in
set_option maxHeartbeats 400000 in
theorem number_any (d : FD) (hd : d.kd = 0) (gm : Nat) (w : World) :
    Calls Tryd.prog 74 #[.pointer (some ⟨gm, d.off, none⟩), .int .i64 d.size, .int .i64 d.lo, .int .i64 d.hi] w fun e w' => ∃ v, e = .returned v ∧ FV w' w.heap.size gm d v ∧ Below w.heap.size w w' := by
  have hg := FD.get0 hd
  have hs := FD.set0 hd
  have hx := FD.box0 hd
  have BF := build_fld d w.heap.size
  rw [hg, hs] at BF
  have O1 := Lib.hid (fldV_one d w.heap.size)
  have FSz : Hid ((fldV d w.heap.size).size = 5) := Lib.hid rfl
  have HV : Hid (fldV d w.heap.size = fldV d w.heap.size) := Lib.hid rfl
  generalize hfv : fldV d w.heap.size = fv at *
  replace hfv := Lib.hid hfv
  replace BF := Lib.hid BF
  clear HV hg hs
  have HX := Lib.hid hx
  clear hx
  have HB : Hid (∀ W : World, Blk W w.heap.size #[.pointer (some ⟨gm, d.off, none⟩)] 132 → FV W w.heap.size gm d (.agg fv)) := Lib.hid fun W h => ⟨w.heap.size, by rw [hfv.out], Nat.le_refl _, by unfold Box; rw [HX.out]; exact h⟩
  clear HX hfv
  generalize d.size = sz at *
  generalize d.lo = lo at *
  generalize d.hi = hi at *
  generalize d.off = of at *
  go_enter Tryd.func74, Tryd.ntmps74
  go_wp2_with ((with_reducible show wpList _ _ _ (⟨_, .alloc 130, _, _, _, none⟩ :: _) _ _); (with_reducible refine wpRow_alloc zeroT_fld ?_ ?_ ?_); (· exact wanted0 rfl); (· rfl); refine Marker.mk ?_)
  refine Marker.in ?_
  have K4 := Lib.hid ((Blk.new w #[.pointer (some ⟨gm, of, none⟩)] 132).alloc (.cells zfld 130))
  have K8 := Lib.hid (Blk.new' (w.alloc (.cells #[.pointer (some ⟨gm, of, none⟩)] 132)) zfld 130 (g := w.heap.size + 1) (by simp))
  have BB := Lib.hid (below_alloc2 w (.cells #[.pointer (some ⟨gm, of, none⟩)] 132) (.cells zfld 130))
  generalize (w.alloc (.cells #[.pointer (some ⟨gm, of, none⟩)] 132)).alloc (.cells zfld 130) = w1 at *
  go_wp2_with (first | ((with_reducible show wpList _ _ _ (⟨some 14, _, _, _, _, _⟩ :: _) _ _); refine wpList_build' rfl 130 _ rfl fv BF.out ?_) | ((with_reducible show wpList _ _ _ (⟨_, .store 130 _ _, _, _, _, none⟩ :: _) _ _); (with_reducible refine wpBlk_store (g := w.heap.size + 1) (cs := fv) agg_fld ?_ ?_ K8 ?_ ?_ ?_ ?_); (· exact wanted0 rfl); (· exact ⟨rfl, rfl, rfl⟩); (· rfl); (· exact FSz.out); (· exact O1.out)))
  refine bodyPost_ret (v := .agg fv) (results_blk agg_fld rfl _ _ (w.heap.size + 1) _ rfl (K8.out.setRow _) FSz.out) rfl ⟨_, rfl, HB.out _ (K4.out.setRow_other _ _ (by omega)), below_setRow BB.out (by omega) _⟩
end Go.Proofs.YtapednkmefbldaaDoor

/- msg: a field as bytes, fields as bytes. -/
namespace Go.Proofs.YtapednkmefbldaaDoor
open Go.RowKit

/-- the function is one of the program's own -/
def Enters (G : Nat) : Prop := ∀ (args : Array Value) (w : World), (callFunc G args).run Tryd.prog w = .ok (.enter G args) w
/-- what the getter G tells from here on -/
def Gets (w : World) (G : Nat) (gp : Value) (n : Int) : Prop := Enters G ∧ ∀ W, Below w.heap.size w W → Calls Tryd.prog G #[gp] W fun e w' => e = .returned (.int .i64 n) ∧ W = w'
theorem Gets.below {w w' : World} {G : Nat} {gp : Value} {n : Int} (h : Gets w G gp n) (hb : Below w.heap.size w w') : Gets w' G gp n := ⟨h.1, fun W hW => h.2 W (bt hb hW)⟩
theorem Gets.call {w : World} {G : Nat} {gp : Value} {n : Int} (h : Gets w G gp n) (W : World) (hW : Below w.heap.size w W) : Calls Tryd.prog G #[gp] W fun e w' => e = .returned (.int .i64 n) ∧ W = w' := h.2 W hW
theorem enters_get (d : FD) : Enters d.get := by
  intro args w
  unfold FD.get
  repeat' split
  all_goals kernel_rfl
theorem enters_set (d : FD) : Enters d.set := by
  intro args w
  unfold FD.set
  repeat' split
  all_goals kernel_rfl
end Go.Proofs.YtapednkmefbldaaDoor

/- (field).take: a field set to the number that bytes are. -/
namespace Go.Proofs.YtapednkmefbldaaDoor
open Go.RowKit

/-- what the setter S does with n from here on -/
def Sets (w : World) (S : Nat) (gp : Value) (n : Int) (Q : World → World → Prop) : Prop := Enters S ∧ ∀ W, Below w.heap.size w W → Calls Tryd.prog S #[.int .i64 n, gp] W fun e w' => e = .returned (.tuple #[]) ∧ Q W w'
theorem Sets.call {w : World} {S : Nat} {gp : Value} {n : Int} {Q : World → World → Prop} (h : Sets w S gp n Q) (W : World) (hW : Below w.heap.size w W) : Calls Tryd.prog S #[.int .i64 n, gp] W fun e w' => e = .returned (.tuple #[]) ∧ Q W w' := h.2 W hW
set_option maxRecDepth 100000 in
set_option maxHeartbeats 800000 in
theorem take_neg (sz lo hi : Int) (G S : Nat) (gp : Value) (xs : List Int) (B : Option Addr) (c : Nat) (v : Int) (Q : World → World → Prop) (w : World) (hr : Row w B xs) (hl : xs.length = 2) (hv : sig xs = v) (hn : lo < 0) (h1 : lo ≤ v) (h2 : v ≤ hi) (hs : Sets w S gp v Q) :
    Calls Tryd.prog 76 #[.agg #[.int .i64 sz, .int .i64 lo, .int .i64 hi, .func (.func G) #[] #[gp], .func (.func S) #[] #[gp]], .slice B 2 c] w fun e w' => e = .returned (.bool true) ∧ ∃ W, Below w.heap.size w W ∧ Q W w' := by
  have HS := Lib.hid hs
  have HE : ∀ (args : Array Value) (w : World), (callFunc S args).run Tryd.prog w = .ok (.enter S args) w := hs.1
  clear hs
  have HL := Lib.hid hl
  have HV := Lib.hid hv
  have hd0 : decide (lo < 0) = true := decide_eq_true hn
  have hd1 : decide (v < lo) = false := decide_eq_false (by omega)
  have hd2 : decide (hi < v) = false := decide_eq_false (by omega)
  have CT := Lib.hid (fun W (h : Row W B xs) => takeInt_ok B xs c W h hl)
  rw [hv] at CT
  clear hl hv
  have B1 := Lib.hid (below_alloc1 w (.cells #[.int .i64 sz, .int .i64 lo, .int .i64 hi, .func (.func G) #[] #[gp], .func (.func S) #[] #[gp]] 130))
  have KB := Lib.hid (Blk.new w #[.int .i64 sz, .int .i64 lo, .int .i64 hi, .func (.func G) #[] #[gp], .func (.func S) #[] #[gp]] 130)
  have HR := Lib.hid (row_below hr B1.out)
  clear hr
  go_enter Tryd.func76, Tryd.ntmps76
  go_wp2_with fail
  generalize w.alloc (.cells #[.int .i64 sz, .int .i64 lo, .int .i64 hi, .func (.func G) #[] #[gp], .func (.func S) #[] #[gp]] 130) = w1 at *
  have cb := fun j => KB.out.cell j
  ((with_reducible refine (CT.out _ HR.out).mono ?_))
  rintro e w2 ⟨rfl, rfl⟩
  go_wp2_with fail
  ((with_reducible refine (HS.out.call _ B1.out).mono ?_))
  rintro e w3 ⟨rfl, hq⟩
  clear HE
  go_wp2_with fail
  go_ret
  exact ⟨rfl, _, B1.out, hq⟩
set_option maxRecDepth 100000 in
set_option maxHeartbeats 800000 in
theorem take_pos (sz lo hi : Int) (G S : Nat) (gp : Value) (xs : List Int) (B : Option Addr) (k c : Nat) (v : Int) (Q : World → World → Prop) (w : World) (hr : Row w B xs) (hl : xs.length = k) (hk : k ≤ 8) (hv : num xs = v) (hn : 0 ≤ lo) (h1 : lo ≤ v) (h2 : v ≤ hi) (h63 : hi ≤ 9223372036854775807) (hs : Sets w S gp v Q) :
    Calls Tryd.prog 76 #[.agg #[.int .i64 sz, .int .i64 lo, .int .i64 hi, .func (.func G) #[] #[gp], .func (.func S) #[] #[gp]], .slice B k c] w fun e w' => e = .returned (.bool true) ∧ ∃ W, Below w.heap.size w W ∧ Q W w' := by
  have HS := Lib.hid hs
  have HE : ∀ (args : Array Value) (w : World), (callFunc S args).run Tryd.prog w = .ok (.enter S args) w := hs.1
  clear hs
  have HL := Lib.hid hl
  have hd0 : decide (lo < 0) = false := decide_eq_false (by omega)
  have CT := Lib.hid (fun W (h : Row W B xs) => take_row (w := W) k c hl h hk)
  rw [hv] at CT
  clear hl hv
  have hd1 : decide (v < lo) = false := decide_eq_false (by omega)
  have hd2 : decide (hi < v) = false := decide_eq_false (by omega)
  have v0 : 0 ≤ v := by omega
  have v9 : v ≤ 9223372036854775807 := by omega
  have B1 := Lib.hid (below_alloc1 w (.cells #[.int .i64 sz, .int .i64 lo, .int .i64 hi, .func (.func G) #[] #[gp], .func (.func S) #[] #[gp]] 130))
  have KB := Lib.hid (Blk.new w #[.int .i64 sz, .int .i64 lo, .int .i64 hi, .func (.func G) #[] #[gp], .func (.func S) #[] #[gp]] 130)
  have HR := Lib.hid (row_below hr B1.out)
  clear hr
  go_enter Tryd.func76, Tryd.ntmps76
  go_wp2_with fail
  generalize w.alloc (.cells #[.int .i64 sz, .int .i64 lo, .int .i64 hi, .func (.func G) #[] #[gp], .func (.func S) #[] #[gp]] 130) = w1 at *
  have cb := fun j => KB.out.cell j
  ((with_reducible refine (CT.out _ HR.out).mono ?_))
  rintro e w2 ⟨rfl, rfl⟩
  go_wp2_with fail
  ((with_reducible refine (HS.out.call _ B1.out).mono ?_))
  rintro e w3 ⟨rfl, hq⟩
  clear HE
  go_wp2_with fail
  go_ret
  exact ⟨rfl, _, B1.out, hq⟩
set_option maxRecDepth 100000 in
set_option maxHeartbeats 800000 in
theorem take_low (sz lo hi : Int) (G S : Nat) (gp : Value) (xs : List Int) (B : Option Addr) (k c : Nat) (v : Int) (w : World) (hr : Row w B xs) (hl : xs.length = k) (hk : k ≤ 8) (hv : num xs = v) (hn : 0 ≤ lo) (v0 : 0 ≤ v) (v9 : v ≤ 9223372036854775807) (h1 : v < lo) :
    Calls Tryd.prog 76 #[.agg #[.int .i64 sz, .int .i64 lo, .int .i64 hi, .func (.func G) #[] #[gp], .func (.func S) #[] #[gp]], .slice B k c] w fun e w' => e = .returned (.bool false) ∧ Below w.heap.size w w' := by
  have HL := Lib.hid hl
  have hd0 : decide (lo < 0) = false := decide_eq_false (by omega)
  have CT := Lib.hid (fun W (h : Row W B xs) => take_row (w := W) k c hl h hk)
  rw [hv] at CT
  clear hl hv
  have hd1 : decide (v < lo) = true := decide_eq_true h1
  have B1 := Lib.hid (below_alloc1 w (.cells #[.int .i64 sz, .int .i64 lo, .int .i64 hi, .func (.func G) #[] #[gp], .func (.func S) #[] #[gp]] 130))
  have KB := Lib.hid (Blk.new w #[.int .i64 sz, .int .i64 lo, .int .i64 hi, .func (.func G) #[] #[gp], .func (.func S) #[] #[gp]] 130)
  have HR := Lib.hid (row_below hr B1.out)
  clear hr
  go_enter Tryd.func76, Tryd.ntmps76
  go_wp2_with fail
  generalize w.alloc (.cells #[.int .i64 sz, .int .i64 lo, .int .i64 hi, .func (.func G) #[] #[gp], .func (.func S) #[] #[gp]] 130) = w1 at *
  have cb := fun j => KB.out.cell j
  ((with_reducible refine (CT.out _ HR.out).mono ?_))
  rintro e w2 ⟨rfl, rfl⟩
  go_wp2_with fail
  go_ret
  exact ⟨rfl, B1.out⟩
set_option maxRecDepth 100000 in
set_option maxHeartbeats 800000 in
theorem take_high (sz lo hi : Int) (G S : Nat) (gp : Value) (xs : List Int) (B : Option Addr) (k c : Nat) (v : Int) (w : World) (hr : Row w B xs) (hl : xs.length = k) (hk : k ≤ 8) (hv : num xs = v) (hn : 0 ≤ lo) (v0 : 0 ≤ v) (v9 : v ≤ 9223372036854775807) (h1 : lo ≤ v) (h2 : hi < v) :
    Calls Tryd.prog 76 #[.agg #[.int .i64 sz, .int .i64 lo, .int .i64 hi, .func (.func G) #[] #[gp], .func (.func S) #[] #[gp]], .slice B k c] w fun e w' => e = .returned (.bool false) ∧ Below w.heap.size w w' := by
  have HL := Lib.hid hl
  have hd0 : decide (lo < 0) = false := decide_eq_false (by omega)
  have CT := Lib.hid (fun W (h : Row W B xs) => take_row (w := W) k c hl h hk)
  rw [hv] at CT
  clear hl hv
  have hd1 : decide (v < lo) = false := decide_eq_false (by omega)
  have hd2 : decide (hi < v) = true := decide_eq_true h2
  have B1 := Lib.hid (below_alloc1 w (.cells #[.int .i64 sz, .int .i64 lo, .int .i64 hi, .func (.func G) #[] #[gp], .func (.func S) #[] #[gp]] 130))
  have KB := Lib.hid (Blk.new w #[.int .i64 sz, .int .i64 lo, .int .i64 hi, .func (.func G) #[] #[gp], .func (.func S) #[] #[gp]] 130)
  have HR := Lib.hid (row_below hr B1.out)
  clear hr
  go_enter Tryd.func76, Tryd.ntmps76
  go_wp2_with fail
  generalize w.alloc (.cells #[.int .i64 sz, .int .i64 lo, .int .i64 hi, .func (.func G) #[] #[gp], .func (.func S) #[] #[gp]] 130) = w1 at *
  have cb := fun j => KB.out.cell j
  ((with_reducible refine (CT.out _ HR.out).mono ?_))
  rintro e w2 ⟨rfl, rfl⟩
  go_wp2_with fail
  go_ret
  exact ⟨rfl, B1.out⟩
end Go.Proofs.YtapednkmefbldaaDoor

/- msg.fields: which fields a message's kind names. -/
namespace Go.Proofs.YtapednkmefbldaaDoor
open Go.RowKit

set_option maxRecDepth 100000 in
set_option maxHeartbeats 400000 in
theorem now_any (gm o : Nat) (w : World) :
    Calls Tryd.prog 71 #[.pointer (some ⟨gm, o, none⟩)] w fun e w' => ∃ v, e = .returned v ∧ FV w' w.heap.size gm ⟨1, 1, 0, 1, o⟩ v ∧ Below w.heap.size w w' := by
  have BF : Tryd.prog.built 130 [(0, .int .i64 1), (2, .int .i64 1), (3, .func (.func 80) #[] #[.pointer (some ⟨w.heap.size, 0, none⟩)]), (4, .func (.func 81) #[] #[.pointer (some ⟨w.heap.size, 0, none⟩)])] = some (fldV ⟨1, 1, 0, 1, o⟩ w.heap.size) := build_now ⟨1, 1, 0, 1, o⟩ w.heap.size rfl
  have O1 := Lib.hid (fldV_one ⟨1, 1, 0, 1, o⟩ w.heap.size)
  have FSz : Hid ((fldV ⟨1, 1, 0, 1, o⟩ w.heap.size).size = 5) := Lib.hid rfl
  generalize hfv : fldV ⟨1, 1, 0, 1, o⟩ w.heap.size = fv at *
  replace BF := Lib.hid BF
  have HB : Hid (∀ W : World, Blk W w.heap.size #[.pointer (some ⟨gm, o, none⟩)] 134 → FV W w.heap.size gm ⟨1, 1, 0, 1, o⟩ (.agg fv)) := Lib.hid fun W h => ⟨w.heap.size, by rw [hfv], Nat.le_refl _, h⟩
  clear hfv
  go_enter Tryd.func71, Tryd.ntmps71
  go_wp2_with ((with_reducible show wpList _ _ _ (⟨_, .alloc 130, _, _, _, none⟩ :: _) _ _); (with_reducible refine wpRow_alloc zeroT_fld ?_ ?_ ?_); (· exact wanted0 rfl); (· rfl); refine Marker.mk ?_)
  refine Marker.in ?_
  have K4 := Lib.hid ((Blk.new w #[.pointer (some ⟨gm, o, none⟩)] 134).alloc (.cells zfld 130))
  have K8 := Lib.hid (Blk.new' (w.alloc (.cells #[.pointer (some ⟨gm, o, none⟩)] 134)) zfld 130 (g := w.heap.size + 1) (by simp))
  have BB := Lib.hid (below_alloc2 w (.cells #[.pointer (some ⟨gm, o, none⟩)] 134) (.cells zfld 130))
  generalize (w.alloc (.cells #[.pointer (some ⟨gm, o, none⟩)] 134)).alloc (.cells zfld 130) = w1 at *
  go_wp2_with (first | ((with_reducible show wpList _ _ _ (⟨some 5, _, _, _, _, _⟩ :: _) _ _); refine wpList_build' rfl 130 _ rfl fv BF.out ?_) | ((with_reducible show wpList _ _ _ (⟨_, .store 130 _ _, _, _, _, none⟩ :: _) _ _); (with_reducible refine wpBlk_store (g := w.heap.size + 1) (cs := fv) agg_fld ?_ ?_ K8 ?_ ?_ ?_ ?_); (· exact wanted0 rfl); (· exact ⟨rfl, rfl, rfl⟩); (· rfl); (· exact FSz.out); (· exact O1.out)))
  refine bodyPost_ret (v := .agg fv) (results_blk agg_fld rfl _ _ (w.heap.size + 1) _ rfl (K8.out.setRow _) FSz.out) rfl ⟨_, rfl, HB.out _ (K4.out.setRow_other _ _ (by omega)), below_setRow BB.out (by omega) _⟩
set_option maxRecDepth 100000 in
set_option maxHeartbeats 400000 in
theorem role_any (gm o : Nat) (w : World) :
    Calls Tryd.prog 69 #[.pointer (some ⟨gm, o, none⟩)] w fun e w' => ∃ v, e = .returned v ∧ FV w' w.heap.size gm ⟨0, 1, 0, 3, o⟩ v ∧ Below w.heap.size w w' := by
  have CN : ∀ W : World, Calls Tryd.prog 74 #[.pointer (some ⟨gm, o, none⟩), .int .i64 1, .int .i64 0, .int .i64 3] W fun e w' => ∃ v, e = .returned v ∧ FV w' W.heap.size gm ⟨0, 1, 0, 3, o⟩ v ∧ Below W.heap.size W w' := fun W => number_any ⟨0, 1, 0, 3, o⟩ rfl gm W
  generalize hd : (⟨0, 1, 0, 3, o⟩ : FD) = d at *
  replace CN := Lib.hid CN
  clear hd
  go_enter Tryd.func69, Tryd.ntmps69
  go_wp2_with ((with_reducible show wpList _ _ _ (⟨_, .alloc 130, _, _, _, none⟩ :: _) _ _); (with_reducible refine wpRow_alloc zeroT_fld ?_ ?_ ?_); (· exact wanted0 rfl); (· rfl); refine Marker.mk ?_)
  refine Marker.in ?_
  have K2 := Lib.hid (Blk.new w zfld 130)
  have BB := Lib.hid (below_alloc1 w (.cells zfld 130))
  have l1 : w.heap.size < (w.alloc (.cells zfld 130)).heap.size := by simp
  generalize w.alloc (.cells zfld 130) = w1 at *
  go_wp2_with fail
  ((with_reducible refine (CN.out _).mono ?_))
  rintro e w2 ⟨v, rfl, ⟨gb, rfl, lb, kb⟩, b2⟩
  replace K2 := Lib.hid (K2.out.below b2)
  replace BB := Lib.hid (bt BB.out b2)
  have O1 := Lib.hid (fldV_one d gb)
  have FSz : Hid ((fldV d gb).size = 5) := Lib.hid rfl
  have HB : Hid (∀ W : World, Box W d gm gb → FV W w.heap.size gm d (.agg (fldV d gb))) := Lib.hid fun W h => ⟨gb, rfl, by omega, h⟩
  generalize fldV d gb = fv at *
  clear b2 CN
  go_wp2_with ((with_reducible show wpList _ _ _ (⟨_, .store 130 _ _, _, _, _, none⟩ :: _) _ _); (with_reducible refine wpBlk_store (g := w.heap.size) (cs := fv) agg_fld ?_ ?_ K2 ?_ ?_ ?_ ?_); (· exact wanted0 rfl); (· exact ⟨rfl, rfl, rfl⟩); (· rfl); (· exact FSz.out); (· exact O1.out))
  refine bodyPost_ret (v := .agg fv) (results_blk agg_fld rfl _ _ (w.heap.size) _ rfl (K2.out.setRow _) FSz.out) rfl ⟨_, rfl, HB.out _ (Blk.setRow_other kb _ _ (by omega)), below_setRow BB.out (by omega) _⟩
set_option maxRecDepth 100000 in
set_option maxHeartbeats 400000 in
theorem seq_any (gm o : Nat) (w : World) :
    Calls Tryd.prog 70 #[.pointer (some ⟨gm, o, none⟩)] w fun e w' => ∃ v, e = .returned v ∧ FV w' w.heap.size gm ⟨0, 4, 0, 4294967295, o⟩ v ∧ Below w.heap.size w w' := by
  have CN : ∀ W : World, Calls Tryd.prog 74 #[.pointer (some ⟨gm, o, none⟩), .int .i64 4, .int .i64 0, .int .i64 4294967295] W fun e w' => ∃ v, e = .returned v ∧ FV w' W.heap.size gm ⟨0, 4, 0, 4294967295, o⟩ v ∧ Below W.heap.size W w' := fun W => number_any ⟨0, 4, 0, 4294967295, o⟩ rfl gm W
  generalize hd : (⟨0, 4, 0, 4294967295, o⟩ : FD) = d at *
  replace CN := Lib.hid CN
  clear hd
  go_enter Tryd.func70, Tryd.ntmps70
  go_wp2_with ((with_reducible show wpList _ _ _ (⟨_, .alloc 130, _, _, _, none⟩ :: _) _ _); (with_reducible refine wpRow_alloc zeroT_fld ?_ ?_ ?_); (· exact wanted0 rfl); (· rfl); refine Marker.mk ?_)
  refine Marker.in ?_
  have K2 := Lib.hid (Blk.new w zfld 130)
  have BB := Lib.hid (below_alloc1 w (.cells zfld 130))
  have l1 : w.heap.size < (w.alloc (.cells zfld 130)).heap.size := by simp
  generalize w.alloc (.cells zfld 130) = w1 at *
  go_wp2_with fail
  ((with_reducible refine (CN.out _).mono ?_))
  rintro e w2 ⟨v, rfl, ⟨gb, rfl, lb, kb⟩, b2⟩
  replace K2 := Lib.hid (K2.out.below b2)
  replace BB := Lib.hid (bt BB.out b2)
  have O1 := Lib.hid (fldV_one d gb)
  have FSz : Hid ((fldV d gb).size = 5) := Lib.hid rfl
  have HB : Hid (∀ W : World, Box W d gm gb → FV W w.heap.size gm d (.agg (fldV d gb))) := Lib.hid fun W h => ⟨gb, rfl, by omega, h⟩
  generalize fldV d gb = fv at *
  clear b2 CN
  go_wp2_with ((with_reducible show wpList _ _ _ (⟨_, .store 130 _ _, _, _, _, none⟩ :: _) _ _); (with_reducible refine wpBlk_store (g := w.heap.size) (cs := fv) agg_fld ?_ ?_ K2 ?_ ?_ ?_ ?_); (· exact wanted0 rfl); (· exact ⟨rfl, rfl, rfl⟩); (· rfl); (· exact FSz.out); (· exact O1.out))
  refine bodyPost_ret (v := .agg fv) (results_blk agg_fld rfl _ _ (w.heap.size) _ rfl (K2.out.setRow _) FSz.out) rfl ⟨_, rfl, HB.out _ (Blk.setRow_other kb _ _ (by omega)), below_setRow BB.out (by omega) _⟩
set_option maxRecDepth 100000 in
set_option maxHeartbeats 400000 in
theorem source_any (gm o : Nat) (w : World) :
    Calls Tryd.prog 72 #[.pointer (some ⟨gm, o, none⟩)] w fun e w' => ∃ v, e = .returned v ∧ FV w' w.heap.size gm ⟨0, 1, 0, 4, o⟩ v ∧ Below w.heap.size w w' := by
  have CN : ∀ W : World, Calls Tryd.prog 74 #[.pointer (some ⟨gm, o, none⟩), .int .i64 1, .int .i64 0, .int .i64 4] W fun e w' => ∃ v, e = .returned v ∧ FV w' W.heap.size gm ⟨0, 1, 0, 4, o⟩ v ∧ Below W.heap.size W w' := fun W => number_any ⟨0, 1, 0, 4, o⟩ rfl gm W
  generalize hd : (⟨0, 1, 0, 4, o⟩ : FD) = d at *
  replace CN := Lib.hid CN
  clear hd
  go_enter Tryd.func72, Tryd.ntmps72
  go_wp2_with ((with_reducible show wpList _ _ _ (⟨_, .alloc 130, _, _, _, none⟩ :: _) _ _); (with_reducible refine wpRow_alloc zeroT_fld ?_ ?_ ?_); (· exact wanted0 rfl); (· rfl); refine Marker.mk ?_)
  refine Marker.in ?_
  have K2 := Lib.hid (Blk.new w zfld 130)
  have BB := Lib.hid (below_alloc1 w (.cells zfld 130))
  have l1 : w.heap.size < (w.alloc (.cells zfld 130)).heap.size := by simp
  generalize w.alloc (.cells zfld 130) = w1 at *
  go_wp2_with fail
  ((with_reducible refine (CN.out _).mono ?_))
  rintro e w2 ⟨v, rfl, ⟨gb, rfl, lb, kb⟩, b2⟩
  replace K2 := Lib.hid (K2.out.below b2)
  replace BB := Lib.hid (bt BB.out b2)
  have O1 := Lib.hid (fldV_one d gb)
  have FSz : Hid ((fldV d gb).size = 5) := Lib.hid rfl
  have HB : Hid (∀ W : World, Box W d gm gb → FV W w.heap.size gm d (.agg (fldV d gb))) := Lib.hid fun W h => ⟨gb, rfl, by omega, h⟩
  generalize fldV d gb = fv at *
  clear b2 CN
  go_wp2_with ((with_reducible show wpList _ _ _ (⟨_, .store 130 _ _, _, _, _, none⟩ :: _) _ _); (with_reducible refine wpBlk_store (g := w.heap.size) (cs := fv) agg_fld ?_ ?_ K2 ?_ ?_ ?_ ?_); (· exact wanted0 rfl); (· exact ⟨rfl, rfl, rfl⟩); (· rfl); (· exact FSz.out); (· exact O1.out))
  refine bodyPost_ret (v := .agg fv) (results_blk agg_fld rfl _ _ (w.heap.size) _ rfl (K2.out.setRow _) FSz.out) rfl ⟨_, rfl, HB.out _ (Blk.setRow_other kb _ _ (by omega)), below_setRow BB.out (by omega) _⟩
set_option maxRecDepth 100000 in
set_option maxHeartbeats 400000 in
theorem epoch_any (gm o : Nat) (w : World) :
    Calls Tryd.prog 73 #[.pointer (some ⟨gm, o, none⟩)] w fun e w' => ∃ v, e = .returned v ∧ FV w' w.heap.size gm ⟨0, 2, 0, 65535, o⟩ v ∧ Below w.heap.size w w' := by
  have CN : ∀ W : World, Calls Tryd.prog 74 #[.pointer (some ⟨gm, o, none⟩), .int .i64 2, .int .i64 0, .int .i64 65535] W fun e w' => ∃ v, e = .returned v ∧ FV w' W.heap.size gm ⟨0, 2, 0, 65535, o⟩ v ∧ Below W.heap.size W w' := fun W => number_any ⟨0, 2, 0, 65535, o⟩ rfl gm W
  generalize hd : (⟨0, 2, 0, 65535, o⟩ : FD) = d at *
  replace CN := Lib.hid CN
  clear hd
  go_enter Tryd.func73, Tryd.ntmps73
  go_wp2_with ((with_reducible show wpList _ _ _ (⟨_, .alloc 130, _, _, _, none⟩ :: _) _ _); (with_reducible refine wpRow_alloc zeroT_fld ?_ ?_ ?_); (· exact wanted0 rfl); (· rfl); refine Marker.mk ?_)
  refine Marker.in ?_
  have K2 := Lib.hid (Blk.new w zfld 130)
  have BB := Lib.hid (below_alloc1 w (.cells zfld 130))
  have l1 : w.heap.size < (w.alloc (.cells zfld 130)).heap.size := by simp
  generalize w.alloc (.cells zfld 130) = w1 at *
  go_wp2_with fail
  ((with_reducible refine (CN.out _).mono ?_))
  rintro e w2 ⟨v, rfl, ⟨gb, rfl, lb, kb⟩, b2⟩
  replace K2 := Lib.hid (K2.out.below b2)
  replace BB := Lib.hid (bt BB.out b2)
  have O1 := Lib.hid (fldV_one d gb)
  have FSz : Hid ((fldV d gb).size = 5) := Lib.hid rfl
  have HB : Hid (∀ W : World, Box W d gm gb → FV W w.heap.size gm d (.agg (fldV d gb))) := Lib.hid fun W h => ⟨gb, rfl, by omega, h⟩
  generalize fldV d gb = fv at *
  clear b2 CN
  go_wp2_with ((with_reducible show wpList _ _ _ (⟨_, .store 130 _ _, _, _, _, none⟩ :: _) _ _); (with_reducible refine wpBlk_store (g := w.heap.size) (cs := fv) agg_fld ?_ ?_ K2 ?_ ?_ ?_ ?_); (· exact wanted0 rfl); (· exact ⟨rfl, rfl, rfl⟩); (· rfl); (· exact FSz.out); (· exact O1.out))
  refine bodyPost_ret (v := .agg fv) (results_blk agg_fld rfl _ _ (w.heap.size) _ rfl (K2.out.setRow _) FSz.out) rfl ⟨_, rfl, HB.out _ (Blk.setRow_other kb _ _ (by omega)), below_setRow BB.out (by omega) _⟩
set_option maxRecDepth 100000 in
set_option maxHeartbeats 400000 in
theorem axis_any (gm o : Nat) (w : World) :
    Calls Tryd.prog 75 #[.pointer (some ⟨gm, o, none⟩)] w fun e w' => ∃ v, e = .returned v ∧ FV w' w.heap.size gm ⟨0, 2, (-32768), 32767, o⟩ v ∧ Below w.heap.size w w' := by
  have CN : ∀ W : World, Calls Tryd.prog 74 #[.pointer (some ⟨gm, o, none⟩), .int .i64 2, .int .i64 (-32768), .int .i64 32767] W fun e w' => ∃ v, e = .returned v ∧ FV w' W.heap.size gm ⟨0, 2, (-32768), 32767, o⟩ v ∧ Below W.heap.size W w' := fun W => number_any ⟨0, 2, (-32768), 32767, o⟩ rfl gm W
  generalize hd : (⟨0, 2, (-32768), 32767, o⟩ : FD) = d at *
  replace CN := Lib.hid CN
  clear hd
  go_enter Tryd.func75, Tryd.ntmps75
  go_wp2_with ((with_reducible show wpList _ _ _ (⟨_, .alloc 130, _, _, _, none⟩ :: _) _ _); (with_reducible refine wpRow_alloc zeroT_fld ?_ ?_ ?_); (· exact wanted0 rfl); (· rfl); refine Marker.mk ?_)
  refine Marker.in ?_
  have K2 := Lib.hid (Blk.new w zfld 130)
  have BB := Lib.hid (below_alloc1 w (.cells zfld 130))
  have l1 : w.heap.size < (w.alloc (.cells zfld 130)).heap.size := by simp
  generalize w.alloc (.cells zfld 130) = w1 at *
  go_wp2_with fail
  ((with_reducible refine (CN.out _).mono ?_))
  rintro e w2 ⟨v, rfl, ⟨gb, rfl, lb, kb⟩, b2⟩
  replace K2 := Lib.hid (K2.out.below b2)
  replace BB := Lib.hid (bt BB.out b2)
  have O1 := Lib.hid (fldV_one d gb)
  have FSz : Hid ((fldV d gb).size = 5) := Lib.hid rfl
  have HB : Hid (∀ W : World, Box W d gm gb → FV W w.heap.size gm d (.agg (fldV d gb))) := Lib.hid fun W h => ⟨gb, rfl, by omega, h⟩
  generalize fldV d gb = fv at *
  clear b2 CN
  go_wp2_with ((with_reducible show wpList _ _ _ (⟨_, .store 130 _ _, _, _, _, none⟩ :: _) _ _); (with_reducible refine wpBlk_store (g := w.heap.size) (cs := fv) agg_fld ?_ ?_ K2 ?_ ?_ ?_ ?_); (· exact wanted0 rfl); (· exact ⟨rfl, rfl, rfl⟩); (· rfl); (· exact FSz.out); (· exact O1.out))
  refine bodyPost_ret (v := .agg fv) (results_blk agg_fld rfl _ _ (w.heap.size) _ rfl (K2.out.setRow _) FSz.out) rfl ⟨_, rfl, HB.out _ (Blk.setRow_other kb _ _ (by omega)), below_setRow BB.out (by omega) _⟩

/-! ### rows of fields -/
def flatF : List (FD × Nat) → List Value
  | [] => []
  | p :: ps => (fldV p.1 p.2).toList ++ flatF ps
theorem flatF_len (fs : List (FD × Nat)) : (flatF fs).length = fs.length * 5 := by
  induction fs with
  | nil => rfl
  | cons r rs ih => rw [flatF, List.length_append, ih, List.length_cons]; show 5 + _ = _; omega
theorem flatF_append (xs ys : List (FD × Nat)) : flatF (xs ++ ys) = flatF xs ++ flatF ys := by
  induction xs with
  | nil => rfl
  | cons r rs ih => rw [List.cons_append, flatF, ih, flatF, List.append_assoc]
theorem flatF_get : ∀ (rs : List (FD × Nat)) (i : Nat) (hi : i < rs.length) (k : Nat), k < 5 → (flatF rs)[i * 5 + k]? = (fldV rs[i].1 rs[i].2)[k]?
  | r :: rs, 0, _, k, hk => by
    rw [flatF, Nat.zero_mul, Nat.zero_add, List.getElem?_append_left (by show _ < 5; exact hk), Array.getElem?_toList]
    rfl
  | r :: rs, i + 1, hi, k, hk => by
    rw [flatF, List.getElem?_append_right (by show 5 ≤ _; omega), show (fldV r.1 r.2).toList.length = 5 from rfl, show (i + 1) * 5 + k - 5 = i * 5 + k by omega, flatF_get rs i (by simpa using hi) k hk]
    rfl
theorem flatF_one (fs : List (FD × Nat)) : ∀ u ∈ flatF fs, u.oneCell' = true := by
  induction fs with
  | nil => intro u hu; cases hu
  | cons r rs ih =>
    intro u hu
    rcases List.mem_append.1 hu with h | h
    · simp only [fldV, List.mem_cons, List.not_mem_nil, or_false] at h
      rcases h with rfl | rfl | rfl | rfl | rfl <;> rfl
    · exact ih u h
def Boxes (w : World) (base gm : Nat) (fs : List (FD × Nat)) : Prop := ∀ i (h : i < fs.length), base ≤ fs[i].2 ∧ Box w fs[i].1 gm fs[i].2
theorem Boxes.below {w w' : World} {base gm : Nat} {fs : List (FD × Nat)} (h : Boxes w base gm fs) (hb : Below w.heap.size w w') : Boxes w' base gm fs := fun i hi => ⟨(h i hi).1, (h i hi).2.below hb⟩
/-- a row of fields over the message at gm -/
def FLs (w : World) (base gl gm : Nat) (fs : List (FD × Nat)) : Prop := base ≤ gl ∧ (∀ j u, (flatF fs)[j]? = some u → w.cell? ⟨gl, j, none⟩ = some u) ∧ Boxes w base gm fs
theorem FLs.below {w w' : World} {base gl gm : Nat} {fs : List (FD × Nat)} (h : FLs w base gl gm fs) (hb : Below w.heap.size w w') : FLs w' base gl gm fs :=
  ⟨h.1, fun j u hu => by rw [hb.cell (World.block_lt_of_cell? _ _ (h.2.1 j u hu))]; exact h.2.1 j u hu, h.2.2.below hb⟩
theorem FLs.keep {w w' : World} {base gl gm : Nat} {fs : List (FD × Nat)} (h : FLs w base gl gm fs) (hg : gm < base) (hk : ∀ k, k ≠ gm → w'.heap[k]? = w.heap[k]?) : FLs w' base gl gm fs :=
  ⟨h.1, fun j u hu => by rw [World.cell?_of_block (w := w) (hk gl (by have := h.1; omega))]; exact h.2.1 j u hu, fun i hi => ⟨(h.2.2 i hi).1, (hk _ (by have := (h.2.2 i hi).1; omega)).trans (h.2.2 i hi).2⟩⟩
theorem FLs.cells {w : World} {base gl gm : Nat} {fs : List (FD × Nat)} (h : FLs w base gl gm fs) (i : Nat) (hi : i < fs.length) (j : Nat) (hj : j < 5) : w.cell? ⟨gl, i * 5 + j, none⟩ = (fldV fs[i].1 fs[i].2)[j]? := by
  have h1 := flatF_get fs i hi j hj
  have h2 : (fldV fs[i].1 fs[i].2)[j]? = some ((fldV fs[i].1 fs[i].2)[j]'(by show _ < 5; exact hj)) := Array.getElem?_eq_getElem _
  rw [h2]
  exact h.2.1 _ _ (h1.trans h2)
theorem fls_blk {w : World} {base gl gm : Nat} {fs : List (FD × Nat)} {T : TypeId} (hk : Blk w gl (flatF fs).toArray T) (hb : Boxes w base gm fs) (hg : base ≤ gl) : FLs w base gl gm fs :=
  ⟨hg, fun j u hu => by rw [hk.cell j, List.getElem?_toArray]; exact hu, hb⟩
/-- which fields a kind names -/
def fRole : FD := ⟨0, 1, 0, 3, 2⟩
def fSeq : FD := ⟨0, 4, 0, 4294967295, 1⟩
def fNow : FD := ⟨1, 1, 0, 1, 7⟩
def fTo : FD := ⟨0, 1, 0, 4, 3⟩
def fEpoch : FD := ⟨0, 2, 0, 65535, 4⟩
def fMode : FD := ⟨0, 1, 0, 4, 5⟩
def fClass : FD := ⟨0, 1, 1, 3, 6⟩
def fAxis (i : Nat) : FD := ⟨0, 2, -32768, 32767, 8 + i⟩
def fieldsOf (k : Int) : Option (List FD) :=
  if k = 1 ∨ k = 2 then some [fRole] else if k = 3 ∨ k = 4 ∨ k = 8 ∨ k = 9 then some [fSeq] else if k = 5 then some [fSeq, fNow] else if k = 6 then some [fSeq, fTo]
  else if k = 7 then some [fSeq, fEpoch] else if k = 10 then some [fSeq, fEpoch, fMode] else if k = 11 then some [fSeq, fEpoch, fClass, fAxis 0, fAxis 1, fAxis 2, fAxis 3] else none
/-- what fields tells -/
def FieldsPost (w : World) (gm : Nat) (ds : List FD) (e : Ending) (w' : World) : Prop :=
  ∃ (gl cp : Nat) (fs : List (FD × Nat)), e = .returned (.tuple #[.slice (some ⟨gl, 0, none⟩) ds.length cp, .bool true]) ∧ fs.map (·.1) = ds ∧ FLs w' w.heap.size gl gm fs ∧ Below w.heap.size w w'
set_option maxRecDepth 100000 in
set_option maxHeartbeats 400000 in
theorem fields_1 (gm : Nat) (l : List Int) (w : World) (hm : Blk w gm (msgV l) 66) (hk : l.getD 0 0 = 1) :
    Calls Tryd.prog 61 #[.pointer (some ⟨gm, 0, none⟩)] w (FieldsPost w gm [fRole]) := by
  have c0 := hm.cell 0
  rw [msgV_get _ _ (by omega), if_neg (by omega), hk] at c0
  have CF := Lib.hid (fun W => role_any gm 2 W)
  have BB := Lib.hid (Below.refl w.heap.size w)
  clear hm hk
  go_enter Tryd.func61, Tryd.ntmps61
  go_wp2_with fail
  ((with_reducible refine (CF.out _).mono ?_))
  rintro e w1 ⟨v, rfl, ⟨gb, rfl, lb, kb⟩, b1⟩
  have FB : Hid (Below w.heap.size w (w1.alloc (.cells (flatF [(fRole, gb)]).toArray 130))) := Lib.hid (b1.alloc b1.size _)
  have FK : Hid (FLs (w1.alloc (.cells (flatF [(fRole, gb)]).toArray 130)) w.heap.size w1.heap.size gm [(fRole, gb)]) := Lib.hid (fls_blk (Blk.new w1 _ 130) (fun i hi => by
    have : i = 0 := by simpa using hi
    subst this
    exact ⟨lb, Blk.alloc kb _⟩) b1.size)
  clear b1 c0 CF kb
  unfold fldV
  go_wp2_with fail
  go_ret2
  exact ⟨_, _, _, rfl, rfl, FK.out, FB.out⟩
set_option maxRecDepth 100000 in
set_option maxHeartbeats 400000 in
theorem fields_2 (gm : Nat) (l : List Int) (w : World) (hm : Blk w gm (msgV l) 66) (hk : l.getD 0 0 = 2) :
    Calls Tryd.prog 61 #[.pointer (some ⟨gm, 0, none⟩)] w (FieldsPost w gm [fRole]) := by
  have c0 := hm.cell 0
  rw [msgV_get _ _ (by omega), if_neg (by omega), hk] at c0
  have CF := Lib.hid (fun W => role_any gm 2 W)
  have BB := Lib.hid (Below.refl w.heap.size w)
  clear hm hk
  go_enter Tryd.func61, Tryd.ntmps61
  go_wp2_with fail
  ((with_reducible refine (CF.out _).mono ?_))
  rintro e w1 ⟨v, rfl, ⟨gb, rfl, lb, kb⟩, b1⟩
  have FB : Hid (Below w.heap.size w (w1.alloc (.cells (flatF [(fRole, gb)]).toArray 130))) := Lib.hid (b1.alloc b1.size _)
  have FK : Hid (FLs (w1.alloc (.cells (flatF [(fRole, gb)]).toArray 130)) w.heap.size w1.heap.size gm [(fRole, gb)]) := Lib.hid (fls_blk (Blk.new w1 _ 130) (fun i hi => by
    have : i = 0 := by simpa using hi
    subst this
    exact ⟨lb, Blk.alloc kb _⟩) b1.size)
  clear b1 c0 CF kb
  unfold fldV
  go_wp2_with fail
  go_ret2
  exact ⟨_, _, _, rfl, rfl, FK.out, FB.out⟩
set_option maxRecDepth 100000 in
set_option maxHeartbeats 400000 in
theorem fields_3 (gm : Nat) (l : List Int) (w : World) (hm : Blk w gm (msgV l) 66) (hk : l.getD 0 0 = 3) :
    Calls Tryd.prog 61 #[.pointer (some ⟨gm, 0, none⟩)] w (FieldsPost w gm [fSeq]) := by
  have c0 := hm.cell 0
  rw [msgV_get _ _ (by omega), if_neg (by omega), hk] at c0
  have CF := Lib.hid (fun W => seq_any gm 1 W)
  have BB := Lib.hid (Below.refl w.heap.size w)
  clear hm hk
  go_enter Tryd.func61, Tryd.ntmps61
  go_wp2_with fail
  ((with_reducible refine (CF.out _).mono ?_))
  rintro e w1 ⟨v, rfl, ⟨gb, rfl, lb, kb⟩, b1⟩
  have FB : Hid (Below w.heap.size w (w1.alloc (.cells (flatF [(fSeq, gb)]).toArray 130))) := Lib.hid (b1.alloc b1.size _)
  have FK : Hid (FLs (w1.alloc (.cells (flatF [(fSeq, gb)]).toArray 130)) w.heap.size w1.heap.size gm [(fSeq, gb)]) := Lib.hid (fls_blk (Blk.new w1 _ 130) (fun i hi => by
    have : i = 0 := by simpa using hi
    subst this
    exact ⟨lb, Blk.alloc kb _⟩) b1.size)
  clear b1 c0 CF kb
  unfold fldV
  go_wp2_with fail
  go_ret2
  exact ⟨_, _, _, rfl, rfl, FK.out, FB.out⟩
set_option maxRecDepth 100000 in
set_option maxHeartbeats 400000 in
theorem fields_4 (gm : Nat) (l : List Int) (w : World) (hm : Blk w gm (msgV l) 66) (hk : l.getD 0 0 = 4) :
    Calls Tryd.prog 61 #[.pointer (some ⟨gm, 0, none⟩)] w (FieldsPost w gm [fSeq]) := by
  have c0 := hm.cell 0
  rw [msgV_get _ _ (by omega), if_neg (by omega), hk] at c0
  have CF := Lib.hid (fun W => seq_any gm 1 W)
  have BB := Lib.hid (Below.refl w.heap.size w)
  clear hm hk
  go_enter Tryd.func61, Tryd.ntmps61
  go_wp2_with fail
  ((with_reducible refine (CF.out _).mono ?_))
  rintro e w1 ⟨v, rfl, ⟨gb, rfl, lb, kb⟩, b1⟩
  have FB : Hid (Below w.heap.size w (w1.alloc (.cells (flatF [(fSeq, gb)]).toArray 130))) := Lib.hid (b1.alloc b1.size _)
  have FK : Hid (FLs (w1.alloc (.cells (flatF [(fSeq, gb)]).toArray 130)) w.heap.size w1.heap.size gm [(fSeq, gb)]) := Lib.hid (fls_blk (Blk.new w1 _ 130) (fun i hi => by
    have : i = 0 := by simpa using hi
    subst this
    exact ⟨lb, Blk.alloc kb _⟩) b1.size)
  clear b1 c0 CF kb
  unfold fldV
  go_wp2_with fail
  go_ret2
  exact ⟨_, _, _, rfl, rfl, FK.out, FB.out⟩
set_option maxRecDepth 100000 in
set_option maxHeartbeats 400000 in
theorem fields_8 (gm : Nat) (l : List Int) (w : World) (hm : Blk w gm (msgV l) 66) (hk : l.getD 0 0 = 8) :
    Calls Tryd.prog 61 #[.pointer (some ⟨gm, 0, none⟩)] w (FieldsPost w gm [fSeq]) := by
  have c0 := hm.cell 0
  rw [msgV_get _ _ (by omega), if_neg (by omega), hk] at c0
  have CF := Lib.hid (fun W => seq_any gm 1 W)
  have BB := Lib.hid (Below.refl w.heap.size w)
  clear hm hk
  go_enter Tryd.func61, Tryd.ntmps61
  go_wp2_with fail
  ((with_reducible refine (CF.out _).mono ?_))
  rintro e w1 ⟨v, rfl, ⟨gb, rfl, lb, kb⟩, b1⟩
  have FB : Hid (Below w.heap.size w (w1.alloc (.cells (flatF [(fSeq, gb)]).toArray 130))) := Lib.hid (b1.alloc b1.size _)
  have FK : Hid (FLs (w1.alloc (.cells (flatF [(fSeq, gb)]).toArray 130)) w.heap.size w1.heap.size gm [(fSeq, gb)]) := Lib.hid (fls_blk (Blk.new w1 _ 130) (fun i hi => by
    have : i = 0 := by simpa using hi
    subst this
    exact ⟨lb, Blk.alloc kb _⟩) b1.size)
  clear b1 c0 CF kb
  unfold fldV
  go_wp2_with fail
  go_ret2
  exact ⟨_, _, _, rfl, rfl, FK.out, FB.out⟩
set_option maxRecDepth 100000 in
set_option maxHeartbeats 400000 in
theorem fields_9 (gm : Nat) (l : List Int) (w : World) (hm : Blk w gm (msgV l) 66) (hk : l.getD 0 0 = 9) :
    Calls Tryd.prog 61 #[.pointer (some ⟨gm, 0, none⟩)] w (FieldsPost w gm [fSeq]) := by
  have c0 := hm.cell 0
  rw [msgV_get _ _ (by omega), if_neg (by omega), hk] at c0
  have CF := Lib.hid (fun W => seq_any gm 1 W)
  have BB := Lib.hid (Below.refl w.heap.size w)
  clear hm hk
  go_enter Tryd.func61, Tryd.ntmps61
  go_wp2_with fail
  ((with_reducible refine (CF.out _).mono ?_))
  rintro e w1 ⟨v, rfl, ⟨gb, rfl, lb, kb⟩, b1⟩
  have FB : Hid (Below w.heap.size w (w1.alloc (.cells (flatF [(fSeq, gb)]).toArray 130))) := Lib.hid (b1.alloc b1.size _)
  have FK : Hid (FLs (w1.alloc (.cells (flatF [(fSeq, gb)]).toArray 130)) w.heap.size w1.heap.size gm [(fSeq, gb)]) := Lib.hid (fls_blk (Blk.new w1 _ 130) (fun i hi => by
    have : i = 0 := by simpa using hi
    subst this
    exact ⟨lb, Blk.alloc kb _⟩) b1.size)
  clear b1 c0 CF kb
  unfold fldV
  go_wp2_with fail
  go_ret2
  exact ⟨_, _, _, rfl, rfl, FK.out, FB.out⟩

theorem box_ne (d : FD) : d.box ≠ 130 := by
  unfold FD.box
  repeat' split
  all_goals decide
theorem info_fld : (Tryd.prog.info? 130).map (fun i => (i.zero, i.size, i.bytes)) = some (some (.agg zfld), 5, 40) := by kernel_rfl
theorem add_fld (g j : Nat) : (⟨g, 0, none⟩ : Addr).add j = ⟨g, j, none⟩ := by unfold Addr.add; split <;> simp_all
/-- a row of fields of one's own -/
def FOwn (w : World) (base gl gm cap : Nat) (fs : List (FD × Nat)) : Prop := base ≤ gl ∧ w.ownsRow base 130 5 (.slice (some ⟨gl, 0, none⟩) fs.length cap) fs.length (flatF fs) ∧ Boxes w base gm fs
theorem FOwn.fls {w : World} {base gl gm cap : Nat} {fs : List (FD × Nat)} (h : FOwn w base gl gm cap fs) : FLs w base gl gm fs :=
  ⟨h.1, fun j u hu => by have := h.2.1.cells (g := gl) rfl j u hu; rwa [add_fld] at this, h.2.2⟩
theorem FOwn.below {w w' : World} {base gl gm cap : Nat} {fs : List (FD × Nat)} (h : FOwn w base gl gm cap fs) (hb : Below w.heap.size w w') : FOwn w' base gl gm cap fs :=
  ⟨h.1, growR_owns (growR_below (b0 := 0) (T := 130) (N := 0) (ys := []) hb) h.2.1 fun j _ hj hlt => absurd hj (by simp only [List.length_nil]; omega), h.2.2.below hb⟩
theorem fown_blk {w : World} {base gl gm n : Nat} {fs : List (FD × Nat)} (hk : Blk w gl (flatF fs).toArray 130) (hb : Boxes w base gm fs) (hg : base ≤ gl) (hn : n = fs.length) (hs : n ≤ 1000) : FOwn w base gl gm n fs :=
  ⟨hg, ⟨flatF_len fs, .inr ⟨gl, n, _, rfl, hg, hk, by omega, by unfold maxLen; omega, by rw [List.size_toArray, flatF_len, hn], by rw [List.toList_toArray, List.take_of_length_le (by rw [flatF_len]; omega)]⟩⟩, hb⟩
set_option maxRecDepth 100000 in
theorem run_append_fld (w : World) (base gl gm cap : Nat) (fs : List (FD × Nat)) (n : Nat) (hn : fs.length = n) (h : FOwn w base gl gm cap fs) (d : FD) (gb g1 c1 : Nat) (hgb : base ≤ gb) (hbx : Box w d gm gb) (hk : Blk w g1 (flatF [(d, gb)]).toArray 130) (hs : n ≤ 1000) (hbase : base ≤ w.heap.size) (ty : TypeId) :
    ∃ gl' cap' w', (Builtin.append_ #[118, 118] ty #[.slice (some ⟨gl, 0, none⟩) n cap, .slice (some ⟨g1, 0, none⟩) 1 c1]).run Tryd.prog w = .ok (.slice (some ⟨gl', 0, none⟩) (n + 1) cap') w' ∧ FOwn w' base gl' gm cap' (fs ++ [(d, gb)]) ∧ Below base w w' := by
  subst hn
  obtain ⟨i0, hi, hz0, hz1, hz2⟩ := info_parts info_fld
  obtain ⟨A', cap', w', hrun, h2, h3, h4, -⟩ := run_append_growR (P := Tryd.prog) w base base 118 ty 130 i0 _ 5 40 Tryd.underlying118 hi hz0 hz1 hz2 rfl (some ⟨gl, 0, none⟩) cap fs.length _ h.2.1 ⟨g1, 0, none⟩ 1 c1 (flatF [(d, gb)]) (flatF_len _)
    (fun j u hu => by rw [add_fld, hk.cell j, List.getElem?_toArray]; exact hu) (flatF_one _) (fun h => by cases h) (by unfold maxLen; omega) (by omega) hbase (Nat.le_refl _)
  rw [← flatF_append] at h2
  rcases h2.2 with ⟨hv, h1⟩ | ⟨g, cp, cur, hv, hbg, -⟩
  · omega
  · injection hv with e1 e2 e3
    subst e1
    refine ⟨g, cap', w', hrun, ⟨hbg, by rw [List.length_append]; exact h2, fun i hi => ?_⟩, h3.2.1 hbase⟩
    rcases Nat.lt_or_ge i fs.length with hlt | hge
    · rw [List.getElem_append_left hlt]
      exact ⟨(h.2.2 i hlt).1, growR_blk h3 (h.2.2 i hlt).2 (box_ne _)⟩
    · have : i = fs.length := by simp at hi; omega
      subst this
      rw [List.getElem_append_right (Nat.le_refl _)]
      simp only [Nat.sub_self, List.getElem_cons_zero]
      exact ⟨hgb, growR_blk h3 hbx (box_ne d)⟩
def RF5 (base gm : Nat) (i : Nat) (v : Value) (w : World) : Prop := match i with
  | 0 => v = .pointer (some ⟨gm, 0, none⟩)
  | 1 => v = .pointer (some ⟨gm, 0, none⟩)
  | 2 => v = .pointer (some ⟨gm, 1, none⟩)
  | 3 => FV w base gm fSeq v
  | 4 => v = .pointer (some ⟨gm, 0, none⟩)
  | 5 => v = .pointer (some ⟨gm, 0, none⟩)
  | 6 => v = .pointer (some ⟨gm, 7, none⟩)
  | 7 => FV w base gm fNow v
  | 8 => ∃ (gl : Nat) (fs : List (FD × Nat)), v = .slice (some ⟨gl, 0, none⟩) 2 2 ∧ fs.map (·.1) = [fSeq, fNow] ∧ base ≤ gl ∧ Boxes w base gm fs ∧ Blk w gl (flatF fs).toArray 130
  | 9 => ∃ (gl : Nat) (fs : List (FD × Nat)), v = .slice (some ⟨gl, 0, none⟩) 2 2 ∧ fs.map (·.1) = [fSeq, fNow] ∧ base ≤ gl ∧ Boxes w base gm fs ∧ Blk w gl (flatF fs).toArray 130
  | _ => v = .bool true
theorem RF5_keep (base gm : Nat) : ∀ i v w w', i < 11 → RF5 base gm i v w → BelR w w' → RF5 base gm i v w' := by
  intro i v w w' hi h hb
  unfold RF5 at *
  split at h
  case h_4 | h_8 => exact h.below hb
  case h_9 | h_10 => obtain ⟨gl, fs, e, m, lg, bx, kk⟩ := h; exact ⟨gl, fs, e, m, lg, bx.below hb, kk.below hb⟩
  all_goals exact h
set_option maxRecDepth 100000 in
set_option maxHeartbeats 800000 in
theorem fields_5 (gm : Nat) (l : List Int) (w : World) (hm : Blk w gm (msgV l) 66) (hk : l.getD 0 0 = 5) :
    Calls Tryd.prog 61 #[.pointer (some ⟨gm, 0, none⟩)] w (FieldsPost w gm [fSeq, fNow]) := by
  have c0 := hm.cell 0
  rw [msgV_get _ _ (by omega), if_neg (by omega), hk] at c0
  have BB := Lib.hid (Below.refl w.heap.size w)
  clear hm hk
  go_enter Tryd.func61, Tryd.ntmps61
  go_wp2_with fail
  clear c0
  refine wp_region_confR' belR_kept (by kernel_rfl) 11 (by kernel_rfl) (by simp) (by decide) (RF5 w.heap.size gm) (RF5_keep _ _) ?_ ?_
  · simp only [ConfStepsR, List.take_succ_cons, List.take_zero, putAll, Act.put, List.setIfInBounds_toArray, List.set_cons_succ, List.set_cons_zero, and_true]
    refine ⟨?_, ?_, ?_, ?_, ?_, ?_, ?_, ?_, ?_, ?_, ?_⟩
    all_goals intro v w' hb hd
    · exact conf_valueR belR_kept (wanted0 rfl) (by simp [go_sem]) rfl
    · have d0 : v 0 = Value.pointer (some ⟨gm, 0, none⟩) := hd.at 0 rfl
      exact conf_valueR belR_kept (wanted0 rfl) (by simp [go_sem, d0]) rfl
    · have d1 : v 1 = Value.pointer (some ⟨gm, 0, none⟩) := hd.at 1 rfl
      exact conf_valueR belR_kept (wanted0 rfl) (by simp [go_sem, d1]) rfl
    · have d2 : v 2 = .pointer (some ⟨gm, 1, none⟩) := hd.at 2 rfl
      refine conf_callR (f := 70) (args := #[v 2]) (wanted0 rfl) (by simp [go_sem]) ?_
      rw [d2]
      exact (seq_any gm 1 w').mono fun e w'' ⟨v, he, ⟨gb, e2, lb, kb⟩, hb'⟩ => ⟨v, he, hb', gb, e2, Nat.le_trans (Nat.le_trans BB.out.size hb.size) lb, kb⟩
    · exact conf_valueR belR_kept (wanted0 rfl) (by simp [go_sem]) rfl
    · have d4 : v 4 = Value.pointer (some ⟨gm, 0, none⟩) := hd.at 4 rfl
      exact conf_valueR belR_kept (wanted0 rfl) (by simp [go_sem, d4]) rfl
    · have d5 : v 5 = Value.pointer (some ⟨gm, 0, none⟩) := hd.at 5 rfl
      exact conf_valueR belR_kept (wanted0 rfl) (by simp [go_sem, d5]) rfl
    · have d6 : v 6 = .pointer (some ⟨gm, 7, none⟩) := hd.at 6 rfl
      refine conf_callR (f := 71) (args := #[v 6]) (wanted0 rfl) (by simp [go_sem]) ?_
      rw [d6]
      exact (now_any gm 7 w').mono fun e w'' ⟨v, he, ⟨gb, e2, lb, kb⟩, hb'⟩ => ⟨v, he, hb', gb, e2, Nat.le_trans (Nat.le_trans BB.out.size hb.size) lb, kb⟩
    · obtain ⟨g0, d3, l0, k0⟩ : FV w' w.heap.size gm fSeq (v 3) := hd.at 3 rfl
      obtain ⟨g1, d7, l1, k1⟩ : FV w' w.heap.size gm fNow (v 7) := hd.at 7 rfl
      refine conf_makeR (w' := w'.alloc (.cells (flatF [(fSeq, g0), (fNow, g1)]).toArray 130)) (v := .slice (some ⟨w'.heap.size, 0, none⟩) 2 2) (wanted0 rfl) (by simp [go_sem, d3, d7, fldV, flatF]) (below_alloc1 w' _) ⟨w'.heap.size, [(fSeq, g0), (fNow, g1)], rfl, rfl, Nat.le_trans BB.out.size hb.size, fun i hi => ?_, Blk.new _ _ _⟩
      match i, hi with
      | 0, _ => exact ⟨l0, Blk.alloc k0 _⟩
      | 1, _ => exact ⟨l1, Blk.alloc k1 _⟩
    · obtain ⟨gl, fs, e, m, lg, bx, kk⟩ : ∃ (gl : Nat) (fs : List (FD × Nat)), v 8 = .slice (some ⟨gl, 0, none⟩) 2 2 ∧ fs.map (·.1) = [fSeq, fNow] ∧ w.heap.size ≤ gl ∧ Boxes w' w.heap.size gm fs ∧ Blk w' gl (flatF fs).toArray 130 := hd.at 8 rfl
      exact conf_valueR belR_kept (wanted0 rfl) (by simp [go_sem, e]) ⟨gl, fs, rfl, m, lg, bx, kk⟩
    · exact conf_valueR belR_kept (wanted0 rfl) (by simp [go_sem]) rfl
  · intro v w' hb hr
    obtain ⟨gl, fs, e, m, lg, bx, kk⟩ : ∃ (gl : Nat) (fs : List (FD × Nat)), v 9 = .slice (some ⟨gl, 0, none⟩) 2 2 ∧ fs.map (·.1) = [fSeq, fNow] ∧ w.heap.size ≤ gl ∧ Boxes w' w.heap.size gm fs ∧ Blk w' gl (flatF fs).toArray 130 := hr 9 (by omega)
    have dt : v 10 = Value.bool true := hr 10 (by omega)
    simp only [List.take_succ_cons, List.take_zero, List.drop_succ_cons, List.drop_zero, putAll, Act.put, List.setIfInBounds_toArray, List.set_cons_succ, List.set_cons_zero]
    rw [dt, e]
    have FK := Lib.hid (fls_blk kk bx lg)
    have FB := Lib.hid (bt BB.out hb)
    replace m := Lib.hid m
    clear hr hb dt e kk bx
    go_wp2_with fail
    go_ret2
    exact ⟨gl, _, fs, rfl, m.out, FK.out, FB.out⟩
def RF6 (base gm : Nat) (i : Nat) (v : Value) (w : World) : Prop := match i with
  | 0 => v = .pointer (some ⟨gm, 0, none⟩)
  | 1 => v = .pointer (some ⟨gm, 0, none⟩)
  | 2 => v = .pointer (some ⟨gm, 1, none⟩)
  | 3 => FV w base gm fSeq v
  | 4 => v = .pointer (some ⟨gm, 0, none⟩)
  | 5 => v = .pointer (some ⟨gm, 0, none⟩)
  | 6 => v = .pointer (some ⟨gm, 3, none⟩)
  | 7 => FV w base gm fTo v
  | 8 => ∃ (gl : Nat) (fs : List (FD × Nat)), v = .slice (some ⟨gl, 0, none⟩) 2 2 ∧ fs.map (·.1) = [fSeq, fTo] ∧ base ≤ gl ∧ Boxes w base gm fs ∧ Blk w gl (flatF fs).toArray 130
  | 9 => ∃ (gl : Nat) (fs : List (FD × Nat)), v = .slice (some ⟨gl, 0, none⟩) 2 2 ∧ fs.map (·.1) = [fSeq, fTo] ∧ base ≤ gl ∧ Boxes w base gm fs ∧ Blk w gl (flatF fs).toArray 130
  | _ => v = .bool true
theorem RF6_keep (base gm : Nat) : ∀ i v w w', i < 11 → RF6 base gm i v w → BelR w w' → RF6 base gm i v w' := by
  intro i v w w' hi h hb
  unfold RF6 at *
  split at h
  case h_4 | h_8 => exact h.below hb
  case h_9 | h_10 => obtain ⟨gl, fs, e, m, lg, bx, kk⟩ := h; exact ⟨gl, fs, e, m, lg, bx.below hb, kk.below hb⟩
  all_goals exact h
set_option maxRecDepth 100000 in
set_option maxHeartbeats 800000 in
theorem fields_6 (gm : Nat) (l : List Int) (w : World) (hm : Blk w gm (msgV l) 66) (hk : l.getD 0 0 = 6) :
    Calls Tryd.prog 61 #[.pointer (some ⟨gm, 0, none⟩)] w (FieldsPost w gm [fSeq, fTo]) := by
  have c0 := hm.cell 0
  rw [msgV_get _ _ (by omega), if_neg (by omega), hk] at c0
  have BB := Lib.hid (Below.refl w.heap.size w)
  clear hm hk
  go_enter Tryd.func61, Tryd.ntmps61
  go_wp2_with fail
  clear c0
  refine wp_region_confR' belR_kept (by kernel_rfl) 11 (by kernel_rfl) (by simp) (by decide) (RF6 w.heap.size gm) (RF6_keep _ _) ?_ ?_
  · simp only [ConfStepsR, List.take_succ_cons, List.take_zero, putAll, Act.put, List.setIfInBounds_toArray, List.set_cons_succ, List.set_cons_zero, and_true]
    refine ⟨?_, ?_, ?_, ?_, ?_, ?_, ?_, ?_, ?_, ?_, ?_⟩
    all_goals intro v w' hb hd
    · exact conf_valueR belR_kept (wanted0 rfl) (by simp [go_sem]) rfl
    · have d0 : v 0 = Value.pointer (some ⟨gm, 0, none⟩) := hd.at 0 rfl
      exact conf_valueR belR_kept (wanted0 rfl) (by simp [go_sem, d0]) rfl
    · have d1 : v 1 = Value.pointer (some ⟨gm, 0, none⟩) := hd.at 1 rfl
      exact conf_valueR belR_kept (wanted0 rfl) (by simp [go_sem, d1]) rfl
    · have d2 : v 2 = .pointer (some ⟨gm, 1, none⟩) := hd.at 2 rfl
      refine conf_callR (f := 70) (args := #[v 2]) (wanted0 rfl) (by simp [go_sem]) ?_
      rw [d2]
      exact (seq_any gm 1 w').mono fun e w'' ⟨v, he, ⟨gb, e2, lb, kb⟩, hb'⟩ => ⟨v, he, hb', gb, e2, Nat.le_trans (Nat.le_trans BB.out.size hb.size) lb, kb⟩
    · exact conf_valueR belR_kept (wanted0 rfl) (by simp [go_sem]) rfl
    · have d4 : v 4 = Value.pointer (some ⟨gm, 0, none⟩) := hd.at 4 rfl
      exact conf_valueR belR_kept (wanted0 rfl) (by simp [go_sem, d4]) rfl
    · have d5 : v 5 = Value.pointer (some ⟨gm, 0, none⟩) := hd.at 5 rfl
      exact conf_valueR belR_kept (wanted0 rfl) (by simp [go_sem, d5]) rfl
    · have d6 : v 6 = .pointer (some ⟨gm, 3, none⟩) := hd.at 6 rfl
      refine conf_callR (f := 72) (args := #[v 6]) (wanted0 rfl) (by simp [go_sem]) ?_
      rw [d6]
      exact (source_any gm 3 w').mono fun e w'' ⟨v, he, ⟨gb, e2, lb, kb⟩, hb'⟩ => ⟨v, he, hb', gb, e2, Nat.le_trans (Nat.le_trans BB.out.size hb.size) lb, kb⟩
    · obtain ⟨g0, d3, l0, k0⟩ : FV w' w.heap.size gm fSeq (v 3) := hd.at 3 rfl
      obtain ⟨g1, d7, l1, k1⟩ : FV w' w.heap.size gm fTo (v 7) := hd.at 7 rfl
      refine conf_makeR (w' := w'.alloc (.cells (flatF [(fSeq, g0), (fTo, g1)]).toArray 130)) (v := .slice (some ⟨w'.heap.size, 0, none⟩) 2 2) (wanted0 rfl) (by simp [go_sem, d3, d7, fldV, flatF]) (below_alloc1 w' _) ⟨w'.heap.size, [(fSeq, g0), (fTo, g1)], rfl, rfl, Nat.le_trans BB.out.size hb.size, fun i hi => ?_, Blk.new _ _ _⟩
      match i, hi with
      | 0, _ => exact ⟨l0, Blk.alloc k0 _⟩
      | 1, _ => exact ⟨l1, Blk.alloc k1 _⟩
    · obtain ⟨gl, fs, e, m, lg, bx, kk⟩ : ∃ (gl : Nat) (fs : List (FD × Nat)), v 8 = .slice (some ⟨gl, 0, none⟩) 2 2 ∧ fs.map (·.1) = [fSeq, fTo] ∧ w.heap.size ≤ gl ∧ Boxes w' w.heap.size gm fs ∧ Blk w' gl (flatF fs).toArray 130 := hd.at 8 rfl
      exact conf_valueR belR_kept (wanted0 rfl) (by simp [go_sem, e]) ⟨gl, fs, rfl, m, lg, bx, kk⟩
    · exact conf_valueR belR_kept (wanted0 rfl) (by simp [go_sem]) rfl
  · intro v w' hb hr
    obtain ⟨gl, fs, e, m, lg, bx, kk⟩ : ∃ (gl : Nat) (fs : List (FD × Nat)), v 9 = .slice (some ⟨gl, 0, none⟩) 2 2 ∧ fs.map (·.1) = [fSeq, fTo] ∧ w.heap.size ≤ gl ∧ Boxes w' w.heap.size gm fs ∧ Blk w' gl (flatF fs).toArray 130 := hr 9 (by omega)
    have dt : v 10 = Value.bool true := hr 10 (by omega)
    simp only [List.take_succ_cons, List.take_zero, List.drop_succ_cons, List.drop_zero, putAll, Act.put, List.setIfInBounds_toArray, List.set_cons_succ, List.set_cons_zero]
    rw [dt, e]
    have FK := Lib.hid (fls_blk kk bx lg)
    have FB := Lib.hid (bt BB.out hb)
    replace m := Lib.hid m
    clear hr hb dt e kk bx
    go_wp2_with fail
    go_ret2
    exact ⟨gl, _, fs, rfl, m.out, FK.out, FB.out⟩
def RF7 (base gm : Nat) (i : Nat) (v : Value) (w : World) : Prop := match i with
  | 0 => v = .pointer (some ⟨gm, 0, none⟩)
  | 1 => v = .pointer (some ⟨gm, 0, none⟩)
  | 2 => v = .pointer (some ⟨gm, 1, none⟩)
  | 3 => FV w base gm fSeq v
  | 4 => v = .pointer (some ⟨gm, 0, none⟩)
  | 5 => v = .pointer (some ⟨gm, 0, none⟩)
  | 6 => v = .pointer (some ⟨gm, 4, none⟩)
  | 7 => FV w base gm fEpoch v
  | 8 => ∃ (gl : Nat) (fs : List (FD × Nat)), v = .slice (some ⟨gl, 0, none⟩) 2 2 ∧ fs.map (·.1) = [fSeq, fEpoch] ∧ base ≤ gl ∧ Boxes w base gm fs ∧ Blk w gl (flatF fs).toArray 130
  | 9 => ∃ (gl : Nat) (fs : List (FD × Nat)), v = .slice (some ⟨gl, 0, none⟩) 2 2 ∧ fs.map (·.1) = [fSeq, fEpoch] ∧ base ≤ gl ∧ Boxes w base gm fs ∧ Blk w gl (flatF fs).toArray 130
  | _ => v = .bool true
theorem RF7_keep (base gm : Nat) : ∀ i v w w', i < 11 → RF7 base gm i v w → BelR w w' → RF7 base gm i v w' := by
  intro i v w w' hi h hb
  unfold RF7 at *
  split at h
  case h_4 | h_8 => exact h.below hb
  case h_9 | h_10 => obtain ⟨gl, fs, e, m, lg, bx, kk⟩ := h; exact ⟨gl, fs, e, m, lg, bx.below hb, kk.below hb⟩
  all_goals exact h
set_option maxRecDepth 100000 in
set_option maxHeartbeats 800000 in
theorem fields_7 (gm : Nat) (l : List Int) (w : World) (hm : Blk w gm (msgV l) 66) (hk : l.getD 0 0 = 7) :
    Calls Tryd.prog 61 #[.pointer (some ⟨gm, 0, none⟩)] w (FieldsPost w gm [fSeq, fEpoch]) := by
  have c0 := hm.cell 0
  rw [msgV_get _ _ (by omega), if_neg (by omega), hk] at c0
  have BB := Lib.hid (Below.refl w.heap.size w)
  clear hm hk
  go_enter Tryd.func61, Tryd.ntmps61
  go_wp2_with fail
  clear c0
  refine wp_region_confR' belR_kept (by kernel_rfl) 11 (by kernel_rfl) (by simp) (by decide) (RF7 w.heap.size gm) (RF7_keep _ _) ?_ ?_
  · simp only [ConfStepsR, List.take_succ_cons, List.take_zero, putAll, Act.put, List.setIfInBounds_toArray, List.set_cons_succ, List.set_cons_zero, and_true]
    refine ⟨?_, ?_, ?_, ?_, ?_, ?_, ?_, ?_, ?_, ?_, ?_⟩
    all_goals intro v w' hb hd
    · exact conf_valueR belR_kept (wanted0 rfl) (by simp [go_sem]) rfl
    · have d0 : v 0 = Value.pointer (some ⟨gm, 0, none⟩) := hd.at 0 rfl
      exact conf_valueR belR_kept (wanted0 rfl) (by simp [go_sem, d0]) rfl
    · have d1 : v 1 = Value.pointer (some ⟨gm, 0, none⟩) := hd.at 1 rfl
      exact conf_valueR belR_kept (wanted0 rfl) (by simp [go_sem, d1]) rfl
    · have d2 : v 2 = .pointer (some ⟨gm, 1, none⟩) := hd.at 2 rfl
      refine conf_callR (f := 70) (args := #[v 2]) (wanted0 rfl) (by simp [go_sem]) ?_
      rw [d2]
      exact (seq_any gm 1 w').mono fun e w'' ⟨v, he, ⟨gb, e2, lb, kb⟩, hb'⟩ => ⟨v, he, hb', gb, e2, Nat.le_trans (Nat.le_trans BB.out.size hb.size) lb, kb⟩
    · exact conf_valueR belR_kept (wanted0 rfl) (by simp [go_sem]) rfl
    · have d4 : v 4 = Value.pointer (some ⟨gm, 0, none⟩) := hd.at 4 rfl
      exact conf_valueR belR_kept (wanted0 rfl) (by simp [go_sem, d4]) rfl
    · have d5 : v 5 = Value.pointer (some ⟨gm, 0, none⟩) := hd.at 5 rfl
      exact conf_valueR belR_kept (wanted0 rfl) (by simp [go_sem, d5]) rfl
    · have d6 : v 6 = .pointer (some ⟨gm, 4, none⟩) := hd.at 6 rfl
      refine conf_callR (f := 73) (args := #[v 6]) (wanted0 rfl) (by simp [go_sem]) ?_
      rw [d6]
      exact (epoch_any gm 4 w').mono fun e w'' ⟨v, he, ⟨gb, e2, lb, kb⟩, hb'⟩ => ⟨v, he, hb', gb, e2, Nat.le_trans (Nat.le_trans BB.out.size hb.size) lb, kb⟩
    · obtain ⟨g0, d3, l0, k0⟩ : FV w' w.heap.size gm fSeq (v 3) := hd.at 3 rfl
      obtain ⟨g1, d7, l1, k1⟩ : FV w' w.heap.size gm fEpoch (v 7) := hd.at 7 rfl
      refine conf_makeR (w' := w'.alloc (.cells (flatF [(fSeq, g0), (fEpoch, g1)]).toArray 130)) (v := .slice (some ⟨w'.heap.size, 0, none⟩) 2 2) (wanted0 rfl) (by simp [go_sem, d3, d7, fldV, flatF]) (below_alloc1 w' _) ⟨w'.heap.size, [(fSeq, g0), (fEpoch, g1)], rfl, rfl, Nat.le_trans BB.out.size hb.size, fun i hi => ?_, Blk.new _ _ _⟩
      match i, hi with
      | 0, _ => exact ⟨l0, Blk.alloc k0 _⟩
      | 1, _ => exact ⟨l1, Blk.alloc k1 _⟩
    · obtain ⟨gl, fs, e, m, lg, bx, kk⟩ : ∃ (gl : Nat) (fs : List (FD × Nat)), v 8 = .slice (some ⟨gl, 0, none⟩) 2 2 ∧ fs.map (·.1) = [fSeq, fEpoch] ∧ w.heap.size ≤ gl ∧ Boxes w' w.heap.size gm fs ∧ Blk w' gl (flatF fs).toArray 130 := hd.at 8 rfl
      exact conf_valueR belR_kept (wanted0 rfl) (by simp [go_sem, e]) ⟨gl, fs, rfl, m, lg, bx, kk⟩
    · exact conf_valueR belR_kept (wanted0 rfl) (by simp [go_sem]) rfl
  · intro v w' hb hr
    obtain ⟨gl, fs, e, m, lg, bx, kk⟩ : ∃ (gl : Nat) (fs : List (FD × Nat)), v 9 = .slice (some ⟨gl, 0, none⟩) 2 2 ∧ fs.map (·.1) = [fSeq, fEpoch] ∧ w.heap.size ≤ gl ∧ Boxes w' w.heap.size gm fs ∧ Blk w' gl (flatF fs).toArray 130 := hr 9 (by omega)
    have dt : v 10 = Value.bool true := hr 10 (by omega)
    simp only [List.take_succ_cons, List.take_zero, List.drop_succ_cons, List.drop_zero, putAll, Act.put, List.setIfInBounds_toArray, List.set_cons_succ, List.set_cons_zero]
    rw [dt, e]
    have FK := Lib.hid (fls_blk kk bx lg)
    have FB := Lib.hid (bt BB.out hb)
    replace m := Lib.hid m
    clear hr hb dt e kk bx
    go_wp2_with fail
    go_ret2
    exact ⟨gl, _, fs, rfl, m.out, FK.out, FB.out⟩
def RF10 (base gm : Nat) (i : Nat) (v : Value) (w : World) : Prop := match i with
  | 0 => v = .pointer (some ⟨gm, 0, none⟩)
  | 1 => v = .pointer (some ⟨gm, 0, none⟩)
  | 2 => v = .pointer (some ⟨gm, 1, none⟩)
  | 3 => FV w base gm fSeq v
  | 4 => v = .pointer (some ⟨gm, 0, none⟩)
  | 5 => v = .pointer (some ⟨gm, 0, none⟩)
  | 6 => v = .pointer (some ⟨gm, 4, none⟩)
  | 7 => FV w base gm fEpoch v
  | 8 => v = .pointer (some ⟨gm, 0, none⟩)
  | 9 => v = .pointer (some ⟨gm, 0, none⟩)
  | 10 => v = .pointer (some ⟨gm, 5, none⟩)
  | 11 => FV w base gm fMode v
  | 12 => ∃ (gl : Nat) (fs : List (FD × Nat)), v = .slice (some ⟨gl, 0, none⟩) 3 3 ∧ fs.map (·.1) = [fSeq, fEpoch, fMode] ∧ base ≤ gl ∧ Boxes w base gm fs ∧ Blk w gl (flatF fs).toArray 130
  | 13 => ∃ (gl : Nat) (fs : List (FD × Nat)), v = .slice (some ⟨gl, 0, none⟩) 3 3 ∧ fs.map (·.1) = [fSeq, fEpoch, fMode] ∧ base ≤ gl ∧ Boxes w base gm fs ∧ Blk w gl (flatF fs).toArray 130
  | _ => v = .bool true
theorem RF10_keep (base gm : Nat) : ∀ i v w w', i < 15 → RF10 base gm i v w → BelR w w' → RF10 base gm i v w' := by
  intro i v w w' hi h hb
  unfold RF10 at *
  split at h
  case h_4 | h_8 | h_12 => exact h.below hb
  case h_13 | h_14 => obtain ⟨gl, fs, e, m, lg, bx, kk⟩ := h; exact ⟨gl, fs, e, m, lg, bx.below hb, kk.below hb⟩
  all_goals exact h
set_option maxRecDepth 100000 in
set_option maxHeartbeats 800000 in
theorem fields_10 (gm : Nat) (l : List Int) (w : World) (hm : Blk w gm (msgV l) 66) (hk : l.getD 0 0 = 10) :
    Calls Tryd.prog 61 #[.pointer (some ⟨gm, 0, none⟩)] w (FieldsPost w gm [fSeq, fEpoch, fMode]) := by
  have c0 := hm.cell 0
  rw [msgV_get _ _ (by omega), if_neg (by omega), hk] at c0
  have BB := Lib.hid (Below.refl w.heap.size w)
  clear hm hk
  go_enter Tryd.func61, Tryd.ntmps61
  go_wp2_with fail
  clear c0
  refine wp_region_confR' belR_kept (by kernel_rfl) 15 (by kernel_rfl) (by simp) (by decide) (RF10 w.heap.size gm) (RF10_keep _ _) ?_ ?_
  · simp only [ConfStepsR, List.take_succ_cons, List.take_zero, putAll, Act.put, List.setIfInBounds_toArray, List.set_cons_succ, List.set_cons_zero, and_true]
    refine ⟨?_, ?_, ?_, ?_, ?_, ?_, ?_, ?_, ?_, ?_, ?_, ?_, ?_, ?_, ?_⟩
    all_goals intro v w' hb hd
    · exact conf_valueR belR_kept (wanted0 rfl) (by simp [go_sem]) rfl
    · have d0 : v 0 = Value.pointer (some ⟨gm, 0, none⟩) := hd.at 0 rfl
      exact conf_valueR belR_kept (wanted0 rfl) (by simp [go_sem, d0]) rfl
    · have d1 : v 1 = Value.pointer (some ⟨gm, 0, none⟩) := hd.at 1 rfl
      exact conf_valueR belR_kept (wanted0 rfl) (by simp [go_sem, d1]) rfl
    · have d2 : v 2 = .pointer (some ⟨gm, 1, none⟩) := hd.at 2 rfl
      refine conf_callR (f := 70) (args := #[v 2]) (wanted0 rfl) (by simp [go_sem]) ?_
      rw [d2]
      exact (seq_any gm 1 w').mono fun e w'' ⟨v, he, ⟨gb, e2, lb, kb⟩, hb'⟩ => ⟨v, he, hb', gb, e2, Nat.le_trans (Nat.le_trans BB.out.size hb.size) lb, kb⟩
    · exact conf_valueR belR_kept (wanted0 rfl) (by simp [go_sem]) rfl
    · have d4 : v 4 = Value.pointer (some ⟨gm, 0, none⟩) := hd.at 4 rfl
      exact conf_valueR belR_kept (wanted0 rfl) (by simp [go_sem, d4]) rfl
    · have d5 : v 5 = Value.pointer (some ⟨gm, 0, none⟩) := hd.at 5 rfl
      exact conf_valueR belR_kept (wanted0 rfl) (by simp [go_sem, d5]) rfl
    · have d6 : v 6 = .pointer (some ⟨gm, 4, none⟩) := hd.at 6 rfl
      refine conf_callR (f := 73) (args := #[v 6]) (wanted0 rfl) (by simp [go_sem]) ?_
      rw [d6]
      exact (epoch_any gm 4 w').mono fun e w'' ⟨v, he, ⟨gb, e2, lb, kb⟩, hb'⟩ => ⟨v, he, hb', gb, e2, Nat.le_trans (Nat.le_trans BB.out.size hb.size) lb, kb⟩
    · exact conf_valueR belR_kept (wanted0 rfl) (by simp [go_sem]) rfl
    · have d8 : v 8 = Value.pointer (some ⟨gm, 0, none⟩) := hd.at 8 rfl
      exact conf_valueR belR_kept (wanted0 rfl) (by simp [go_sem, d8]) rfl
    · have d9 : v 9 = Value.pointer (some ⟨gm, 0, none⟩) := hd.at 9 rfl
      exact conf_valueR belR_kept (wanted0 rfl) (by simp [go_sem, d9]) rfl
    · have d10 : v 10 = .pointer (some ⟨gm, 5, none⟩) := hd.at 10 rfl
      refine conf_callR (f := 74) (args := #[v 10, .int .i64 1, .int .i64 0, .int .i64 4]) (wanted0 rfl) (by simp [go_sem]) ?_
      rw [d10]
      exact (number_any fMode rfl gm w').mono fun e w'' ⟨v, he, ⟨gb, e2, lb, kb⟩, hb'⟩ => ⟨v, he, hb', gb, e2, Nat.le_trans (Nat.le_trans BB.out.size hb.size) lb, kb⟩
    · obtain ⟨g0, d3, l0, k0⟩ : FV w' w.heap.size gm fSeq (v 3) := hd.at 3 rfl
      obtain ⟨g1, d7, l1, k1⟩ : FV w' w.heap.size gm fEpoch (v 7) := hd.at 7 rfl
      obtain ⟨g2, d11, l2, k2⟩ : FV w' w.heap.size gm fMode (v 11) := hd.at 11 rfl
      refine conf_makeR (w' := w'.alloc (.cells (flatF [(fSeq, g0), (fEpoch, g1), (fMode, g2)]).toArray 130)) (v := .slice (some ⟨w'.heap.size, 0, none⟩) 3 3) (wanted0 rfl) (by simp [go_sem, d3, d7, d11, fldV, flatF]) (below_alloc1 w' _) ⟨w'.heap.size, [(fSeq, g0), (fEpoch, g1), (fMode, g2)], rfl, rfl, Nat.le_trans BB.out.size hb.size, fun i hi => ?_, Blk.new _ _ _⟩
      match i, hi with
      | 0, _ => exact ⟨l0, Blk.alloc k0 _⟩
      | 1, _ => exact ⟨l1, Blk.alloc k1 _⟩
      | 2, _ => exact ⟨l2, Blk.alloc k2 _⟩
    · obtain ⟨gl, fs, e, m, lg, bx, kk⟩ : ∃ (gl : Nat) (fs : List (FD × Nat)), v 12 = .slice (some ⟨gl, 0, none⟩) 3 3 ∧ fs.map (·.1) = [fSeq, fEpoch, fMode] ∧ w.heap.size ≤ gl ∧ Boxes w' w.heap.size gm fs ∧ Blk w' gl (flatF fs).toArray 130 := hd.at 12 rfl
      exact conf_valueR belR_kept (wanted0 rfl) (by simp [go_sem, e]) ⟨gl, fs, rfl, m, lg, bx, kk⟩
    · exact conf_valueR belR_kept (wanted0 rfl) (by simp [go_sem]) rfl
  · intro v w' hb hr
    obtain ⟨gl, fs, e, m, lg, bx, kk⟩ : ∃ (gl : Nat) (fs : List (FD × Nat)), v 13 = .slice (some ⟨gl, 0, none⟩) 3 3 ∧ fs.map (·.1) = [fSeq, fEpoch, fMode] ∧ w.heap.size ≤ gl ∧ Boxes w' w.heap.size gm fs ∧ Blk w' gl (flatF fs).toArray 130 := hr 13 (by omega)
    have dt : v 14 = Value.bool true := hr 14 (by omega)
    simp only [List.take_succ_cons, List.take_zero, List.drop_succ_cons, List.drop_zero, putAll, Act.put, List.setIfInBounds_toArray, List.set_cons_succ, List.set_cons_zero]
    rw [dt, e]
    have FK := Lib.hid (fls_blk kk bx lg)
    have FB := Lib.hid (bt BB.out hb)
    replace m := Lib.hid m
    clear hr hb dt e kk bx
    go_wp2_with fail
    go_ret2
    exact ⟨gl, _, fs, rfl, m.out, FK.out, FB.out⟩
def RF11 (base gm : Nat) (i : Nat) (v : Value) (w : World) : Prop := match i with
  | 0 => v = .pointer (some ⟨gm, 0, none⟩)
  | 1 => v = .pointer (some ⟨gm, 0, none⟩)
  | 2 => v = .pointer (some ⟨gm, 1, none⟩)
  | 3 => FV w base gm fSeq v
  | 4 => v = .pointer (some ⟨gm, 0, none⟩)
  | 5 => v = .pointer (some ⟨gm, 0, none⟩)
  | 6 => v = .pointer (some ⟨gm, 4, none⟩)
  | 7 => FV w base gm fEpoch v
  | 8 => v = .pointer (some ⟨gm, 0, none⟩)
  | 9 => v = .pointer (some ⟨gm, 0, none⟩)
  | 10 => v = .pointer (some ⟨gm, 6, none⟩)
  | 11 => FV w base gm fClass v
  | _ => ∃ (gl : Nat) (fs : List (FD × Nat)), v = .slice (some ⟨gl, 0, none⟩) 3 3 ∧ fs.map (·.1) = [fSeq, fEpoch, fClass] ∧ base ≤ gl ∧ Boxes w base gm fs ∧ Blk w gl (flatF fs).toArray 130
theorem RF11_keep (base gm : Nat) : ∀ i v w w', i < 14 → RF11 base gm i v w → BelR w w' → RF11 base gm i v w' := by
  intro i v w w' hi h hb
  unfold RF11 at *
  split at h
  case h_4 | h_8 | h_12 => exact h.below hb
  case h_13 => obtain ⟨gl, fs, e, m, lg, bx, kk⟩ := h; exact ⟨gl, fs, e, m, lg, bx.below hb, kk.below hb⟩
  all_goals exact h
set_option maxRecDepth 100000 in
set_option maxHeartbeats 800000 in
theorem fields_11 (gm : Nat) (l : List Int) (w : World) (hm : Blk w gm (msgV l) 66) (hk : l.getD 0 0 = 11) :
    Calls Tryd.prog 61 #[.pointer (some ⟨gm, 0, none⟩)] w (FieldsPost w gm [fSeq, fEpoch, fClass, fAxis 0, fAxis 1, fAxis 2, fAxis 3]) := by
  have c0 := hm.cell 0
  rw [msgV_get _ _ (by omega), if_neg (by omega), hk] at c0
  have BB := Lib.hid (Below.refl w.heap.size w)
  clear hm hk
  go_enter Tryd.func61, Tryd.ntmps61
  go_wp2_with fail
  clear c0
  refine wp_region_confR' belR_kept (by kernel_rfl) 14 (by kernel_rfl) (by simp) (by decide) (RF11 w.heap.size gm) (RF11_keep _ _) ?_ ?_
  · simp only [ConfStepsR, List.take_succ_cons, List.take_zero, putAll, Act.put, List.setIfInBounds_toArray, List.set_cons_succ, List.set_cons_zero, and_true]
    refine ⟨?_, ?_, ?_, ?_, ?_, ?_, ?_, ?_, ?_, ?_, ?_, ?_, ?_, ?_⟩
    all_goals intro v w' hb hd
    · exact conf_valueR belR_kept (wanted0 rfl) (by simp [go_sem]) rfl
    · have d0 : v 0 = Value.pointer (some ⟨gm, 0, none⟩) := hd.at 0 rfl
      exact conf_valueR belR_kept (wanted0 rfl) (by simp [go_sem, d0]) rfl
    · have d1 : v 1 = Value.pointer (some ⟨gm, 0, none⟩) := hd.at 1 rfl
      exact conf_valueR belR_kept (wanted0 rfl) (by simp [go_sem, d1]) rfl
    · have d2 : v 2 = .pointer (some ⟨gm, 1, none⟩) := hd.at 2 rfl
      refine conf_callR (f := 70) (args := #[v 2]) (wanted0 rfl) (by simp [go_sem]) ?_
      rw [d2]
      exact (seq_any gm 1 w').mono fun e w'' ⟨v, he, ⟨gb, e2, lb, kb⟩, hb'⟩ => ⟨v, he, hb', gb, e2, Nat.le_trans (Nat.le_trans BB.out.size hb.size) lb, kb⟩
    · exact conf_valueR belR_kept (wanted0 rfl) (by simp [go_sem]) rfl
    · have d4 : v 4 = Value.pointer (some ⟨gm, 0, none⟩) := hd.at 4 rfl
      exact conf_valueR belR_kept (wanted0 rfl) (by simp [go_sem, d4]) rfl
    · have d5 : v 5 = Value.pointer (some ⟨gm, 0, none⟩) := hd.at 5 rfl
      exact conf_valueR belR_kept (wanted0 rfl) (by simp [go_sem, d5]) rfl
    · have d6 : v 6 = .pointer (some ⟨gm, 4, none⟩) := hd.at 6 rfl
      refine conf_callR (f := 73) (args := #[v 6]) (wanted0 rfl) (by simp [go_sem]) ?_
      rw [d6]
      exact (epoch_any gm 4 w').mono fun e w'' ⟨v, he, ⟨gb, e2, lb, kb⟩, hb'⟩ => ⟨v, he, hb', gb, e2, Nat.le_trans (Nat.le_trans BB.out.size hb.size) lb, kb⟩
    · exact conf_valueR belR_kept (wanted0 rfl) (by simp [go_sem]) rfl
    · have d8 : v 8 = Value.pointer (some ⟨gm, 0, none⟩) := hd.at 8 rfl
      exact conf_valueR belR_kept (wanted0 rfl) (by simp [go_sem, d8]) rfl
    · have d9 : v 9 = Value.pointer (some ⟨gm, 0, none⟩) := hd.at 9 rfl
      exact conf_valueR belR_kept (wanted0 rfl) (by simp [go_sem, d9]) rfl
    · have d10 : v 10 = .pointer (some ⟨gm, 6, none⟩) := hd.at 10 rfl
      refine conf_callR (f := 74) (args := #[v 10, .int .i64 1, .int .i64 1, .int .i64 3]) (wanted0 rfl) (by simp [go_sem]) ?_
      rw [d10]
      exact (number_any fClass rfl gm w').mono fun e w'' ⟨v, he, ⟨gb, e2, lb, kb⟩, hb'⟩ => ⟨v, he, hb', gb, e2, Nat.le_trans (Nat.le_trans BB.out.size hb.size) lb, kb⟩
    · obtain ⟨g0, d3, l0, k0⟩ : FV w' w.heap.size gm fSeq (v 3) := hd.at 3 rfl
      obtain ⟨g1, d7, l1, k1⟩ : FV w' w.heap.size gm fEpoch (v 7) := hd.at 7 rfl
      obtain ⟨g2, d11, l2, k2⟩ : FV w' w.heap.size gm fClass (v 11) := hd.at 11 rfl
      refine conf_makeR (w' := w'.alloc (.cells (flatF [(fSeq, g0), (fEpoch, g1), (fClass, g2)]).toArray 130)) (v := .slice (some ⟨w'.heap.size, 0, none⟩) 3 3) (wanted0 rfl) (by simp [go_sem, d3, d7, d11, fldV, flatF]) (below_alloc1 w' _) ⟨w'.heap.size, [(fSeq, g0), (fEpoch, g1), (fClass, g2)], rfl, rfl, Nat.le_trans BB.out.size hb.size, fun i hi => ?_, Blk.new _ _ _⟩
      match i, hi with
      | 0, _ => exact ⟨l0, Blk.alloc k0 _⟩
      | 1, _ => exact ⟨l1, Blk.alloc k1 _⟩
      | 2, _ => exact ⟨l2, Blk.alloc k2 _⟩
    · obtain ⟨gl, fs, e, m, lg, bx, kk⟩ : ∃ (gl : Nat) (fs : List (FD × Nat)), v 12 = .slice (some ⟨gl, 0, none⟩) 3 3 ∧ fs.map (·.1) = [fSeq, fEpoch, fClass] ∧ w.heap.size ≤ gl ∧ Boxes w' w.heap.size gm fs ∧ Blk w' gl (flatF fs).toArray 130 := hd.at 12 rfl
      exact conf_valueR belR_kept (wanted0 rfl) (by simp [go_sem, e]) ⟨gl, fs, rfl, m, lg, bx, kk⟩
  · intro v w' hb hr
    obtain ⟨gl, fs, e, m, lg, bx, kk⟩ : ∃ (gl : Nat) (fs : List (FD × Nat)), v 13 = .slice (some ⟨gl, 0, none⟩) 3 3 ∧ fs.map (·.1) = [fSeq, fEpoch, fClass] ∧ w.heap.size ≤ gl ∧ Boxes w' w.heap.size gm fs ∧ Blk w' gl (flatF fs).toArray 130 := hr 13 (by omega)
    simp only [List.take_succ_cons, List.take_zero, List.drop_succ_cons, List.drop_zero, putAll, Act.put, List.setIfInBounds_toArray, List.set_cons_succ, List.set_cons_zero]
    rw [e]
    have ln : fs.length = 3 := by have := congrArg List.length m; simpa using this
    have K0 := Lib.hid (fown_blk kk bx lg ln.symm (by omega))
    have FB := Lib.hid (bt BB.out hb)
    replace m := Lib.hid m
    clear hr hb e kk bx

    go_wp2_with fail
    refine wp_loop_rounds 5 ?_
    rw [rounds_succ]
    go_wp2_with fail
    ((with_reducible refine (axis_any gm 8 _).mono ?_))
    rintro e x0 ⟨v0, rfl, ⟨gb0, rfl, lb0, kb0⟩, b0⟩
    have lx0 := FB.out.size
    replace K0 := Lib.hid ((K0.out.below b0).below (below_alloc1 x0 (.cells (flatF [(fAxis 0, gb0)]).toArray 130)))
    have HA := Lib.hid (Blk.new x0 (flatF [(fAxis 0, gb0)]).toArray 130)
    have HB0 := Lib.hid (Blk.alloc kb0 (.cells (flatF [(fAxis 0, gb0)]).toArray 130))
    replace FB := Lib.hid (bt (bt FB.out b0) (below_alloc1 x0 (.cells (flatF [(fAxis 0, gb0)]).toArray 130)))
    clear b0 kb0
    unfold fldV
    go_wp2_with ((with_reducible show wpList _ _ _ (⟨some 102, _, _, _, _, _⟩ :: _) _ _); refine Marker.mk ?_)
    refine Marker.in ?_
    change wpList _ _ _ _ _ (x0.alloc (.cells (flatF [(fAxis 0, gb0)]).toArray 130))
    have hz0 : w.heap.size ≤ (x0.alloc (.cells (flatF [(fAxis 0, gb0)]).toArray 130)).heap.size := FB.out.size
    obtain ⟨gl0, cp0, y0, hrun, k, b⟩ := run_append_fld _ w.heap.size _ gm _ _ 3 (by simp [ln]) K0.out (fAxis 0) gb0 x0.heap.size 1 (by omega) HB0.out HA.out (by omega) hz0 118
    (with_reducible refine wpRow_run ?_ (run_op_append (s := .tmp 94) (y := .tmp 101) ?_ ?_ ?_ hrun) ?_)
    · exact wanted0 rfl
    · rfl
    · rfl
    · rfl
    have K1 := Lib.hid k
    replace FB := Lib.hid (FB.out.trans b)
    clear k b hrun HA HB0 K0 hz0 lx0

    go_wp2_with fail
    rw [rounds_succ]
    go_wp2_with fail
    ((with_reducible refine (axis_any gm 9 _).mono ?_))
    rintro e x1 ⟨v1, rfl, ⟨gb1, rfl, lb1, kb1⟩, b1⟩
    have lx1 := FB.out.size
    replace K1 := Lib.hid ((K1.out.below b1).below (below_alloc1 x1 (.cells (flatF [(fAxis 1, gb1)]).toArray 130)))
    have HA := Lib.hid (Blk.new x1 (flatF [(fAxis 1, gb1)]).toArray 130)
    have HB1 := Lib.hid (Blk.alloc kb1 (.cells (flatF [(fAxis 1, gb1)]).toArray 130))
    replace FB := Lib.hid (bt (bt FB.out b1) (below_alloc1 x1 (.cells (flatF [(fAxis 1, gb1)]).toArray 130)))
    clear b1 kb1
    unfold fldV
    go_wp2_with ((with_reducible show wpList _ _ _ (⟨some 102, _, _, _, _, _⟩ :: _) _ _); refine Marker.mk ?_)
    refine Marker.in ?_
    change wpList _ _ _ _ _ (x1.alloc (.cells (flatF [(fAxis 1, gb1)]).toArray 130))
    have hz1 : w.heap.size ≤ (x1.alloc (.cells (flatF [(fAxis 1, gb1)]).toArray 130)).heap.size := FB.out.size
    obtain ⟨gl1, cp1, y1, hrun, k, b⟩ := run_append_fld _ w.heap.size _ gm _ _ 4 (by simp [ln]) K1.out (fAxis 1) gb1 x1.heap.size 1 (by omega) HB1.out HA.out (by omega) hz1 118
    (with_reducible refine wpRow_run ?_ (run_op_append (s := .tmp 94) (y := .tmp 101) ?_ ?_ ?_ hrun) ?_)
    · exact wanted0 rfl
    · rfl
    · rfl
    · rfl
    have K2 := Lib.hid k
    replace FB := Lib.hid (FB.out.trans b)
    clear k b hrun HA HB1 K1 hz1 lx1

    go_wp2_with fail
    rw [rounds_succ]
    go_wp2_with fail
    ((with_reducible refine (axis_any gm 10 _).mono ?_))
    rintro e x2 ⟨v2, rfl, ⟨gb2, rfl, lb2, kb2⟩, b2⟩
    have lx2 := FB.out.size
    replace K2 := Lib.hid ((K2.out.below b2).below (below_alloc1 x2 (.cells (flatF [(fAxis 2, gb2)]).toArray 130)))
    have HA := Lib.hid (Blk.new x2 (flatF [(fAxis 2, gb2)]).toArray 130)
    have HB2 := Lib.hid (Blk.alloc kb2 (.cells (flatF [(fAxis 2, gb2)]).toArray 130))
    replace FB := Lib.hid (bt (bt FB.out b2) (below_alloc1 x2 (.cells (flatF [(fAxis 2, gb2)]).toArray 130)))
    clear b2 kb2
    unfold fldV
    go_wp2_with ((with_reducible show wpList _ _ _ (⟨some 102, _, _, _, _, _⟩ :: _) _ _); refine Marker.mk ?_)
    refine Marker.in ?_
    change wpList _ _ _ _ _ (x2.alloc (.cells (flatF [(fAxis 2, gb2)]).toArray 130))
    have hz2 : w.heap.size ≤ (x2.alloc (.cells (flatF [(fAxis 2, gb2)]).toArray 130)).heap.size := FB.out.size
    obtain ⟨gl2, cp2, y2, hrun, k, b⟩ := run_append_fld _ w.heap.size _ gm _ _ 5 (by simp [ln]) K2.out (fAxis 2) gb2 x2.heap.size 1 (by omega) HB2.out HA.out (by omega) hz2 118
    (with_reducible refine wpRow_run ?_ (run_op_append (s := .tmp 94) (y := .tmp 101) ?_ ?_ ?_ hrun) ?_)
    · exact wanted0 rfl
    · rfl
    · rfl
    · rfl
    have K3 := Lib.hid k
    replace FB := Lib.hid (FB.out.trans b)
    clear k b hrun HA HB2 K2 hz2 lx2

    go_wp2_with fail
    rw [rounds_succ]
    go_wp2_with fail
    ((with_reducible refine (axis_any gm 11 _).mono ?_))
    rintro e x3 ⟨v3, rfl, ⟨gb3, rfl, lb3, kb3⟩, b3⟩
    have lx3 := FB.out.size
    replace K3 := Lib.hid ((K3.out.below b3).below (below_alloc1 x3 (.cells (flatF [(fAxis 3, gb3)]).toArray 130)))
    have HA := Lib.hid (Blk.new x3 (flatF [(fAxis 3, gb3)]).toArray 130)
    have HB3 := Lib.hid (Blk.alloc kb3 (.cells (flatF [(fAxis 3, gb3)]).toArray 130))
    replace FB := Lib.hid (bt (bt FB.out b3) (below_alloc1 x3 (.cells (flatF [(fAxis 3, gb3)]).toArray 130)))
    clear b3 kb3
    unfold fldV
    go_wp2_with ((with_reducible show wpList _ _ _ (⟨some 102, _, _, _, _, _⟩ :: _) _ _); refine Marker.mk ?_)
    refine Marker.in ?_
    change wpList _ _ _ _ _ (x3.alloc (.cells (flatF [(fAxis 3, gb3)]).toArray 130))
    have hz3 : w.heap.size ≤ (x3.alloc (.cells (flatF [(fAxis 3, gb3)]).toArray 130)).heap.size := FB.out.size
    obtain ⟨gl3, cp3, y3, hrun, k, b⟩ := run_append_fld _ w.heap.size _ gm _ _ 6 (by simp [ln]) K3.out (fAxis 3) gb3 x3.heap.size 1 (by omega) HB3.out HA.out (by omega) hz3 118
    (with_reducible refine wpRow_run ?_ (run_op_append (s := .tmp 94) (y := .tmp 101) ?_ ?_ ?_ hrun) ?_)
    · exact wanted0 rfl
    · rfl
    · rfl
    · rfl
    have K4 := Lib.hid k
    replace FB := Lib.hid (FB.out.trans b)
    clear k b hrun HA HB3 K3 hz3 lx3

    go_wp2_with fail
    rw [rounds_succ]
    go_wp2_with fail
    go_ret2
    exact ⟨_, _, _, rfl, by simp [m.out], K4.out.fls, FB.out⟩
end Go.Proofs.YtapednkmefbldaaDoor

/- msg.put: kind and numbers as bytes. -/
namespace Go.Proofs.YtapednkmefbldaaDoor
open Go.RowKit

/-- a field, as far as its bytes go: n is the number that its getter tells -/
structure AF where
  (sz lo hi : Int)
  (G S : Nat)
  gp : Value
  n : Int
def AF.cells (a : AF) : Array Value := #[.int .i64 a.sz, .int .i64 a.lo, .int .i64 a.hi, .func (.func a.G) #[] #[a.gp], .func (.func a.S) #[] #[a.gp]]
theorem AF.one (a : AF) : a.cells.all (·.oneCell') = true := by simp [AF.cells, Value.oneCell']
structure AF.ok (a : AF) : Prop where
  neg : a.lo < 0 → -32768 ≤ a.lo ∧ a.hi ≤ 32767
  pos : 0 ≤ a.lo → 1 ≤ a.sz ∧ a.sz ≤ 7 ∧ a.hi < 256 ^ a.sz.toNat
def outA (a : AF) : Option (List Int) := if a.n < a.lo then none else if a.hi < a.n then none else if a.lo < 0 then some (be (a.n % 65536) 2) else some (be a.n a.sz.toNat)
def outsA : List AF → Option (List Int)
  | [] => some []
  | a :: l => match outA a, outsA l with
    | some x, some y => some (x ++ y)
    | _, _ => none
theorem outsA_snoc (l : List AF) (a : AF) (x y : List Int) (h : outsA l = some x) (ha : outA a = some y) : outsA (l ++ [a]) = some (x ++ y) := by
  induction l generalizing x with
  | nil =>
    simp only [outsA, Option.some.injEq] at h
    subst h
    simp [outsA, ha]
  | cons b l ih =>
    simp only [outsA, List.cons_append] at h ⊢
    cases hb : outA b with
    | none => rw [hb] at h; cases h
    | some u =>
      rw [hb] at h
      cases hl : outsA l with
      | none => rw [hl] at h; cases h
      | some v =>
        rw [hl] at h
        simp only [Option.some.injEq] at h
        subst h
        rw [ih v hl]
        simp
theorem outsA_none (l : List AF) (a : AF) (hm : a ∈ l) (ha : outA a = none) : outsA l = none := by
  induction l with
  | nil => cases hm
  | cons b l ih =>
    rcases List.mem_cons.1 hm with h | h
    · subst h
      simp [outsA, ha]
    · simp only [outsA]
      rw [ih h]
      cases outA b <;> rfl
theorem outA_len (a : AF) (ok : a.ok) (bs : List Int) (h : outA a = some bs) : 1 ≤ bs.length ∧ bs.length ≤ 7 := by
  unfold outA at h
  split at h
  · cases h
  split at h
  · cases h
  split at h
  · injection h with h; subst h; rw [be_len]; omega
  · injection h with h; subst h; rw [be_len]
    have := ok.pos (by omega)
    omega
def BytesPost (a : AF) (w : World) (e : Ending) (w' : World) : Prop :=
  (match outA a with
   | none => e = .returned (.tuple #[.slice none 0 0, .bool false])
   | some bs => ∃ g, e = .returned (.tuple #[.slice (some ⟨g, 0, none⟩) bs.length bs.length, .bool true]) ∧ Row w' (some ⟨g, 0, none⟩) bs) ∧ Below w.heap.size w w'
theorem own_one (w : World) (k : Int) (h0 : 0 ≤ k) (h1 : k ≤ 255) : Own (w.alloc (.cells #[.int .u8 k] 5)) w.heap.size (some ⟨w.heap.size, 0, none⟩) 1 [k] :=
  ⟨⟨rfl, .inr ⟨w.heap.size, 1, _, rfl, Nat.le_refl _, heap_alloc_new w _, by simp, by unfold maxLen; omega, rfl, rfl⟩⟩, fun x hx => by simp at hx; omega⟩
/-- the cells of a row of fields -/
def ACells (w : World) (gl : Nat) (fs : List AF) : Prop := ∀ i (h : i < fs.length) j, j < 5 → w.cell? ⟨gl, i * 5 + j, none⟩ = fs[i].cells[j]?
def PutPost (k : Int) (fs : List AF) (w : World) (e : Ending) (w' : World) : Prop :=
  (match outsA fs with
   | none => e = .returned (.tuple #[.slice none 0 0, .bool false])
   | some ps => ∃ A c, e = .returned (.tuple #[.slice A (1 + ps.length) c, .bool true]) ∧ Own w' w.heap.size A c (k :: ps)) ∧ Below w.heap.size w w'

end Go.Proofs.YtapednkmefbldaaDoor
