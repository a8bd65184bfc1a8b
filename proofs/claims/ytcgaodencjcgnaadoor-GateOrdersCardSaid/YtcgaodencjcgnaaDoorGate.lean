/- gate.Judge, the listed table, and the openers of the gate laws. -/
import Derived.Test.YtcgaodencjcgnaaDoorLaid
import Derived.Test.YtcgaodencjcgnaaDoorRule
import Derived.Test.YtcgaodencjcgnaaDoorFitU
import Derived.Test.YtcgaodencjcgnaaDoorRows
namespace Go.Proofs.YtcgaodencjcgnaaDoor
open Go.RowKit Go.WideShapes Go.ChangeShapes

/-- Which kinds are commands, as the listed table has it. -/
def Cmds (w : World) : Prop := ∀ i : Nat, i < 12 → w.cell? ⟨0, i, none⟩ = some (.bool (i == 10 || i == 11))
theorem Cmds.below {w w' : World} (h : Cmds w) (hb : Below w.heap.size w w') : Cmds w' := fun i hi => by
  rw [hb.cell (World.block_lt_of_cell? _ _ (h i hi))]; exact h i hi
theorem gCmds : Tryd.prog.globalNamed "sidestick/gate.commands" = some 0 := by kernel_rfl
theorem tCmds : (Tryd.prog.globals[0]?).map (·.type) = some 48 := by kernel_rfl
theorem laid_of {W : World} (h : laidMetH Tryd.prog [("sidestick/gate.commands", Rows.laid_sidestick_gate_commands)] W) : Cmds W := by
  rw [MakeChecks.laidMetH_plain _ _ _ (by kernel_rfl)] at h
  obtain ⟨ps, ⟨g0, t0, cs0, f0, p0, q0, hg0, ht0, hv0, hd0, _, _⟩, _⟩ := h
  obtain rfl := Option.some.inj (gCmds.symm.trans hg0)
  obtain rfl := Option.some.inj (tCmds.symm.trans ht0)
  intro i hi
  have hcell := World.var?_cell hg0 hv0 i
  have hl : ∀ j : Fin 12, ([.lit (.bool false), .lit (.bool false), .lit (.bool false), .lit (.bool false), .lit (.bool false), .lit (.bool false), .lit (.bool false), .lit (.bool false), .lit (.bool false), .lit (.bool false), .lit (.bool true), .lit (.bool true)] : List (DataW Unit))[j.1]? = some (.lit (.bool (j.1 == 10 || j.1 == 11))) := by
    intro ⟨j, hj⟩
    rcases (show j = 0 ∨ j = 1 ∨ j = 2 ∨ j = 3 ∨ j = 4 ∨ j = 5 ∨ j = 6 ∨ j = 7 ∨ j = 8 ∨ j = 9 ∨ j = 10 ∨ j = 11 by omega) with rfl | rfl | rfl | rfl | rfl | rfl | rfl | rfl | rfl | rfl | rfl | rfl <;> rfl
  obtain ⟨m, c, q', h1, h2⟩ := arr_cells Tryd.underlying48 (by kernel_rfl) (by kernel_rfl) hd0 i _ (hl ⟨i, hi⟩)
  obtain ⟨b, e1, e2⟩ := DataW.trod_bool Tryd.underlying4 h2
  simp only [List.cons.injEq, and_true] at e1
  simp only [Prod.mk.injEq, DataW.lit.injEq, Lit.bool.injEq] at e2
  rw [hcell, ← Array.getElem?_toList, h1, e1, ← e2.1]

def judge (g : Nat → Value) (holder epoch source role mode kind mepoch mmode mclass : Int) : Int :=
  if ¬ (kind = 10 ∨ kind = 11) then 1 else if ¬ source = holder then 20 else if ¬ mepoch = epoch then 21
  else if may g mode role (if kind = 10 then 0 else mclass) = false then 22 else if kind = 10 ∧ goes g mode mmode = false then 23 else 0

set_option maxRecDepth 100000 in
set_option maxHeartbeats 1600000 in
theorem judge_kind (g : Nat → Value) (holder epoch source role mode kind mepoch mmode mclass : Int) (t2 t3 t4 t5 t6 t7 m1 m2 m3 m7 m8 m9 m10 m11 : Value) (w : World) (hg : ∀ i, 9 ≤ i → i < 56 → I64 (g i)) (hc : Cmds w) (hk : ¬ (kind = 10 ∨ kind = 11)) :
    Calls Tryd.prog 8 #[.agg (mkc 56 g), .agg #[.int .i64 holder, .int .i64 epoch, t2, t3, t4, t5, t6, t7], .int .i64 source, .int .i64 role, .int .i64 mode, .agg #[.int .i64 kind, m1, m2, m3, .int .i64 mepoch, .int .i64 mmode, .int .i64 mclass, m7, m8, m9, m10, m11]] w fun e w' => e = .returned (.int .i64 1) ∧ Below w.heap.size w w' := by
  have B := Lib.hid (below_alloc3 w)
  by_cases h0 : kind < 0
  · clear hc hg
    go_enter Tryd.func8, Tryd.ntmps8
    go_wp2
    go_ret
    exact ⟨rfl, B.out _ _ _⟩
  · by_cases h1 : 12 ≤ kind
    · clear hc hg
      go_enter Tryd.func8, Tryd.ntmps8
      go_wp2
      go_ret
      exact ⟨rfl, B.out _ _ _⟩
    · obtain ⟨k, rfl⟩ := Int.eq_ofNat_of_zero_le (show 0 ≤ kind by omega)
      have hcell := hc k (by omega)
      rw [show (k == 10 || k == 11) = false from by simp; omega] at hcell
      have hlt := World.block_lt_of_cell? _ _ hcell
      have hlt2 : k < 12 := by omega
      clear hc hg
      go_enter Tryd.func8, Tryd.ntmps8
      go_wp2
      go_ret
      exact ⟨rfl, B.out _ _ _⟩
set_option maxRecDepth 100000 in
set_option maxHeartbeats 1600000 in
theorem judge_holder (g : Nat → Value) (holder epoch source role mode kind mepoch mmode mclass : Int) (t2 t3 t4 t5 t6 t7 m1 m2 m3 m7 m8 m9 m10 m11 : Value) (w : World) (hg : ∀ i, 9 ≤ i → i < 56 → I64 (g i)) (hc : Cmds w) (hk : kind = 10 ∨ kind = 11) (hs : ¬ source = holder) :
    Calls Tryd.prog 8 #[.agg (mkc 56 g), .agg #[.int .i64 holder, .int .i64 epoch, t2, t3, t4, t5, t6, t7], .int .i64 source, .int .i64 role, .int .i64 mode, .agg #[.int .i64 kind, m1, m2, m3, .int .i64 mepoch, .int .i64 mmode, .int .i64 mclass, m7, m8, m9, m10, m11]] w fun e w' => e = .returned (.int .i64 20) ∧ Below w.heap.size w w' := by
  have B := Lib.hid (below_alloc3 w)
  have HG := Lib.hid hg
  have hcell := hc 10 (by omega)
  have hcell2 := hc 11 (by omega)
  rw [show ((10 : Nat) == 10 || (10 : Nat) == 11) = true from rfl] at hcell
  rw [show ((11 : Nat) == 10 || (11 : Nat) == 11) = true from rfl] at hcell2
  have hlt := World.block_lt_of_cell? _ _ hcell
  clear hc hg
  have hs' : (source != holder) = true := by simpa using hs
  clear hs
  rcases hk with rfl | rfl
  all_goals
    go_enter Tryd.func8, Tryd.ntmps8
    go_wp2
    go_ret
    exact ⟨rfl, B.out _ _ _⟩
set_option maxRecDepth 100000 in
set_option maxHeartbeats 1600000 in
theorem judge_epoch (g : Nat → Value) (holder epoch source role mode kind mepoch mmode mclass : Int) (t2 t3 t4 t5 t6 t7 m1 m2 m3 m7 m8 m9 m10 m11 : Value) (w : World) (hg : ∀ i, 9 ≤ i → i < 56 → I64 (g i)) (hc : Cmds w) (hk : kind = 10 ∨ kind = 11) (hs : source = holder) (he : ¬ mepoch = epoch) :
    Calls Tryd.prog 8 #[.agg (mkc 56 g), .agg #[.int .i64 holder, .int .i64 epoch, t2, t3, t4, t5, t6, t7], .int .i64 source, .int .i64 role, .int .i64 mode, .agg #[.int .i64 kind, m1, m2, m3, .int .i64 mepoch, .int .i64 mmode, .int .i64 mclass, m7, m8, m9, m10, m11]] w fun e w' => e = .returned (.int .i64 21) ∧ Below w.heap.size w w' := by
  have B := Lib.hid (below_alloc3 w)
  have HG := Lib.hid hg
  have hcell := hc 10 (by omega)
  have hcell2 := hc 11 (by omega)
  rw [show ((10 : Nat) == 10 || (10 : Nat) == 11) = true from rfl] at hcell
  rw [show ((11 : Nat) == 10 || (11 : Nat) == 11) = true from rfl] at hcell2
  have hlt := World.block_lt_of_cell? _ _ hcell
  clear hc hg
  have hs' : (mepoch != epoch) = true := by simpa using he
  clear he
  subst hs
  rcases hk with rfl | rfl
  all_goals
    go_enter Tryd.func8, Tryd.ntmps8
    go_wp2
    go_ret
    exact ⟨rfl, B.out _ _ _⟩
theorem judge_boxes {w w' : World} {a b c : Obj} (h : Below (((w.alloc a).alloc b).alloc c).heap.size (((w.alloc a).alloc b).alloc c) w') :
    w'.heap[w.heap.size]? = some a ∧ w'.heap[w.heap.size + 1]? = some b ∧ w'.heap[w.heap.size + 2]? = some c ∧ Below w.heap.size w w' := by
  refine ⟨blk_below ?_ h, blk_below ?_ h, blk_below ?_ h, bt (below_alloc3 w a b c) h⟩
  · exact blk_below (heap_alloc2_old w a b) (below_alloc1 _ _)
  · exact blk_below (heap_alloc2_new w a b) (below_alloc1 _ _)
  · have := heap_alloc_new ((w.alloc a).alloc b) c
    simpa using this
set_option maxRecDepth 100000 in
set_option maxHeartbeats 1600000 in
theorem judge_class10 (g : Nat → Value) (holder epoch source role mode kind mepoch mmode mclass : Int) (t2 t3 t4 t5 t6 t7 m1 m2 m3 m7 m8 m9 m10 m11 : Value) (w : World) (hg : ∀ i, 9 ≤ i → i < 56 → I64 (g i)) (hc : Cmds w) (hk : kind = 10) (hs : source = holder) (he : mepoch = epoch) (hm : may g mode role 0 = false) :
    Calls Tryd.prog 8 #[.agg (mkc 56 g), .agg #[.int .i64 holder, .int .i64 epoch, t2, t3, t4, t5, t6, t7], .int .i64 source, .int .i64 role, .int .i64 mode, .agg #[.int .i64 kind, m1, m2, m3, .int .i64 mepoch, .int .i64 mmode, .int .i64 mclass, m7, m8, m9, m10, m11]] w fun e w' => e = .returned (.int .i64 22) ∧ Below w.heap.size w w' := by
  have B := Lib.hid (below_alloc3 w)
  have HG := Lib.hid hg
  have hcell := hc 10 (by omega)
  have hcell2 := hc 11 (by omega)
  rw [show ((10 : Nat) == 10 || (10 : Nat) == 11) = true from rfl] at hcell
  rw [show ((11 : Nat) == 10 || (11 : Nat) == 11) = true from rfl] at hcell2
  have hlt := World.block_lt_of_cell? _ _ hcell
  clear hc hg
  have HM := Lib.hid hm
  clear hm
  subst hs he hk
  have Q0 := Lib.hid (show (((w.alloc (.cells (mkc 56 g) 28)).alloc (.cells #[.int .i64 source, .int .i64 mepoch, t2, t3, t4, t5, t6, t7] 32)).alloc (.cells #[.int .i64 10, m1, m2, m3, .int .i64 mepoch, .int .i64 mmode, .int .i64 mclass, m7, m8, m9, m10, m11] 36)).heap[w.heap.size]? = some (.cells (mkc 56 g) 28 (0, 0)) from blk_below (heap_alloc2_old w _ _) (below_alloc1 _ _))
  go_enter Tryd.func8, Tryd.ntmps8
  go_wp2_with (first
    | ((with_reducible show wpList _ _ _ (⟨_, .load 28 _, _, _, _, _⟩ :: _) _ _); refine wpList_load_pol rfl _ rfl w.heap.size g Q0 rfl ?_)
    | fail)
  refine (may_any _ _ _ _ _ HG.out).mono ?_
  rintro e w1 ⟨rfl, b1⟩
  rw [HM.out]
  clear Q0
  go_wp2
  go_ret
  exact ⟨rfl, bt (B.out _ _ _) b1⟩
set_option maxRecDepth 100000 in
set_option maxHeartbeats 1600000 in
theorem judge_class11 (g : Nat → Value) (holder epoch source role mode kind mepoch mmode mclass : Int) (t2 t3 t4 t5 t6 t7 m1 m2 m3 m7 m8 m9 m10 m11 : Value) (w : World) (hg : ∀ i, 9 ≤ i → i < 56 → I64 (g i)) (hc : Cmds w) (hk : kind = 11) (hs : source = holder) (he : mepoch = epoch) (hm : may g mode role mclass = false) :
    Calls Tryd.prog 8 #[.agg (mkc 56 g), .agg #[.int .i64 holder, .int .i64 epoch, t2, t3, t4, t5, t6, t7], .int .i64 source, .int .i64 role, .int .i64 mode, .agg #[.int .i64 kind, m1, m2, m3, .int .i64 mepoch, .int .i64 mmode, .int .i64 mclass, m7, m8, m9, m10, m11]] w fun e w' => e = .returned (.int .i64 22) ∧ Below w.heap.size w w' := by
  have B := Lib.hid (below_alloc3 w)
  have HG := Lib.hid hg
  have hcell := hc 10 (by omega)
  have hcell2 := hc 11 (by omega)
  rw [show ((10 : Nat) == 10 || (10 : Nat) == 11) = true from rfl] at hcell
  rw [show ((11 : Nat) == 10 || (11 : Nat) == 11) = true from rfl] at hcell2
  have hlt := World.block_lt_of_cell? _ _ hcell
  clear hc hg
  have HM := Lib.hid hm
  clear hm
  subst hs he hk
  have Q0 := Lib.hid (show (((w.alloc (.cells (mkc 56 g) 28)).alloc (.cells #[.int .i64 source, .int .i64 mepoch, t2, t3, t4, t5, t6, t7] 32)).alloc (.cells #[.int .i64 11, m1, m2, m3, .int .i64 mepoch, .int .i64 mmode, .int .i64 mclass, m7, m8, m9, m10, m11] 36)).heap[w.heap.size]? = some (.cells (mkc 56 g) 28 (0, 0)) from blk_below (heap_alloc2_old w _ _) (below_alloc1 _ _))
  go_enter Tryd.func8, Tryd.ntmps8
  go_wp2_with (first
    | ((with_reducible show wpList _ _ _ (⟨_, .load 28 _, _, _, _, _⟩ :: _) _ _); refine wpList_load_pol rfl _ rfl w.heap.size g Q0 rfl ?_)
    | fail)
  refine (may_any _ _ _ _ _ HG.out).mono ?_
  rintro e w1 ⟨rfl, b1⟩
  rw [HM.out]
  clear Q0
  go_wp2
  go_ret
  exact ⟨rfl, bt (B.out _ _ _) b1⟩
set_option maxRecDepth 100000 in
set_option maxHeartbeats 1600000 in
theorem judge_ok11 (g : Nat → Value) (holder epoch source role mode kind mepoch mmode mclass : Int) (t2 t3 t4 t5 t6 t7 m1 m2 m3 m7 m8 m9 m10 m11 : Value) (w : World) (hg : ∀ i, 9 ≤ i → i < 56 → I64 (g i)) (hc : Cmds w) (hk : kind = 11) (hs : source = holder) (he : mepoch = epoch) (hm : may g mode role mclass = true) :
    Calls Tryd.prog 8 #[.agg (mkc 56 g), .agg #[.int .i64 holder, .int .i64 epoch, t2, t3, t4, t5, t6, t7], .int .i64 source, .int .i64 role, .int .i64 mode, .agg #[.int .i64 kind, m1, m2, m3, .int .i64 mepoch, .int .i64 mmode, .int .i64 mclass, m7, m8, m9, m10, m11]] w fun e w' => e = .returned (.int .i64 0) ∧ Below w.heap.size w w' := by
  have B := Lib.hid (below_alloc3 w)
  have HG := Lib.hid hg
  have hcell := hc 10 (by omega)
  have hcell2 := hc 11 (by omega)
  rw [show ((10 : Nat) == 10 || (10 : Nat) == 11) = true from rfl] at hcell
  rw [show ((11 : Nat) == 10 || (11 : Nat) == 11) = true from rfl] at hcell2
  have hlt := World.block_lt_of_cell? _ _ hcell
  clear hc hg
  have HM := Lib.hid hm
  clear hm
  subst hs he hk
  have Q0 := Lib.hid (show (((w.alloc (.cells (mkc 56 g) 28)).alloc (.cells #[.int .i64 source, .int .i64 mepoch, t2, t3, t4, t5, t6, t7] 32)).alloc (.cells #[.int .i64 11, m1, m2, m3, .int .i64 mepoch, .int .i64 mmode, .int .i64 mclass, m7, m8, m9, m10, m11] 36)).heap[w.heap.size]? = some (.cells (mkc 56 g) 28 (0, 0)) from blk_below (heap_alloc2_old w _ _) (below_alloc1 _ _))
  go_enter Tryd.func8, Tryd.ntmps8
  go_wp2_with (first
    | ((with_reducible show wpList _ _ _ (⟨_, .load 28 _, _, _, _, _⟩ :: _) _ _); refine wpList_load_pol rfl _ rfl w.heap.size g Q0 rfl ?_)
    | fail)
  refine (may_any _ _ _ _ _ HG.out).mono ?_
  rintro e w1 ⟨rfl, b1⟩
  rw [HM.out]
  clear Q0
  obtain ⟨q0, q1, q2, b2⟩ := judge_boxes b1
  obtain ⟨c2, -⟩ := blk_cells q2
  have BB := Lib.hid b2
  clear q0 q1 q2 b1 b2
  go_wp2
  go_ret
  exact ⟨rfl, BB.out⟩
set_option maxRecDepth 100000 in
set_option maxHeartbeats 1600000 in
theorem judge_mode10 (g : Nat → Value) (holder epoch source role mode kind mepoch mmode mclass : Int) (t2 t3 t4 t5 t6 t7 m1 m2 m3 m7 m8 m9 m10 m11 : Value) (w : World) (hg : ∀ i, 9 ≤ i → i < 56 → I64 (g i)) (hc : Cmds w) (hk : kind = 10) (hs : source = holder) (he : mepoch = epoch) (hm : may g mode role 0 = true) (hn : goes g mode mmode = false) :
    Calls Tryd.prog 8 #[.agg (mkc 56 g), .agg #[.int .i64 holder, .int .i64 epoch, t2, t3, t4, t5, t6, t7], .int .i64 source, .int .i64 role, .int .i64 mode, .agg #[.int .i64 kind, m1, m2, m3, .int .i64 mepoch, .int .i64 mmode, .int .i64 mclass, m7, m8, m9, m10, m11]] w fun e w' => e = .returned (.int .i64 23) ∧ Below w.heap.size w w' := by
  have B := Lib.hid (below_alloc3 w)
  have HG := Lib.hid hg
  have hcell := hc 10 (by omega)
  have hcell2 := hc 11 (by omega)
  rw [show ((10 : Nat) == 10 || (10 : Nat) == 11) = true from rfl] at hcell
  rw [show ((11 : Nat) == 10 || (11 : Nat) == 11) = true from rfl] at hcell2
  have hlt := World.block_lt_of_cell? _ _ hcell
  clear hc hg
  have HM := Lib.hid hm
  have HN := Lib.hid hn
  clear hm hn
  subst hs he hk
  have Q0 := Lib.hid (show (((w.alloc (.cells (mkc 56 g) 28)).alloc (.cells #[.int .i64 source, .int .i64 mepoch, t2, t3, t4, t5, t6, t7] 32)).alloc (.cells #[.int .i64 10, m1, m2, m3, .int .i64 mepoch, .int .i64 mmode, .int .i64 mclass, m7, m8, m9, m10, m11] 36)).heap[w.heap.size]? = some (.cells (mkc 56 g) 28 (0, 0)) from blk_below (heap_alloc2_old w _ _) (below_alloc1 _ _))
  go_enter Tryd.func8, Tryd.ntmps8
  go_wp2_with (first
    | ((with_reducible show wpList _ _ _ (⟨_, .load 28 _, _, _, _, _⟩ :: _) _ _); refine wpList_load_pol rfl _ rfl w.heap.size g Q0 rfl ?_)
    | fail)
  refine (may_any _ _ _ _ _ HG.out).mono ?_
  rintro e w1 ⟨rfl, b1⟩
  rw [HM.out]
  clear Q0
  obtain ⟨q0, q1, q2, b2⟩ := judge_boxes b1
  obtain ⟨c2, -⟩ := blk_cells q2
  have BB := Lib.hid b2
  have Q0 := Lib.hid q0
  clear q0 q1 q2 b1 b2
  go_wp2_with (first
    | ((with_reducible show wpList _ _ _ (⟨_, .load 28 _, _, _, _, _⟩ :: _) _ _); refine wpList_load_pol rfl _ rfl w.heap.size g Q0 rfl ?_)
    | (go_at_call 10; refine (goes_any _ _ _ _ HG.out).mono ?_; rintro e w2 ⟨rfl, b2⟩; have BB := Lib.hid (bt BB.out b2); clear b2; rw [HN.out]))
  go_ret
  exact ⟨rfl, BB.out⟩
set_option maxRecDepth 100000 in
set_option maxHeartbeats 1600000 in
theorem judge_ok10 (g : Nat → Value) (holder epoch source role mode kind mepoch mmode mclass : Int) (t2 t3 t4 t5 t6 t7 m1 m2 m3 m7 m8 m9 m10 m11 : Value) (w : World) (hg : ∀ i, 9 ≤ i → i < 56 → I64 (g i)) (hc : Cmds w) (hk : kind = 10) (hs : source = holder) (he : mepoch = epoch) (hm : may g mode role 0 = true) (hn : goes g mode mmode = true) :
    Calls Tryd.prog 8 #[.agg (mkc 56 g), .agg #[.int .i64 holder, .int .i64 epoch, t2, t3, t4, t5, t6, t7], .int .i64 source, .int .i64 role, .int .i64 mode, .agg #[.int .i64 kind, m1, m2, m3, .int .i64 mepoch, .int .i64 mmode, .int .i64 mclass, m7, m8, m9, m10, m11]] w fun e w' => e = .returned (.int .i64 0) ∧ Below w.heap.size w w' := by
  have B := Lib.hid (below_alloc3 w)
  have HG := Lib.hid hg
  have hcell := hc 10 (by omega)
  have hcell2 := hc 11 (by omega)
  rw [show ((10 : Nat) == 10 || (10 : Nat) == 11) = true from rfl] at hcell
  rw [show ((11 : Nat) == 10 || (11 : Nat) == 11) = true from rfl] at hcell2
  have hlt := World.block_lt_of_cell? _ _ hcell
  clear hc hg
  have HM := Lib.hid hm
  have HN := Lib.hid hn
  clear hm hn
  subst hs he hk
  have Q0 := Lib.hid (show (((w.alloc (.cells (mkc 56 g) 28)).alloc (.cells #[.int .i64 source, .int .i64 mepoch, t2, t3, t4, t5, t6, t7] 32)).alloc (.cells #[.int .i64 10, m1, m2, m3, .int .i64 mepoch, .int .i64 mmode, .int .i64 mclass, m7, m8, m9, m10, m11] 36)).heap[w.heap.size]? = some (.cells (mkc 56 g) 28 (0, 0)) from blk_below (heap_alloc2_old w _ _) (below_alloc1 _ _))
  go_enter Tryd.func8, Tryd.ntmps8
  go_wp2_with (first
    | ((with_reducible show wpList _ _ _ (⟨_, .load 28 _, _, _, _, _⟩ :: _) _ _); refine wpList_load_pol rfl _ rfl w.heap.size g Q0 rfl ?_)
    | fail)
  refine (may_any _ _ _ _ _ HG.out).mono ?_
  rintro e w1 ⟨rfl, b1⟩
  rw [HM.out]
  clear Q0
  obtain ⟨q0, q1, q2, b2⟩ := judge_boxes b1
  obtain ⟨c2, -⟩ := blk_cells q2
  have BB := Lib.hid b2
  have Q0 := Lib.hid q0
  clear q0 q1 q2 b1 b2
  go_wp2_with (first
    | ((with_reducible show wpList _ _ _ (⟨_, .load 28 _, _, _, _, _⟩ :: _) _ _); refine wpList_load_pol rfl _ rfl w.heap.size g Q0 rfl ?_)
    | (go_at_call 10; refine (goes_any _ _ _ _ HG.out).mono ?_; rintro e w2 ⟨rfl, b2⟩; have BB := Lib.hid (bt BB.out b2); clear b2; rw [HN.out]))
  go_ret
  exact ⟨rfl, BB.out⟩
theorem judge_any (g : Nat → Value) (holder epoch source role mode kind mepoch mmode mclass : Int) (t2 t3 t4 t5 t6 t7 m1 m2 m3 m7 m8 m9 m10 m11 : Value) (w : World) (hg : ∀ i, 9 ≤ i → i < 56 → I64 (g i)) (hc : Cmds w) :
    Calls Tryd.prog 8 #[.agg (mkc 56 g), .agg #[.int .i64 holder, .int .i64 epoch, t2, t3, t4, t5, t6, t7], .int .i64 source, .int .i64 role, .int .i64 mode, .agg #[.int .i64 kind, m1, m2, m3, .int .i64 mepoch, .int .i64 mmode, .int .i64 mclass, m7, m8, m9, m10, m11]] w fun e w' => e = .returned (.int .i64 (judge g holder epoch source role mode kind mepoch mmode mclass)) ∧ Below w.heap.size w w' := by
  unfold judge
  by_cases hk : kind = 10 ∨ kind = 11
  · rw [if_neg (fun h => h hk)]
    by_cases hs : source = holder
    · rw [if_neg (fun h => h hs)]
      by_cases he : mepoch = epoch
      · rw [if_neg (fun h => h he)]
        rcases hk with hk | hk
        · rw [if_pos hk]
          cases hm : may g mode role 0
          · rw [if_pos rfl]; exact judge_class10 g holder epoch source role mode kind mepoch mmode mclass t2 t3 t4 t5 t6 t7 m1 m2 m3 m7 m8 m9 m10 m11 w hg hc hk hs he hm
          · rw [if_neg (by simp)]
            cases hn : goes g mode mmode
            · rw [if_pos ⟨hk, rfl⟩]; exact judge_mode10 g holder epoch source role mode kind mepoch mmode mclass t2 t3 t4 t5 t6 t7 m1 m2 m3 m7 m8 m9 m10 m11 w hg hc hk hs he hm hn
            · rw [if_neg (by simp)]; exact judge_ok10 g holder epoch source role mode kind mepoch mmode mclass t2 t3 t4 t5 t6 t7 m1 m2 m3 m7 m8 m9 m10 m11 w hg hc hk hs he hm hn
        · rw [if_neg (show ¬ kind = 10 by omega)]
          cases hm : may g mode role mclass
          · rw [if_pos rfl]; exact judge_class11 g holder epoch source role mode kind mepoch mmode mclass t2 t3 t4 t5 t6 t7 m1 m2 m3 m7 m8 m9 m10 m11 w hg hc hk hs he hm
          · rw [if_neg (by simp), if_neg (by omega)]; exact judge_ok11 g holder epoch source role mode kind mepoch mmode mclass t2 t3 t4 t5 t6 t7 m1 m2 m3 m7 m8 m9 m10 m11 w hg hc hk hs he hm
      · rw [if_pos he]; exact judge_epoch g holder epoch source role mode kind mepoch mmode mclass t2 t3 t4 t5 t6 t7 m1 m2 m3 m7 m8 m9 m10 m11 w hg hc hk hs he
    · rw [if_pos hs]; exact judge_holder g holder epoch source role mode kind mepoch mmode mclass t2 t3 t4 t5 t6 t7 m1 m2 m3 m7 m8 m9 m10 m11 w hg hc hk hs
  · rw [if_pos hk]; exact judge_kind g holder epoch source role mode kind mepoch mmode mclass t2 t3 t4 t5 t6 t7 m1 m2 m3 m7 m8 m9 m10 m11 w hg hc hk
theorem flat_from (v : Value) (w : World) (base : Nat) (h : Value.okWide Tryd.prog w .any base 34 v) : ∃ (n0 : Int) (n1 : Int) (n2 : Int) (n3 : Int) (n4 : Int) (n5 : Int) (n6 : Int) (n7 : Bool) (n8 : Int) (n9 : Int) (n10 : Int), v = .agg #[.int .i64 n0, .int .i64 n1, .int .i64 n2, .int .i64 n3, .int .i64 n4, .int .i64 n5, .int .i64 n6, .bool n7, .int .i64 n8, .int .i64 n9, .int .i64 n10] ∧ (-9223372036854775808 ≤ n0 ∧ n0 ≤ 9223372036854775807) ∧ (-9223372036854775808 ≤ n1 ∧ n1 ≤ 9223372036854775807) ∧ (-9223372036854775808 ≤ n2 ∧ n2 ≤ 9223372036854775807) ∧ (-9223372036854775808 ≤ n3 ∧ n3 ≤ 9223372036854775807) ∧ (-9223372036854775808 ≤ n4 ∧ n4 ≤ 9223372036854775807) ∧ (-9223372036854775808 ≤ n5 ∧ n5 ≤ 9223372036854775807) ∧ (-9223372036854775808 ≤ n6 ∧ n6 ≤ 9223372036854775807) ∧ (-9223372036854775808 ≤ n8 ∧ n8 ≤ 9223372036854775807) ∧ (-9223372036854775808 ≤ n9 ∧ n9 ≤ 9223372036854775807) ∧ (-9223372036854775808 ≤ n10 ∧ n10 ≤ 9223372036854775807) := by
  obtain ⟨cs, rfl, hs, hc⟩ := flat (ts := [3, 3, 3, 3, 3, 3, 3, 4, 3, 3, 3]) (.inl ⟨_, Tryd.underlying34⟩) (by kernel_rfl) (by kernel_rfl) h
  obtain ⟨l⟩ := cs
  match l, hs with
  | [x0, x1, x2, x3, x4, x5, x6, x7, x8, x9, x10], _ =>
    obtain ⟨n0, rfl, a0, b0⟩ := opn_i64 Tryd.underlying3 (hc 0 _ x0 rfl rfl)
    obtain ⟨n1, rfl, a1, b1⟩ := opn_i64 Tryd.underlying3 (hc 1 _ x1 rfl rfl)
    obtain ⟨n2, rfl, a2, b2⟩ := opn_i64 Tryd.underlying3 (hc 2 _ x2 rfl rfl)
    obtain ⟨n3, rfl, a3, b3⟩ := opn_i64 Tryd.underlying3 (hc 3 _ x3 rfl rfl)
    obtain ⟨n4, rfl, a4, b4⟩ := opn_i64 Tryd.underlying3 (hc 4 _ x4 rfl rfl)
    obtain ⟨n5, rfl, a5, b5⟩ := opn_i64 Tryd.underlying3 (hc 5 _ x5 rfl rfl)
    obtain ⟨n6, rfl, a6, b6⟩ := opn_i64 Tryd.underlying3 (hc 6 _ x6 rfl rfl)
    obtain ⟨n7, rfl⟩ := cell_bool Tryd.underlying4 (hc 7 _ x7 rfl rfl)
    obtain ⟨n8, rfl, a8, b8⟩ := opn_i64 Tryd.underlying3 (hc 8 _ x8 rfl rfl)
    obtain ⟨n9, rfl, a9, b9⟩ := opn_i64 Tryd.underlying3 (hc 9 _ x9 rfl rfl)
    obtain ⟨n10, rfl, a10, b10⟩ := opn_i64 Tryd.underlying3 (hc 10 _ x10 rfl rfl)
    exact ⟨n0, n1, n2, n3, n4, n5, n6, n7, n8, n9, n10, rfl, ⟨a0, b0⟩, ⟨a1, b1⟩, ⟨a2, b2⟩, ⟨a3, b3⟩, ⟨a4, b4⟩, ⟨a5, b5⟩, ⟨a6, b6⟩, ⟨a8, b8⟩, ⟨a9, b9⟩, ⟨a10, b10⟩⟩
theorem flat_msg (v : Value) (w : World) (base : Nat) (h : Value.okWide Tryd.prog w .any base 36 v) : ∃ (n0 : Int) (n1 : Int) (n2 : Int) (n3 : Int) (n4 : Int) (n5 : Int) (n6 : Int) (n7 : Bool) (n8 : Int) (n9 : Int) (n10 : Int) (n11 : Int), v = .agg #[.int .i64 n0, .int .i64 n1, .int .i64 n2, .int .i64 n3, .int .i64 n4, .int .i64 n5, .int .i64 n6, .bool n7, .int .i64 n8, .int .i64 n9, .int .i64 n10, .int .i64 n11] ∧ (-9223372036854775808 ≤ n0 ∧ n0 ≤ 9223372036854775807) ∧ (-9223372036854775808 ≤ n1 ∧ n1 ≤ 9223372036854775807) ∧ (-9223372036854775808 ≤ n2 ∧ n2 ≤ 9223372036854775807) ∧ (-9223372036854775808 ≤ n3 ∧ n3 ≤ 9223372036854775807) ∧ (-9223372036854775808 ≤ n4 ∧ n4 ≤ 9223372036854775807) ∧ (-9223372036854775808 ≤ n5 ∧ n5 ≤ 9223372036854775807) ∧ (-9223372036854775808 ≤ n6 ∧ n6 ≤ 9223372036854775807) ∧ (-9223372036854775808 ≤ n8 ∧ n8 ≤ 9223372036854775807) ∧ (-9223372036854775808 ≤ n9 ∧ n9 ≤ 9223372036854775807) ∧ (-9223372036854775808 ≤ n10 ∧ n10 ≤ 9223372036854775807) ∧ (-9223372036854775808 ≤ n11 ∧ n11 ≤ 9223372036854775807) := by
  obtain ⟨cs, rfl, hs, hc⟩ := flat (ts := [3, 3, 3, 3, 3, 3, 3, 4, 3, 3, 3, 3]) (.inl ⟨_, Tryd.underlying36⟩) (by kernel_rfl) (by kernel_rfl) h
  obtain ⟨l⟩ := cs
  match l, hs with
  | [x0, x1, x2, x3, x4, x5, x6, x7, x8, x9, x10, x11], _ =>
    obtain ⟨n0, rfl, a0, b0⟩ := opn_i64 Tryd.underlying3 (hc 0 _ x0 rfl rfl)
    obtain ⟨n1, rfl, a1, b1⟩ := opn_i64 Tryd.underlying3 (hc 1 _ x1 rfl rfl)
    obtain ⟨n2, rfl, a2, b2⟩ := opn_i64 Tryd.underlying3 (hc 2 _ x2 rfl rfl)
    obtain ⟨n3, rfl, a3, b3⟩ := opn_i64 Tryd.underlying3 (hc 3 _ x3 rfl rfl)
    obtain ⟨n4, rfl, a4, b4⟩ := opn_i64 Tryd.underlying3 (hc 4 _ x4 rfl rfl)
    obtain ⟨n5, rfl, a5, b5⟩ := opn_i64 Tryd.underlying3 (hc 5 _ x5 rfl rfl)
    obtain ⟨n6, rfl, a6, b6⟩ := opn_i64 Tryd.underlying3 (hc 6 _ x6 rfl rfl)
    obtain ⟨n7, rfl⟩ := cell_bool Tryd.underlying4 (hc 7 _ x7 rfl rfl)
    obtain ⟨n8, rfl, a8, b8⟩ := opn_i64 Tryd.underlying3 (hc 8 _ x8 rfl rfl)
    obtain ⟨n9, rfl, a9, b9⟩ := opn_i64 Tryd.underlying3 (hc 9 _ x9 rfl rfl)
    obtain ⟨n10, rfl, a10, b10⟩ := opn_i64 Tryd.underlying3 (hc 10 _ x10 rfl rfl)
    obtain ⟨n11, rfl, a11, b11⟩ := opn_i64 Tryd.underlying3 (hc 11 _ x11 rfl rfl)
    exact ⟨n0, n1, n2, n3, n4, n5, n6, n7, n8, n9, n10, n11, rfl, ⟨a0, b0⟩, ⟨a1, b1⟩, ⟨a2, b2⟩, ⟨a3, b3⟩, ⟨a4, b4⟩, ⟨a5, b5⟩, ⟨a6, b6⟩, ⟨a8, b8⟩, ⟨a9, b9⟩, ⟨a10, b10⟩, ⟨a11, b11⟩⟩
end Go.Proofs.YtcgaodencjcgnaaDoor
