/- Whole policies in a walk: alloc, load, store of 56 cells, guarded or not. -/
import Derived.Test.YtcgaodencjcgnaaPol
import Derived.Laws.Rows
import Derived.Laws.Tables
import Derived.Laws.CopyOwn
import Derived.Deep.WholeRow
import Derived.KernelRfl
import Derived.Lib.Hide
namespace Go.Proofs.Ytcgaodencjcgnaa
open Go.RowKit

theorem wpList_run {P : Program} {ops : Array Oper} {rest : List Oper} {o : Oper} {a : Act} {w : World} {Q : Exit → Act → World → Prop} (hw : Region.wanted o (yielded ops a.tmps) = true)
    {v : Value} {w' : World} (hr : (execOp a.eval o).run P w = .ok (.value v) w') (h : wpList P ops Q rest (a.put o.dst v) w') : wpList P ops Q (o :: rest) a w := by
  refine wpList_step fun K hK => ?_
  rw [if_pos hw]
  unfold Oper.wp
  rw [hr]
  exact hK _ _ h
theorem wpList_run_skip {P : Program} {ops : Array Oper} {rest : List Oper} {o : Oper} {a : Act} {w : World} {Q : Exit → Act → World → Prop} (hw : Region.wanted o (yielded ops a.tmps) = true)
    {w' : World} (hr : (execOp a.eval o).run P w = .ok .skip w') (h : wpList P ops Q rest (a.put o.dst undef) w') : wpList P ops Q (o :: rest) a w := by
  refine wpList_step fun K hK => ?_
  rw [if_pos hw]
  unfold Oper.wp
  rw [hr]
  exact hK _ _ h

def pz : Nat → Value := fun i => if i < 5 then .int .i64 0 else if i ≤ 8 then .slice none 0 0 else .int .i64 0
theorem run_alloc_pol (ev : Operand → Value) (o : Oper) (ho : o.op = .alloc 32) (w : World) :
    (execOp ev o).run Try.prog w = .ok (.value (.pointer (some ⟨w.heap.size, 0, none⟩))) (w.alloc (.cells (mkc 56 pz) 32)) := by
  unfold execOp
  simp only [ho]
  simp [go_sem]
  exact congrArg (fun c => w.alloc (.cells c 32)) (by kernel_rfl)
theorem info_pol' : (Try.prog.info? 32).map (·.size) = some 56 := by kernel_rfl
theorem one_mkc' {n : Nat} {f : Nat → Value} (h : ∀ i, i < n → (f i).oneCell' = true) : (mkc n f).all (·.oneCell') = true := by
  rw [Array.all_eq_true]
  intro i hi
  rw [mkc_get]
  exact h i (by simpa using hi)
section
variable {ops : Array Oper} {rest : List Oper} {o : Oper} {a : Act} {w : World} {Q : Exit → Act → World → Prop}
theorem wpList_alloc_pol (hw : Region.wanted o (yielded ops a.tmps) = true) (ho : o.op = .alloc 32)
    (h : wpList Try.prog ops Q rest (a.put o.dst (.pointer (some ⟨w.heap.size, 0, none⟩))) (w.alloc (.cells (mkc 56 pz) 32))) : wpList Try.prog ops Q (o :: rest) a w :=
  wpList_run hw (run_alloc_pol _ _ ho _) h
theorem wpList_load_pol (hw : Region.wanted o (yielded ops a.tmps) = true) (x : Operand) (ho : o.op = .load 32 x) (g : Nat) (q : Nat → Value) (hg : Hid (w.heap[g]? = some (.cells (mkc 56 q) 32 (0, 0))))
    (hx : a.eval x = .pointer (some ⟨g, 0, none⟩)) (h : wpList Try.prog ops Q rest (a.put o.dst (.agg (mkc 56 q))) w) : wpList Try.prog ops Q (o :: rest) a w := by
  refine wpList_run hw ?_ h
  unfold execOp
  simp only [ho, hx, Instr.loadAt, Instr.sureAddr, Sem.run_bind, Sem.run_pure, Result.andThen_ok, run_loadVar_row w g 32 32 (mkc 56 q) (0, 0) _ hg.out Try.underlying32 rfl (by rw [info_pol', mkc_size])]
def LoadsAt (o : Oper) (a : Act) (T : TypeId) (g : Nat) : Prop := match o.op with | .load t x => t = T ∧ a.eval x = .pointer (some ⟨g, 0, none⟩) | _ => False
theorem wpList_load_at {g : Nat} {q : Nat → Value} (hw : Region.wanted o (yielded ops a.tmps) = true) (hl : LoadsAt o a 32 g) (hg : Hid (w.heap[g]? = some (.cells (mkc 56 q) 32 (0, 0))))
    (h : wpList Try.prog ops Q rest (a.put o.dst (.agg (mkc 56 q))) w) : wpList Try.prog ops Q (o :: rest) a w := by
  unfold LoadsAt at hl
  split at hl
  · rename_i t x ho
    obtain ⟨rfl, hx⟩ := hl
    exact wpList_load_pol hw x ho g q hg hx h
  · exact hl.elim
theorem wanted_none {o : Oper} {ops : Array Oper} {tmps : Array Value} (h : o.guard = none) : Region.wanted o (yielded ops tmps) = true := by unfold Region.wanted; rw [h]
theorem wanted_yes {o : Oper} {ops : Array Oper} {tmps : Array Value} {j d : Nat} {want : Bool} (h : o.guard = some (j, want)) (hd : (ops[j]?).bind (·.dst) = some d) (hv : tmps[d]? = some (.bool want)) : Region.wanted o (yielded ops tmps) = true := by
  unfold Region.wanted yielded
  simp [h, hd, hv]
theorem wanted_no {o : Oper} {ops : Array Oper} {tmps : Array Value} {j d : Nat} {want : Bool} (h : o.guard = some (j, want)) (hd : (ops[j]?).bind (·.dst) = some d) (hv : tmps[d]? = some (.bool !want)) : Region.wanted o (yielded ops tmps) = false := by
  unfold Region.wanted yielded
  simp [h, hd, hv]
/-- a store of a whole policy into a block that was just made -/
theorem wpList_store_pol (hw : Region.wanted o (yielded ops a.tmps) = true) (x y : Operand) (ho : o.op = .store 32 x y) (w0 : World) (q0 q : Nat → Value) (he : w = w0.alloc (.cells (mkc 56 q0) 32))
    (hx : a.eval x = .pointer (some ⟨w0.heap.size, 0, none⟩)) (hy : a.eval y = .agg (mkc 56 q)) (h1 : ∀ i, i < 56 → (q i).oneCell' = true)
    (h : wpList Try.prog ops Q rest (a.put o.dst undef) (w0.alloc (.cells (mkc 56 q) 32))) : wpList Try.prog ops Q (o :: rest) a w := by
  subst he
  refine wpList_run_skip hw ?_ h
  unfold execOp
  simp only [ho, hx, hy, Instr.storeAt, Instr.sureAddr, Sem.run_bind, Sem.run_pure, Result.andThen_ok, run_storeVar_row _ w0.heap.size 32 32 (mkc 56 q0) (mkc 56 q) (heap_alloc_new _ _) (by rw [info_pol', mkc_size]) (by rw [mkc_size, mkc_size]) (one_mkc' h1)]
  rw [World.setRow_alloc_new]
end
end Go.Proofs.Ytcgaodencjcgnaa
