/- Whole rows in a walk, of whatever type: load, store. -/
import Derived.Test.YtapednkmefbldaaDoorRow
import Derived.Laws.Rows
import Derived.Laws.Tables
import Derived.Laws.CopyOwn
import Derived.Deep.WholeRow
import Derived.KernelRfl
import Derived.Lib.Hide
namespace Go.Proofs.YtapednkmefbldaaDoor
open Go.RowKit

section
variable {P : Program} {ops : Array Oper} {rest : List Oper} {o : Oper} {a : Act} {w : World} {Q : Exit → Act → World → Prop}
theorem wpRow_run (hw : Region.wanted o (yielded ops a.tmps) = true)
    {v : Value} {w' : World} (hr : (execOp a.eval o).run P w = .ok (.value v) w') (h : wpList P ops Q rest (a.put o.dst v) w') : wpList P ops Q (o :: rest) a w := by
  refine wpList_step fun K hK => ?_
  rw [if_pos hw]
  unfold Oper.wp
  rw [hr]
  exact hK _ _ h
theorem wpRow_skip (hw : Region.wanted o (yielded ops a.tmps) = true)
    {w' : World} (hr : (execOp a.eval o).run P w = .ok .skip w') (h : wpList P ops Q rest (a.put o.dst undef) w') : wpList P ops Q (o :: rest) a w := by
  refine wpList_step fun K hK => ?_
  rw [if_pos hw]
  unfold Oper.wp
  rw [hr]
  exact hK _ _ h
theorem wanted0 {o : Oper} {ops : Array Oper} {tmps : Array Value} (h : o.guard = none) : Region.wanted o (yielded ops tmps) = true := by unfold Region.wanted; rw [h]
/-- T is a struct or an array of n cells -/
def AggT (P : Program) (T : TypeId) (n : Nat) : Prop := (∃ d, P.underlying T = some d ∧ (match d with | .struct _ | .array _ _ => true | _ => false) = true) ∧ (P.info? T).map (·.size) = some n
def LoadT (o : Oper) (a : Act) (T : TypeId) (g : Nat) : Prop := match o.op with | .load t x => t = T ∧ a.eval x = .pointer (some ⟨g, 0, none⟩) | _ => False
def StoreT (o : Oper) (a : Act) (T : TypeId) (g : Nat) (cs : Array Value) : Prop := match o.op with | .store t x y => t = T ∧ a.eval x = .pointer (some ⟨g, 0, none⟩) ∧ a.eval y = .agg cs | _ => False
theorem wpRow_load {T : TypeId} {n g : Nat} {cs : Array Value} (hT : AggT P T n) (hw : Region.wanted o (yielded ops a.tmps) = true) (hl : LoadT o a T g) (hg : Hid (w.heap[g]? = some (.cells cs T (0, 0)))) (hn : cs.size = n)
    (h : wpList P ops Q rest (a.put o.dst (.agg cs)) w) : wpList P ops Q (o :: rest) a w := by
  obtain ⟨⟨d, hu, hd⟩, hi⟩ := hT
  unfold LoadT at hl
  split at hl
  · rename_i t x ho
    obtain ⟨rfl, hx⟩ := hl
    refine wpRow_run hw ?_ h
    unfold execOp
    have hrun : (loadVar t ⟨g, 0, none⟩).run P w = .ok (.agg cs) w := by
      cases d <;> first | (cases hd; done) | exact run_loadVar_row w g t t cs (0, 0) _ hg.out hu rfl (by rw [hi, hn])
    simp only [ho, hx, Instr.loadAt, Instr.sureAddr, Sem.run_bind, Sem.run_pure, Result.andThen_ok, hrun]
  · exact hl.elim
theorem wpRow_store {T : TypeId} {n g : Nat} {cs old : Array Value} (hT : AggT P T n) (hw : Region.wanted o (yielded ops a.tmps) = true) (hl : StoreT o a T g cs) (hg : Hid (w.heap[g]? = some (.cells old T (0, 0)))) (ho : old.size = n) (hn : cs.size = n)
    (h1 : cs.all (·.oneCell') = true) (h : wpList P ops Q rest (a.put o.dst undef) (w.setRow g cs)) : wpList P ops Q (o :: rest) a w := by
  obtain ⟨-, hi⟩ := hT
  unfold StoreT at hl
  split at hl
  · rename_i t x y hop
    obtain ⟨rfl, hx, hy⟩ := hl
    refine wpRow_skip hw ?_ h
    unfold execOp
    simp only [hop, hx, hy, Instr.storeAt, Instr.sureAddr, Sem.run_bind, Sem.run_pure, Result.andThen_ok, run_storeVar_row _ g t t old cs hg.out (by rw [hi, hn]) (by rw [ho, hn]) h1]
  · exact hl.elim
theorem results_row {fn : Func} {p : Tmp} {T : TypeId} {n : Nat} (hT : AggT P T n) (h : fn.results = #[.cell p T]) (tmps : Array Value) (w : World) (g : Nat) (cs : Array Value)
    (hp : tmps.getD p undef = .pointer (some ⟨g, 0, none⟩)) (hg : w.heap[g]? = some (.cells cs T (0, 0))) (hn : cs.size = n) : (results fn tmps).run P w = .ok (.agg cs) w := by
  obtain ⟨⟨d, hu, hd⟩, hi⟩ := hT
  cases d <;> first | (cases hd; done) | exact results_cell_row h tmps w g T cs (0, 0) _ hp hg hu rfl (by rw [hi, hn])
end
end Go.Proofs.YtapednkmefbldaaDoor
