/- The steps of a region that draws its order (XConfR): loads, builds, appends, guards. -/
import Derived.Test.YtapednkmefbldaaDoorConfR
import Derived.Test.YtapednkmefbldaaDoorRowK
namespace Go.Proofs.YtapednkmefbldaaDoor
open Go.RowKit

/-- new memory alone -/
def BelR (w w' : World) : Prop := Below w.heap.size w w'
theorem belR_kept : Kept BelR := ⟨fun _ => Below.refl _ _, fun _ _ _ h k => bt h k, fun w => (Below.refl _ w).drew⟩
theorem Deps.at {R : Nat → Value → World → Prop} {o : Oper} {x : Nat → Value} {w : World} (hd : Deps R o x w) (j : Nat) (h : (o.after.toList.any fun e => Region.binds .any e && e.on == j) = true) : R j (x j) w := by
  obtain ⟨e, he, hb⟩ := List.any_eq_true.1 h
  simp only [Bool.and_eq_true, beq_iff_eq] at hb
  have := hd e (Array.mem_toList_iff.1 he) hb.1
  rwa [hb.2] at this
theorem wantedN {o : Oper} {ops : Array Oper} {tmps : Array Value} {j d : Nat} {want b : Bool} (h : o.guard = some (j, want)) (hd : (ops[j]?).bind (·.dst) = some d) (hv : tmps[d]? = some (.bool b)) (hb : (b == want) = false) : Region.wanted o (yielded ops tmps) = false := by
  unfold Region.wanted yielded
  simp [h, hd, hv]
  cases b <;> cases want <;> simp_all
section
variable {P : Program} {ops : Array Oper} {Q : Exit → Act → World → Prop} {Rel : World → World → Prop} {F : (Nat → Value) → Act} {R : Nat → Value → World → Prop} {i : Nat} {o : Oper} {x : Nat → Value} {w : World}
theorem conf_loadR (hT : Kept Rel) {T : TypeId} {n g : Nat} {cs : Array Value} (hA : AggT P T n) (hw : Region.wanted o (yielded ops (F x).tmps) = true)
    (hl : LoadT o (F x) T g) (hg : Blk w g cs T) (hn : cs.size = n) (h : R i (.agg cs) w) : ConfStepR Rel P ops Q F R i o x w := by
  obtain ⟨⟨d, hu, hd⟩, hi⟩ := hA
  unfold LoadT at hl
  split at hl
  · rename_i t y ho
    obtain ⟨rfl, hx⟩ := hl
    refine conf_valueR hT hw ?_ h
    have hrun : (loadVar t ⟨g, 0, none⟩).run P w = .ok (.agg cs) w := by
      cases d <;> first | (cases hd; done) | exact run_loadVar_row w g t t cs (0, 0) _ hg hu rfl (by rw [hi, hn])
    unfold execOp
    simp only [ho, hx, Instr.loadAt, Instr.sureAddr, Sem.run_bind, Sem.run_pure, Result.andThen_ok, hrun]
  · exact hl.elim
/-- a part of a block is loaded -/
theorem conf_midR (hT : Kept Rel) {T TB : TypeId} {n g off : Nat} {cs big : Array Value} (hA : AggT P T n) (hw : Region.wanted o (yielded ops (F x).tmps) = true)
    (hl : LoadMid o (F x) T g off) (hg : Blk w g big TB) (hn : cs.size = n) (he : big.extract off (off + n) = cs) (h : R i (.agg cs) w) : ConfStepR Rel P ops Q F R i o x w := by
  obtain ⟨⟨d, hu, hd⟩, hi⟩ := hA
  unfold LoadMid at hl
  split at hl
  · rename_i t y ho
    obtain ⟨rfl, hx⟩ := hl
    refine conf_valueR hT hw ?_ h
    subst he
    have hrun := run_loadVar_mid w g off t _ d (World.rangeAt_of_block hg off n) hu (by cases d <;> first | rfl | cases hd) (by rw [hi, Array.length_toList, hn])
    rw [Array.toArray_toList] at hrun
    unfold execOp
    simp only [ho, hx, Instr.loadAt, Instr.sureAddr, Sem.run_bind, Sem.run_pure, Result.andThen_ok, hrun]
  · exact hl.elim
/-- append, by its run equation -/
theorem run_op_append {a : Act} {s y : Operand} {t : TypeId} {v1 v2 v' : Value} {w' : World} (ho : o.op = .call { callee := .builtin .append, args := #[s, y], argTypes := #[t, t] }) (hs : a.eval s = v1) (hx : a.eval y = v2)
    (hr : (Builtin.append_ #[t, t] o.type #[v1, v2]).run P w = .ok v' w') : (execOp a.eval o).run P w = .ok (.value v') w' := by
  unfold execOp
  simp only [ho, resolve, invoke, builtin, Sem.run_bind, Sem.run_pure, Result.andThen_ok, List.map_toArray, List.map_cons, List.map_nil, hs, hx, hr]
/-- a struct or an array is built -/
theorem run_op_build {a : Act} {t : TypeId} {parts : Array (Nat × Operand)} {cs : Array Value} (ho : o.op = .build t parts) (he : P.built t (parts.toList.map fun (i, x) => (i, a.eval x)) = some cs) : (execOp a.eval o).run P w = .ok (.value (.agg cs)) w := by
  unfold execOp
  simp only [ho]
  have hb := run_build (P := P) w t (parts.map fun (i, x) => (i, a.eval x)) cs (by rw [Array.toList_map]; exact he)
  simp only [Sem.run_bind, hb, Sem.run_pure, Result.andThen_ok]
end
end Go.Proofs.YtapednkmefbldaaDoor
