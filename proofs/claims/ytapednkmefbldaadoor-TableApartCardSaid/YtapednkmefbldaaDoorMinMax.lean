/- min and max of two ints, in one step. -/
import Derived.Test.YtapednkmefbldaaDoorRowK
namespace Go.Proofs.YtapednkmefbldaaDoor
open Go.RowKit
section
variable {P : Program}
theorem run_min_i64 (ats : Array TypeId) (ty : TypeId) (p q : Int) (W : World) : (Builtin.min_ ats ty #[.int .i64 p, .int .i64 q]).run P W = .ok (.int .i64 (min p q)) W := by
  simp [Builtin.min_, Builtin.min2, go_sem]
  try omega
theorem run_max_i64 (ats : Array TypeId) (ty : TypeId) (p q : Int) (W : World) : (Builtin.max_ ats ty #[.int .i64 p, .int .i64 q]).run P W = .ok (.int .i64 (max p q)) W := by
  simp [Builtin.max_, Builtin.max2, go_sem]
  try omega
variable {ops : Array Oper} {rest : List Oper} {o : Oper} {a : Act} {w : World} {Q : Exit → Act → World → Prop}
theorem wpList_min {p q r : Int} (s x : Operand) (ats : Array TypeId) (hgd : o.guard = none) (ho : o.op = .call { callee := .builtin .min, args := #[s, x], argTypes := ats }) (h1 : a.eval s = .int .i64 p) (h2 : a.eval x = .int .i64 q) (hr : min p q = r) (h : wpList P ops Q rest (a.put o.dst (.int .i64 r)) w) : wpList P ops Q (o :: rest) a w := by
  subst hr
  refine wpList_plain hgd fun K hK => ?_
  unfold Oper.wp execOp
  simp only [ho, resolve, invoke, builtin, Sem.run_bind, Sem.run_pure, Result.andThen_ok, List.map_toArray, List.map_cons, List.map_nil, h1, h2, run_min_i64]
  exact hK _ _ h
theorem wpList_max {p q r : Int} (s x : Operand) (ats : Array TypeId) (hgd : o.guard = none) (ho : o.op = .call { callee := .builtin .max, args := #[s, x], argTypes := ats }) (h1 : a.eval s = .int .i64 p) (h2 : a.eval x = .int .i64 q) (hr : max p q = r) (h : wpList P ops Q rest (a.put o.dst (.int .i64 r)) w) : wpList P ops Q (o :: rest) a w := by
  subst hr
  refine wpList_plain hgd fun K hK => ?_
  unfold Oper.wp execOp
  simp only [ho, resolve, invoke, builtin, Sem.run_bind, Sem.run_pure, Result.andThen_ok, List.map_toArray, List.map_cons, List.map_nil, h1, h2, run_max_i64]
  exact hK _ _ h
end
end Go.Proofs.YtapednkmefbldaaDoor
