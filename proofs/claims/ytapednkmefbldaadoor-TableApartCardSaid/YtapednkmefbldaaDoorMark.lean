/- A mark at which a walk stands; a struct or an array that is built. -/
import Derived.Test.YtapednkmefbldaaDoorProg
import Derived.Laws.Tables
import Derived.WalkKit
namespace Go.Proofs.YtapednkmefbldaaDoor
open Go.RowKit

@[irreducible] def Marker (p : Prop) : Prop := p
theorem Marker.mk {p : Prop} (h : Marker p) : p := by unfold Marker at h; exact h
theorem Marker.in {p : Prop} (h : p) : Marker p := by unfold Marker; exact h
theorem wpList_build' {P : Program} {ops : Array Oper} {rest : List Oper} {o : Oper} {a : Act} {w : World} {Q : Exit → Act → World → Prop} (hg : o.guard = none) (t : TypeId) (parts : Array (Nat × Operand)) (ho : o.op = .build t parts)
    (cells : Array Value) (he : P.built t (parts.toList.map fun (i, x) => (i, a.eval x)) = some cells) (h : wpList P ops Q rest (a.put o.dst (.agg cells)) w) : wpList P ops Q (o :: rest) a w :=
  wpList_build hg t parts ho (by rw [Array.toList_map, he]; rfl) (by rw [Array.toList_map, he]; exact h)
end Go.Proofs.YtapednkmefbldaaDoor
