/- A region that draws its order, whose loads read old memory and whose calls give plain values and make new memory alone: one walk (the kit's Deep/Quiet theory at another class of worlds). -/
import Derived.Test.YtapednkmefbldaaDoorRow
import Derived.BigQuiet
import Derived.Deep.RegionWith
import Derived.Laws.Rows
namespace Go.Proofs.YtapednkmefbldaaDoor
open Go.RowKit

/-- What comes of W by new memory. -/
def Ext (W : World) : Type := {w' : World // Below W.heap.size W w'}
def exw (W : World) (x : Ext W) : World := x.1
instance (W : World) : Nonempty (Ext W) := ⟨⟨W, Below.refl _ _⟩⟩
theorem exw_bel {W : World} (x : Ext W) : Below W.heap.size W (exw W x) := x.2
theorem exw_heap {W : World} {g : Nat} {o : Obj} (h : W.heap[g]? = some o) (x : Ext W) : (exw W x).heap[g]? = some o := blk_below h (exw_bel x)
theorem exw_cell {W : World} {g : Nat} {cs : Array Value} {t : TypeId} (h : W.heap[g]? = some (.cells cs t (0, 0))) : ∀ (x : Ext W) i, (exw W x).cell? ⟨g, i, none⟩ = cs[i]? := fun x i => (blk_cells (exw_heap h x)).1 i
theorem exw_row {W : World} {A : Option Addr} {xs : List Int} (h : Row W A xs) (x : Ext W) : Row (exw W x) A xs := row_below h (exw_bel x)
theorem ext_of {P : Program} {W : World} {f : FuncId} {args : Array Value} {x : Ext W} {v : Value} (h : Calls P f args (exw W x) fun e w' => e = .returned v ∧ Below (exw W x).heap.size (exw W x) w') :
    Calls P f args (exw W x) fun e w'' => e = .returned v ∧ ∃ y, w'' = exw W y := h.mono fun _ _ ⟨he, hb⟩ => ⟨he, ⟨⟨_, bt x.2 hb⟩, rfl⟩⟩
theorem ext_of_same {P : Program} {W : World} {f : FuncId} {args : Array Value} {x : Ext W} {v : Value} (h : Calls P f args (exw W x) fun e w' => e = .returned v ∧ exw W x = w') :
    Calls P f args (exw W x) fun e w'' => e = .returned v ∧ ∃ y, w'' = exw W y := h.mono fun _ _ ⟨he, hb⟩ => ⟨he, ⟨x, hb.symm⟩⟩
theorem wp_region_ext {P : Program} {id : Nat} {Q : Exit → Act → World → Prop} {a : Act} {w : World} {l : List Oper} (hm : P.follows .mixedOrders = true) (hB : Region.lexB .any l.toArray = true)
    (h : wpQuiet P l.toArray (fun w' => ∃ x, w' = exw w x) (fun a' => ∀ w', (∃ x, w' = exw w x) → Q .normal a' w') l a) : (Code.region id l.toArray true).wp P Q a w :=
  wp_region_quiet (C := fun w' => ∃ x, w' = exw w x) hm hB ⟨⟨w.drew, below_drewN1 w⟩, rfl⟩ (by simpa using h)
theorem quiet_load_row {P : Program} {a : Act} {o : Oper} {W : World} {K : Act → Prop} (T : TypeId) (x : Operand) (ho : o.op = .load T x) (g : Nat) (cs : Array Value) (hg : Hid (W.heap[g]? = some (.cells cs T (0, 0)))) (d : TypeDesc)
    (hu : P.underlying T = some d) (hd : (match d with | .struct _ | .array _ _ => true | _ => false) = true) (hi : (P.info? T).map (·.size) = some cs.size) (hx : a.eval x = .pointer (some ⟨g, 0, none⟩)) (hk : K (a.put o.dst (.agg cs))) : o.quiet P a (fun w' => ∃ x, w' = exw W x) K := by
  refine ⟨_, fun w hw => ?_, hk⟩
  obtain ⟨x, rfl⟩ := hw
  unfold Oper.quietAt execOp
  simp only [ho, hx, Instr.loadAt, Instr.sureAddr, Sem.run_bind, Sem.run_pure, Result.andThen_ok, run_loadVar_row _ g T T cs (0, 0) d (exw_heap hg.out x) hu hd hi]
  exact ⟨rfl, rfl⟩
end Go.Proofs.YtapednkmefbldaaDoor
