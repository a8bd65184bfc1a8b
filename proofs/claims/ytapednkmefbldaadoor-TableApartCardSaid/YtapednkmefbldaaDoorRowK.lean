/- Rows of cells: blocks, whole rows made, loaded, stored; lists of words. -/
import Derived.Test.YtapednkmefbldaaDoorRowW
import Derived.Test.YtapednkmefbldaaDoorMark
import Derived.Deep.MidRow
namespace Go.Proofs.YtapednkmefbldaaDoor
open Go.RowKit

/-- Block g holds the cells cs. -/
def Blk (w : World) (g : Nat) (cs : Array Value) (T : TypeId) : Prop := w.heap[g]? = some (.cells cs T (0, 0))
theorem Blk.below {w w' : World} {g : Nat} {cs : Array Value} {T : TypeId} (h : Blk w g cs T) (hb : Below w.heap.size w w') : Blk w' g cs T := blk_below h hb
theorem Blk.lt {w : World} {g : Nat} {cs : Array Value} {T : TypeId} (h : Blk w g cs T) : g < w.heap.size := blk_lt h
theorem Blk.drewN {w : World} {g : Nat} {cs : Array Value} {T : TypeId} (h : Blk w g cs T) (n : Nat) : Blk (w.drewN n) g cs T := h
theorem Blk.drew {w : World} {g : Nat} {cs : Array Value} {T : TypeId} (h : Blk w g cs T) : Blk w.drew g cs T := h
theorem Blk.new (w : World) (cs : Array Value) (T : TypeId) : Blk (w.alloc (.cells cs T)) w.heap.size cs T := heap_alloc_new w _
theorem alloc_size (w : World) (o : Obj) : (w.alloc o).heap.size = w.heap.size + 1 := by simp
theorem Blk.new' (w : World) (cs : Array Value) (T : TypeId) {g : Nat} (h : g = w.heap.size) : Blk (w.alloc (.cells cs T)) g cs T := by subst h; exact heap_alloc_new w _
theorem Blk.alloc {w : World} {g : Nat} {cs : Array Value} {T : TypeId} (h : Blk w g cs T) (o : Obj) : Blk (w.alloc o) g cs T := h.below (below_alloc1 w o)
theorem Blk.cell {w : World} {g : Nat} {cs : Array Value} {T : TypeId} (h : Blk w g cs T) (i : Nat) : w.cell? ⟨g, i, none⟩ = cs[i]? := (blk_cells h).1 i
theorem Blk.frozen {w : World} {g : Nat} {cs : Array Value} {T : TypeId} (h : Blk w g cs T) (i : Nat) : w.frozen? ⟨g, i, none⟩ = false := (blk_cells h).2 i
theorem Blk.set {w : World} {g : Nat} {cs : Array Value} {T : TypeId} (h : Blk w g cs T) (i : Nat) (v : Value) : Blk (w.setCell ⟨g, i, none⟩ v) g (cs.setIfInBounds i v) T := heap_set h i v
theorem Blk.other {w : World} {g : Nat} {cs : Array Value} {T : TypeId} (h : Blk w g cs T) (g' i : Nat) (v : Value) (hne : g ≠ g') : Blk (w.setCell ⟨g', i, none⟩ v) g cs T := by
  unfold Blk
  rw [Below.heap_setCell _ _ _ _ hne]
  exact h
theorem Blk.setRow {w : World} {g : Nat} {old : Array Value} {T : TypeId} (h : Blk w g old T) (cs : Array Value) : Blk (w.setRow g cs) g cs T := setRow_heap w g _ cs _ _ h
theorem Blk.setRow_other {w : World} {g : Nat} {cs : Array Value} {T : TypeId} (h : Blk w g cs T) (g' : Nat) (cs' : Array Value) (hne : g ≠ g') : Blk (w.setRow g' cs') g cs T := (_root_.Go.setRow_other w g' g cs' hne).trans h

/-! ### lists of words -/
def u32V (l : List Int) : Array Value := (l.map (Value.int .u32)).toArray
def u8V (l : List Int) : Array Value := (l.map (Value.int .u8)).toArray
theorem u32V_size (l : List Int) : (u32V l).size = l.length := by simp [u32V]
theorem u8V_size (l : List Int) : (u8V l).size = l.length := by simp [u8V]
theorem u32V_get (l : List Int) (i : Nat) (h : i < l.length) : (u32V l)[i]? = some (.int .u32 (l.getD i 0)) := by simp [u32V, h]
theorem u8V_get (l : List Int) (i : Nat) (h : i < l.length) : (u8V l)[i]? = some (.int .u8 (l.getD i 0)) := by simp [u8V, h]
theorem u32V_set (l : List Int) (i : Nat) (x : Int) : (u32V l).setIfInBounds i (.int .u32 x) = u32V (l.set i x) := by simp [u32V, List.map_set]
theorem u8V_set (l : List Int) (i : Nat) (x : Int) : (u8V l).setIfInBounds i (.int .u8 x) = u8V (l.set i x) := by simp [u8V, List.map_set]
theorem u32V_one (l : List Int) : (u32V l).all (·.oneCell') = true := by
  rw [Array.all_eq_true]; intro i hi; simp [u32V, Value.oneCell']
theorem u8V_one (l : List Int) : (u8V l).all (·.oneCell') = true := by
  rw [Array.all_eq_true]; intro i hi; simp [u8V, Value.oneCell']
theorem u8V_row {w : World} {g : Nat} {l : List Int} {T : TypeId} (h : Blk w g (u8V l) T) (hb : ∀ x ∈ l, 0 ≤ x ∧ x ≤ 255) : Row w (some ⟨g, 0, none⟩) l := row_block h rfl hb
theorem u8V_mid {w : World} {g : Nat} {l : List Int} {T : TypeId} (h : Blk w g (u8V l) T) (hb : ∀ x ∈ l, 0 ≤ x ∧ x ≤ 255) (off n : Nat) : Row w (some ⟨g, off, none⟩) ((l.drop off).take n) := by
  refine ⟨.inr ⟨g, off, rfl, fun i hi => ?_⟩, fun x hx => hb x (List.mem_of_mem_drop (List.mem_of_mem_take hx))⟩
  have hi2 : off + i < l.length := by simp at hi; omega
  rw [h.cell (off + i), u8V_get _ _ hi2]
  simp [hi2]
/-- the first i of l, and 0 -/
def part (l : List Int) (i : Nat) : List Int := l.take i ++ List.replicate (l.length - i) 0
theorem part_len (l : List Int) (i : Nat) (h : i ≤ l.length) : (part l i).length = l.length := by simp [part]; omega
theorem part_zero (l : List Int) : part l 0 = List.replicate l.length 0 := by simp [part]
theorem part_all (l : List Int) (i : Nat) (h : l.length ≤ i) : part l i = l := by
  simp [part, List.take_of_length_le h, show l.length - i = 0 by omega]
theorem part_getD (l : List Int) (i k : Nat) (h : k < i) (hi : i ≤ l.length) : (part l i).getD k 0 = l.getD k 0 := by
  unfold part
  simp only [List.getD_eq_getElem?_getD]
  rw [List.getElem?_append_left (by simp; omega), List.getElem?_take_of_lt h]
theorem part_set (l : List Int) (i : Nat) (h : i < l.length) : (part l i).set i (l.getD i 0) = part l (i + 1) := by
  apply List.ext_getElem?
  intro j
  rw [List.getElem?_set]
  have hl := part_len l i (by omega)
  by_cases e : i = j
  · subst e
    rw [if_pos rfl, if_pos (by omega)]
    unfold part
    rw [List.getElem?_append_left (by simp; omega), List.getElem?_take_of_lt (by omega)]
    simp [h]
  · rw [if_neg e]
    unfold part
    rcases Nat.lt_or_ge j i with hj | hj
    · rw [List.getElem?_append_left (by simp; omega), List.getElem?_append_left (by simp; omega), List.getElem?_take_of_lt hj, List.getElem?_take_of_lt (by omega)]
    · rw [List.getElem?_append_right (by simp; omega), List.getElem?_append_right (by simp; omega)]
      simp only [List.length_take, List.getElem?_replicate]
      rw [Nat.min_eq_left (by omega), Nat.min_eq_left (by omega)]
      by_cases h1 : j < l.length
      · rw [if_pos (by omega), if_pos (by omega)]
      · rw [if_neg (by omega), if_neg (by omega)]

/-- the first i of l, and what old has behind -/
def over (l old : List Int) (i : Nat) : List Int := l.take i ++ old.drop i
theorem over_zero (l old : List Int) : over l old 0 = old := by simp [over]
theorem over_all (l old : List Int) (i : Nat) (h : l.length ≤ i) (h2 : old.length ≤ i) : over l old i = l := by simp [over, List.take_of_length_le h, List.drop_of_length_le h2]
theorem over_len (l old : List Int) (i : Nat) (h : l.length = old.length) (hi : i ≤ l.length) : (over l old i).length = l.length := by simp [over]; omega
theorem over_getD (l old : List Int) (i k : Nat) (h : l.length = old.length) (hi : i ≤ k) (hk : k < l.length) : (over l old i).getD k 0 = old.getD k 0 := by
  unfold over
  simp only [List.getD_eq_getElem?_getD]
  rw [List.getElem?_append_right (by simp; omega), List.getElem?_drop]
  congr 2
  simp; omega
theorem over_set (l old : List Int) (i : Nat) (h : l.length = old.length) (hi : i < l.length) : (over l old i).set i (l.getD i 0) = over l old (i + 1) := by
  apply List.ext_getElem?
  intro j
  rw [List.getElem?_set]
  have hl := over_len l old i h (by omega)
  by_cases e : i = j
  · subst e
    rw [if_pos rfl, if_pos (by omega)]
    unfold over
    rw [List.getElem?_append_left (by simp; omega), List.getElem?_take_of_lt (by omega)]
    simp [hi]
  · rw [if_neg e]
    unfold over
    rcases Nat.lt_or_ge j i with hj | hj
    · rw [List.getElem?_append_left (by simp; omega), List.getElem?_append_left (by simp; omega), List.getElem?_take_of_lt hj, List.getElem?_take_of_lt (by omega)]
    · rw [List.getElem?_append_right (by simp; omega), List.getElem?_append_right (by simp; omega), List.getElem?_drop, List.getElem?_drop]
      congr 1
      simp; omega

/-! ### a row is made -/
def ZeroT (P : Program) (T : TypeId) (cs : Array Value) : Prop := ∀ (ev : Operand → Value) (o : Oper) (w : World), o.op = .alloc T → (execOp ev o).run P w = .ok (.value (.pointer (some ⟨w.heap.size, 0, none⟩))) (w.alloc (.cells cs T))
section
variable {P : Program} {ops : Array Oper} {rest : List Oper} {o : Oper} {a : Act} {w : World} {Q : Exit → Act → World → Prop}
theorem wpRow_alloc {T : TypeId} {cs : Array Value} (hz : ZeroT P T cs) (hw : Region.wanted o (yielded ops a.tmps) = true) (ho : o.op = .alloc T)
    (h : wpList P ops Q rest (a.put o.dst (.pointer (some ⟨w.heap.size, 0, none⟩))) (w.alloc (.cells cs T))) : wpList P ops Q (o :: rest) a w := wpRow_run hw (hz _ _ _ ho) h
theorem wpBlk_load {T : TypeId} {n g : Nat} {cs : Array Value} (hT : AggT P T n) (hw : Region.wanted o (yielded ops a.tmps) = true) (hl : LoadT o a T g) (hg : Hid (Blk w g cs T)) (hn : cs.size = n)
    (h : wpList P ops Q rest (a.put o.dst (.agg cs)) w) : wpList P ops Q (o :: rest) a w := wpRow_load hT hw hl hg hn h
theorem wpBlk_store {T : TypeId} {n g : Nat} {cs old : Array Value} (hT : AggT P T n) (hw : Region.wanted o (yielded ops a.tmps) = true) (hl : StoreT o a T g cs) (hg : Hid (Blk w g old T)) (ho : old.size = n) (hn : cs.size = n)
    (h1 : cs.all (·.oneCell') = true) (h : wpList P ops Q rest (a.put o.dst undef) (w.setRow g cs)) : wpList P ops Q (o :: rest) a w := wpRow_store hT hw hl hg ho hn h1 h
/-- a part of a block is loaded -/
def LoadMid (o : Oper) (a : Act) (T : TypeId) (g off : Nat) : Prop := match o.op with | .load t x => t = T ∧ a.eval x = .pointer (some ⟨g, off, none⟩) | _ => False
theorem wpBlk_mid {T TB : TypeId} {n g off : Nat} {cs big : Array Value} (hT : AggT P T n) (hw : Region.wanted o (yielded ops a.tmps) = true) (hl : LoadMid o a T g off) (hg : Hid (Blk w g big TB)) (hn : cs.size = n) (he : big.extract off (off + n) = cs)
    (h : wpList P ops Q rest (a.put o.dst (.agg cs)) w) : wpList P ops Q (o :: rest) a w := by
  obtain ⟨⟨d, hu, hd⟩, hi⟩ := hT
  unfold LoadMid at hl
  split at hl
  · rename_i t x ho
    obtain ⟨rfl, hx⟩ := hl
    refine wpRow_run hw ?_ h
    subst he
    have hrun := run_loadVar_mid w g off t _ d (World.rangeAt_of_block hg.out off n) hu (by cases d <;> first | rfl | cases hd) (by rw [hi, Array.length_toList, hn])
    rw [Array.toArray_toList] at hrun
    unfold execOp
    simp only [ho, hx, Instr.loadAt, Instr.sureAddr, Sem.run_bind, Sem.run_pure, Result.andThen_ok, hrun]
  · exact hl.elim
theorem results_blk {fn : Func} {p : Tmp} {T : TypeId} {n : Nat} (hT : AggT P T n) (h : fn.results = #[.cell p T]) (tmps : Array Value) (w : World) (g : Nat) (cs : Array Value)
    (hp : tmps.getD p undef = .pointer (some ⟨g, 0, none⟩)) (hg : Blk w g cs T) (hn : cs.size = n) : (results fn tmps).run P w = .ok (.agg cs) w := results_row hT h tmps w g cs hp hg hn
end
end Go.Proofs.YtapednkmefbldaaDoor
