/- A slice of bytes that came in, as a list. -/
import Derived.Test.YtapednkmefbldaaDoorProg
import Derived.Test.YtapednkmefbldaaDoorOpen
import Derived.Test.YtapednkmefbldaaDoorBits
import Derived.Deep.QuietTactic
namespace Go.Proofs.YtapednkmefbldaaDoor
open Go.RowKit Go.WideShapes Go.ChangeShapes

/-- A slice whose elements are the bytes xs (nil and empty ones let in). -/
def Row (w : World) (a : Option Addr) (xs : List Int) : Prop :=
  (xs = [] ∨ ∃ b off, a = some ⟨b, off, none⟩ ∧ ∀ i (h : i < xs.length), w.cell? ⟨b, off + i, none⟩ = some (.int .u8 xs[i])) ∧ ∀ x ∈ xs, 0 ≤ x ∧ x ≤ 255
theorem row_below {w w' : World} {a : Option Addr} {xs : List Int} (h : Row w a xs) (hb : Below w.heap.size w w') : Row w' a xs := by
  obtain ⟨h | ⟨b, off, rfl, hc⟩, h2⟩ := h
  · exact ⟨.inl h, h2⟩
  · exact ⟨.inr ⟨b, off, rfl, fun i hi => by rw [hb.cell (World.block_lt_of_cell? _ _ (hc i hi))]; exact hc i hi⟩, h2⟩
theorem row_drewN {W : World} {a : Option Addr} {xs : List Int} (h : Row W a xs) (q : Nat) : Row (W.drewN q) a xs := h
theorem row_empty (W : World) (a : Option Addr) : Row W a [] := ⟨.inl rfl, fun x hx => by simp at hx⟩
theorem row_take {W : World} {a : Option Addr} {xs : List Int} (h : Row W a xs) (n : Nat) : Row W a (xs.take n) := by
  obtain ⟨h | ⟨b, off, rfl, hc⟩, h2⟩ := h
  · subst h; simpa using row_empty W a
  · refine ⟨.inr ⟨b, off, rfl, fun i hi => ?_⟩, fun x hx => h2 x (List.mem_of_mem_take hx)⟩
    rw [hc i (by simp at hi; omega)]
    simp

/-- The value is a slice of bytes: xs up to its length, and there is room for cap. -/
def IsBytes (w : World) (v : Value) : Prop :=
  ∃ (A : Option Addr) (xs : List Int) (cap : Nat), v = .slice A xs.length cap ∧ xs.length ≤ cap ∧ cap ≤ 9223372036854775807 ∧ Row w A xs ∧ (A = none → cap = 0)
theorem byte_of_wf {x : Int} (h : (Lit.int .u8 x).wf = true) : 0 ≤ x ∧ x ≤ 255 := by
  simp [Lit.wf, IntKind.min, IntKind.max, IntKind.signed, IntKind.bits] at h; omega
theorem bytes_of_trod {P : Program} {w : World} {H : Type} {enc : TypeId × Value → H} {t e : TypeId} {v : Value} {fuel : Nat} {x : DataW H × List MemPlace} (ht : P.underlying t = some (.slice e)) (he : P.underlying e = some (.int .u8)) (hc : P.cellsOf e = 1)
    (hd : DataW.trod enc P w 0 (fun _ => true) true fuel t [v] = some x) : IsBytes w v := by
  rcases open_ints ht he hc hd with ⟨hcs, _⟩ | ⟨ad, l, c, zs, hcs, _, hl, hm, hz, hx, hcell, hwz⟩
  · simp at hcs
    subst hcs
    exact ⟨none, [], 0, rfl, by simp, by simp, row_empty _ _, fun _ => rfl⟩
  · simp at hcs
    subst hcs
    have hzc : zs.length = c := by simpa using hz
    have hlen : (zs.take l).length = l := by rw [List.length_take]; omega
    refine ⟨some ad, zs.take l, c, by rw [hlen], by omega, by unfold maxLen at hm; omega, ⟨?_, fun y hy => byte_of_wf (hwz y (List.mem_of_mem_take hy))⟩, fun h => by cases h⟩
    rcases Nat.eq_zero_or_pos c with h0 | h0
    · left
      exact List.eq_nil_of_length_eq_zero (by omega)
    · right
      have h1 := hcell 0 (by omega)
      have e0 : ad.add 0 = ad := by simp [Addr.add]
      rw [e0] at h1
      obtain ⟨b, off, spot⟩ := ad
      have hs := World.cell?_spot h1
      simp at hs
      subst hs
      refine ⟨b, off, rfl, fun i hi => ?_⟩
      have hi' : i < l := by omega
      have := hcell i (by omega)
      have e : (⟨b, off, none⟩ : Addr).add i = ⟨b, off + i, none⟩ := by unfold Addr.add; split <;> simp_all
      rw [e] at this
      rw [this]
      simp [List.getElem_take, List.getD, List.getElem?_eq_getElem (show i < zs.length by omega)]
theorem mk_bytes {P : Program} {w : World} {r : Reach} {base : Nat} {H : Type} {enc : TypeId × Value → H} {t e : TypeId} {v : Value} {d : DataW H} {p : List MemPlace} (ht : P.underlying t = some (.slice e)) (he : P.underlying e = some (.int .u8)) (hc : P.cellsOf e = 1)
    (hv : Value.okWide P w r base t v) (hd : DataW.Trod enc P w 0 (fun _ => true) true t v d p) : IsBytes w v := by
  obtain ⟨a, len, cap, rfl⟩ := okWide_slice ht hv
  obtain ⟨fuel, hf⟩ := hd
  exact bytes_of_trod ht he hc (by simpa [Value.cells] using hf)
theorem below_next {B : Nat} {w w' w'' : World} (h : Below B w w') (k : Below w'.heap.size w' w'') (hB : B ≤ w.heap.size) : Below B w w'' :=
  h.trans (k.mono (Nat.le_trans hB h.size))
theorem bt {w w' w'' : World} (h : Below w.heap.size w w') (k : Below w'.heap.size w' w'') : Below w.heap.size w w'' := h.trans (k.mono h.size)
theorem below_drewN {B : Nat} {a w : World} (h : Below B a w) (n : Nat) : Below B a (w.drewN n) := ⟨h.os, h.tape, h.output, h.size, h.block⟩
theorem below_drewN1 (w : World) : Below w.heap.size w w.drew := ⟨rfl, rfl, rfl, Nat.le_refl _, fun _ _ => rfl⟩
theorem below_alloc1 (w : World) (o : Obj) : Below w.heap.size w (w.alloc o) := (Below.refl _ _).alloc (Nat.le_refl _) o
theorem below_alloc2 (w : World) (o o' : Obj) : Below w.heap.size w ((w.alloc o).alloc o') := (below_alloc1 w o).alloc (by simp) o'
theorem below_alloc3 (w : World) (o o' o'' : Obj) : Below w.heap.size w (((w.alloc o).alloc o').alloc o'') := (below_alloc2 w o o').alloc (by simp; omega) o''
theorem blk_cells {w : World} {g : Nat} {cs : Array Value} {t : TypeId} (h : w.heap[g]? = some (.cells cs t (0, 0))) : (∀ i, w.cell? ⟨g, i, none⟩ = cs[i]?) ∧ (∀ i, w.frozen? ⟨g, i, none⟩ = false) :=
  ⟨fun i => cell_of_row w g i cs t (0, 0) h, fun i => frozen_of_row w g i cs t h⟩
theorem blk_lt {w : World} {g : Nat} {o : Obj} (h : w.heap[g]? = some o) : g < w.heap.size := by
  rcases Nat.lt_or_ge g w.heap.size with h1 | h1
  · exact h1
  · rw [Array.getElem?_eq_none h1] at h; cases h
theorem blk_below {w w' : World} {g : Nat} {o : Obj} (h : w.heap[g]? = some o) (hb : Below w.heap.size w w') : w'.heap[g]? = some o := (hb.block g (blk_lt h)).trans h
theorem blk_one {w w' : World} {o : Obj} (hb : Below (w.alloc o).heap.size (w.alloc o) w') : w'.heap[w.heap.size]? = some o ∧ w.heap.size < w'.heap.size := by
  refine ⟨blk_below (heap_alloc_new _ _) hb, ?_⟩
  have := hb.size
  simp at this; omega
theorem blk_two {w w' : World} {o o' : Obj} (hb : Below ((w.alloc o).alloc o').heap.size ((w.alloc o).alloc o') w') : w'.heap[w.heap.size]? = some o ∧ w'.heap[w.heap.size + 1]? = some o' ∧ w.heap.size + 1 < w'.heap.size := by
  refine ⟨blk_below (heap_alloc2_old _ _ _) hb, blk_below (heap_alloc2_new _ _ _) hb, ?_⟩
  have := hb.size
  simp at this; omega
theorem row_block {W : World} {g : Nat} {t : TypeId} {xs : List Int} {cs : Array Value} (hg : W.heap[g]? = some (.cells cs t (0, 0))) (hc : cs = (xs.map (Value.int .u8)).toArray) (hb : ∀ x ∈ xs, 0 ≤ x ∧ x ≤ 255) :
    Row W (some ⟨g, 0, none⟩) xs := by
  subst hc
  refine ⟨.inr ⟨g, 0, rfl, fun i h => ?_⟩, hb⟩
  rw [cell_of_row W g (0 + i) _ t (0, 0) hg]
  simp [h]
theorem cell_box {w : World} {cs : Array Value} {t : TypeId} (i : Nat) : (w.alloc (.cells cs t)).cell? ⟨w.heap.size, i, none⟩ = cs[i]? := cell_of_row _ _ i cs t (0, 0) (heap_alloc_new w _)
theorem cell_boxed {w w' : World} {cs : Array Value} {t : TypeId} (hb : Below (w.alloc (.cells cs t)).heap.size (w.alloc (.cells cs t)) w') (i : Nat) : w'.cell? ⟨w.heap.size, i, none⟩ = cs[i]? :=
  (hb.cell (p := ⟨w.heap.size, i, none⟩) (by simp)).trans (cell_box i)
theorem below_box {w w' : World} {o : Obj} (hb : Below (w.alloc o).heap.size (w.alloc o) w') : Below w.heap.size w w' :=
  below_next ((Below.refl _ _).alloc (Nat.le_refl _) o) hb (Nat.le_refl _)
theorem heap_set {w : World} {g : Nat} {cs : Array Value} {t : TypeId} {p : Nat × Nat} (h : w.heap[g]? = some (.cells cs t p)) (i : Nat) (v : Value) : (w.setCell ⟨g, i, none⟩ v).heap[g]? = some (.cells (cs.setIfInBounds i v) t p) := by
  simp only [World.setCell, Array.getElem?_modify, if_true, h, Option.map_some]
  rfl
theorem blk_set3 {w : World} {g : Nat} {x y z a b c : Value} {t : TypeId} {p : Nat × Nat} (h : w.heap[g]? = some (.cells #[x, y, z] t p)) :
    (((w.setCell ⟨g, 0, none⟩ a).setCell ⟨g, 1, none⟩ b).setCell ⟨g, 2, none⟩ c).heap[g]? = some (.cells #[a, b, c] t p) :=
  heap_set (heap_set (heap_set h 0 a) 1 b) 2 c
theorem below_set3 {B g : Nat} {w w' : World} {a b c : Value} (h : Below B w w') (hg : B ≤ g) :
    Below B w (((w'.setCell ⟨g, 0, none⟩ a).setCell ⟨g, 1, none⟩ b).setCell ⟨g, 2, none⟩ c) :=
  ((h.setCell (p := ⟨g, 0, none⟩) hg a).setCell (p := ⟨g, 1, none⟩) hg b).setCell (p := ⟨g, 2, none⟩) hg c
theorem blk_set3_other {w : World} {g k : Nat} {a b c : Value} (h : k ≠ g) :
    (((w.setCell ⟨g, 0, none⟩ a).setCell ⟨g, 1, none⟩ b).setCell ⟨g, 2, none⟩ c).heap[k]? = w.heap[k]? := by
  rw [Below.heap_setCell _ _ _ _ h, Below.heap_setCell _ _ _ _ h, Below.heap_setCell _ _ _ _ h]
theorem below_of_drew {B : Nat} {w w' : World} (h : Below B w.drew w') : Below B w w' := ⟨h.os, h.tape, h.output, h.size, h.block⟩
theorem info_u8 : (Tryd.prog.info? 5).map (fun i => (i.zero, i.size, i.bytes)) = some (some (.int .u8 0), 1, 1) := by kernel_rfl
end Go.Proofs.YtapednkmefbldaaDoor
