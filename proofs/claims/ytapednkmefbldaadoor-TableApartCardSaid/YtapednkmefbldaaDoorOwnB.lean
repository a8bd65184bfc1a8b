/- A row of one's own as a block; a slice of bytes out of a struct; append onto a literal row. -/
import Derived.Test.YtapednkmefbldaaDoorSealL
import Derived.Test.YtapednkmefbldaaDoorAppF
import Derived.Test.YtapednkmefbldaaDoorGrow
import Derived.ChangeSlices
namespace Go.Proofs.YtapednkmefbldaaDoor
open Go.RowKit Go.ChangeShapes Go.WideShapes

theorem own_blk {w : World} {base : Nat} {A : Option Addr} {cap : Nat} {xs : List Int} (h : Own w base A cap xs) (hp : 0 < xs.length) :
    ∃ g cur, A = some ⟨g, 0, none⟩ ∧ base ≤ g ∧ Blk w g cur 5 ∧ cur.toList.take xs.length = xs.map (Value.int .u8) ∧ xs.length ≤ cap := by
  rcases h.1.2 with ⟨hv, hn⟩ | ⟨g, cap', cur, hv, hg, hh, hl, hm, hs, ht⟩
  · omega
  · injection hv with h1 h2 h3
    rw [Nat.mul_one] at ht
    exact ⟨g, cur, h1, hg, hh, ht, by omega⟩
theorem row_cur {w : World} {g : Nat} {cur : Array Value} {T : TypeId} {P : List Int} (hk : Blk w g cur T) (ht : cur.toList.take P.length = P.map (Value.int .u8)) (hb : ∀ x ∈ P, 0 ≤ x ∧ x ≤ 255) (off n : Nat) :
    Row w (some ⟨g, off, none⟩) ((P.drop off).take n) := by
  refine ⟨.inr ⟨g, off, rfl, fun i hi => ?_⟩, fun x hx => hb x (List.mem_of_mem_drop (List.mem_of_mem_take hx))⟩
  have hi2 : off + i < P.length := by simp at hi; omega
  rw [hk.cell (off + i), ← Array.getElem?_toList, ← List.getElem?_take_of_lt hi2, ht]
  simp [hi2]
theorem cur_get {cur : Array Value} {xs : List Int} (h : cur.toList.take xs.length = xs.map (Value.int .u8)) (i : Nat) (hi : i < xs.length) : cur[i]? = some (.int .u8 (xs.getD i 0)) := by
  rw [← Array.getElem?_toList, ← List.getElem?_take_of_lt hi, h]
  simp [hi]
theorem cur_set {cur : Array Value} {xs : List Int} (h : cur.toList.take xs.length = xs.map (Value.int .u8)) (i : Nat) (z : Int) (hi : i < xs.length) : (cur.setIfInBounds i (.int .u8 z)).toList.take (xs.set i z).length = (xs.set i z).map (Value.int .u8) := by
  rw [Array.toList_setIfInBounds, List.length_set, List.take_set, h, List.map_set]
theorem row_of_trod {H : Type} {enc : TypeId × Value → H} {w : World} {fuel : Nat} {a : Option Addr} {l c : Nat} {x : DataW H × List MemPlace} (hf : DataW.trod enc Tryd.prog w 0 (fun _ => true) true fuel 23 [.slice a l c] = some x) : IsRow .u8 w (.slice a l c) := by
  rcases open_ints Tryd.underlying23 Tryd.underlying5 (by kernel_rfl) hf with ⟨hcs, _⟩ | ⟨x, l', c', zs, hcs, _, hl, hm, hz, hx, hcell, hwz⟩
  · simp at hcs
    obtain ⟨rfl, rfl, rfl⟩ := hcs
    exact .inl rfl
  · simp at hcs
    obtain ⟨rfl, rfl, rfl⟩ := hcs
    have hzc : zs.length = c := by simpa using hz
    refine .inr ⟨x, l, c, zs, rfl, fun h0 => ?_, hl, by unfold maxLen at hm; omega, hzc, hcell, hwz⟩
    have h1 := hcell 0 (by omega)
    have e0 : x.add 0 = x := by simp [Addr.add]
    rw [e0] at h1
    refine ⟨?_, World.cell?_spot h1⟩
    rcases Nat.lt_or_ge x.block w.heap.size with h2 | h2
    · exact h2
    · rw [World.cell?, Array.getElem?_eq_none h2] at h1; simp at h1
def IsTurned (w : World) (v : Value) : Prop := ∃ (a : Option Addr) (l c : Nat) (x y : Int), v = .agg #[.slice a l c, .int .u8 x, .int .u8 y] ∧ IsRow .u8 w (.slice a l c) ∧ (0 ≤ x ∧ x ≤ 255) ∧ (0 ≤ y ∧ y ≤ 255)
set_option maxRecDepth 100000 in
theorem mk_sidesticklaw09_Turned {H : Type} {enc : TypeId × Value → H} {w : World} {base : Nat} {v : Value} {d : DataW H} {p : List MemPlace}
    (h : Value.okWide Tryd.prog w .any base 25 v) (hd : DataW.Trod enc Tryd.prog w 0 (fun _ => true) true 25 v d p) : IsTurned w v := by
  obtain ⟨cs, rfl, hs, hc⟩ := flat (ts := [23, 5, 5]) (.inl ⟨_, Tryd.underlying25⟩) (by kernel_rfl) (by kernel_rfl) h
  obtain ⟨fuel, hf⟩ := hd
  obtain ⟨l⟩ := cs
  match l, hs with
  | [c0, c1, c2], _ =>
    obtain ⟨a, n, c, rfl⟩ := cell_slice Tryd.underlying23 (hc 0 _ c0 rfl rfl)
    obtain ⟨x, rfl, x0, x1⟩ := opn_u8 Tryd.underlying5 (hc 1 _ c1 rfl rfl)
    obtain ⟨y, rfl, y0, y1⟩ := opn_u8 Tryd.underlying5 (hc 2 _ c2 rfl rfl)
    obtain ⟨xs, m, -, -, hl, hxl, hg⟩ := DataW.trod_struct Tryd.underlying25 hf
    obtain ⟨y0', hy0⟩ : ∃ y, xs[0]? = some y := ⟨_, List.getElem?_eq_getElem (by rw [hxl]; decide)⟩
    have g0 : DataW.trod enc Tryd.prog w 0 (fun _ => true) true m 23 (([.slice a n c, .int .u8 x, .int .u8 y].drop 0).take (Tryd.prog.cellsOf 23)) = xs[0]? := hg 0 _ rfl
    rw [hy0] at g0
    rw [show Tryd.prog.cellsOf 23 = 1 by kernel_rfl] at g0
    simp only [List.drop_zero, List.take_succ_cons, List.take_zero] at g0
    exact ⟨a, n, c, x, y, rfl, row_of_trod g0, ⟨x0, x1⟩, ⟨y0, y1⟩⟩
theorem growR_blk0 {b0 N : Nat} {T : TypeId} {w w' : World} (h : GrowR b0 T N [] w w') {g : Nat} {cs : Array Value} {S : TypeId} (hk : Blk w g cs S) : Blk w' g cs S := by
  obtain ⟨cs', e, s, -, hj⟩ := h.2.2 g cs S hk
  have : cs' = cs := by
    apply Array.ext_getElem?
    intro j
    rcases hj j with h1 | ⟨h1, h2, _⟩
    · exact h1
    · simp at h2; omega
  rw [this] at e
  exact e
set_option maxRecDepth 100000 in
/-- append onto a row just made -/
theorem run_append_any (w : World) (b0 g k : Nat) (xs : List Int) (hk : xs.length = k) (hg : Blk w g (u8V xs) 5) (hb : ∀ x ∈ xs, 0 ≤ x ∧ x ≤ 255) (hb0 : b0 ≤ g) (hkp : 0 < k) (B : Option Addr) (c m : Nat) (ys : List Int) (hm : ys.length = m) (hr : Row w B ys) (hsmall : k + m ≤ 1000000) (ty : TypeId) :
    ∃ A' cap' w', (Builtin.append_ #[23, 23] ty #[.slice (some ⟨g, 0, none⟩) k k, .slice B m c]).run Tryd.prog w = .ok (.slice A' (k + m) cap') w' ∧ Own w' b0 A' cap' (xs ++ ys) ∧ GrowR b0 5 0 [] w w' := by
  obtain ⟨i0, hi, hz0, hz1, hz2⟩ := info_parts info_u8
  subst hk hm
  have hown : w.ownsRow b0 5 1 (.slice (some ⟨g, 0, none⟩) xs.length xs.length) xs.length (xs.map (Value.int .u8)) := by
    refine ⟨by simp, .inr ⟨g, xs.length, u8V xs, rfl, hb0, hg, Nat.le_refl _, by unfold maxLen; omega, by rw [u8V_size]; omega, ?_⟩⟩
    rw [Nat.mul_one]
    simp only [u8V]
    rw [List.take_of_length_le (by simp)]
  have hbb : ∀ x ∈ xs ++ ys, 0 ≤ x ∧ x ≤ 255 := by
    intro x hx
    rcases List.mem_append.1 hx with h | h
    · exact hb x h
    · exact hr.2 x h
  rcases B with _ | ad
  · have hy : ys = [] := by
      rcases hr.1 with h | ⟨b, off, h, _⟩
      · exact h
      · cases h
    subst hy
    refine ⟨some ⟨g, 0, none⟩, xs.length, w, ?_, ⟨by simpa using hown, by simpa using hb⟩, growR_kept.1 w⟩
    simp [Builtin.append_, run_underlying Tryd.underlying23, sizeOf, typeInfo, hi, Builtin.lenOf, Builtin.firstCells, storeCells]
  · have hcells : ∀ (j : Nat) u, (ys.map (Value.int .u8))[j]? = some u → w.cell? (ad.add j) = some u := by
      intro j u hu
      have hj : j < ys.length := by
        rcases Nat.lt_or_ge j ys.length with h | h
        · exact h
        · rw [List.getElem?_eq_none (by simpa using h)] at hu; cases hu
      rcases hr.1 with h | ⟨b, off, h, hc⟩
      · subst h; simp at hj
      · injection h with h
        subst h
        have e : (⟨b, off, none⟩ : Addr).add j = ⟨b, off + j, none⟩ := by unfold Addr.add; split <;> simp_all
        rw [e, hc j hj]
        simpa [hj] using hu
    obtain ⟨A', cap', w', hrun, h2, h3, -, h5⟩ := run_append_growR (P := Tryd.prog) w b0 b0 23 ty 5 i0 (.int .u8 0) 1 1 Tryd.underlying23 hi hz0 hz1 hz2 rfl (some ⟨g, 0, none⟩) xs.length xs.length _ hown ad ys.length c (ys.map (Value.int .u8)) (by simp) hcells (by intro u hu; simp at hu; obtain ⟨a, _, rfl⟩ := hu; rfl) (fun h => by cases h) (by unfold maxLen; omega) (by omega) (by have := hg.lt; omega) (Nat.le_refl _)
    have h4 : Own w' b0 A' cap' (xs ++ ys) := ⟨by rw [List.length_append, List.map_append]; exact h2, hbb⟩
    refine ⟨A', cap', w', hrun, h4, ?_⟩
    by_cases h0 : ys.length = 0
    · have hy : ys = [] := List.eq_nil_of_length_eq_zero h0
      subst hy
      exact growR_nil h3 _ _
    · exact growR_below (h5 (by omega))
end Go.Proofs.YtapednkmefbldaaDoor
