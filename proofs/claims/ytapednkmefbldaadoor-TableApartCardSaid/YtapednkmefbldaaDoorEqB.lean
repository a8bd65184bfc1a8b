/- '==' on arrays of bytes. -/
import Derived.Test.YtapednkmefbldaaDoorMacT
import Derived.ChangeKeysEq
import Derived.Laws.StructEq
namespace Go.Proofs.YtapednkmefbldaaDoor
open Go.RowKit

section
variable {P : Program}
theorem run_eqItems_u8 {e : TypeId} (he : P.underlying e = some (.int .u8)) (d : Nat) (x y : List Int) (n : Nat) (hx : x.length = n) (hy : y.length = n) (W : World) : ∀ (m j : Nat), j + m ≤ n →
    (Op.eqItems (d + 1) e 1 (u8V x) (u8V y) (List.range' j m)).run P W = .ok ((List.range' j m).all fun i => x.getD i 0 == y.getD i 0) W
  | 0, j, _ => by
    simp only [List.range'_zero, Op.eqItems, Sem.run_pure, List.all_nil]
  | m + 1, j, h => by
    have p1 := run_part_int' he (u8V x) j _ (u8V_get x j (by omega)) W
    have p2 := run_part_int' he (u8V y) j _ (u8V_get y j (by omega)) W
    rw [List.range'_succ, List.all_cons]
    simp only [Op.eqItems, Sem.run_bind, Nat.mul_one, p1, p2, Result.andThen_ok, run_equalIn_int W d e .u8 .u8 _ _ he]
    cases hb : (x.getD j 0 == y.getD j 0)
    · simp only [Bool.not_false, if_true, Sem.run_pure, Bool.false_and]
    · simp only [Bool.not_true, Bool.false_eq_true, if_false, Bool.true_and]
      exact run_eqItems_u8 he d x y n hx hy W m (j + 1) (by omega)
theorem all_getD (x y : List Int) (n : Nat) (hx : x.length = n) (hy : y.length = n) : ((List.range n).all fun i => x.getD i 0 == y.getD i 0) = decide (x = y) := by
  rw [Bool.eq_iff_iff, decide_eq_true_iff, List.all_eq_true]
  constructor
  · intro h
    refine List.ext_getElem (by omega) fun i h1 h2 => ?_
    have := h i (by simp; omega)
    simpa [h1, h2] using this
  · rintro rfl i _
    simp
theorem run_eq_u8 {t e : TypeId} {n : Nat} {i : TypeInfo} (hu : P.underlying t = some (.array n e)) (he : P.underlying e = some (.int .u8)) (hc : P.cellsOf e = 1) (hi : P.info? e = some i) (d : Nat) (x y : List Int) (hx : x.length = n) (hy : y.length = n) (W : World) :
    (Op.equalIn (d + 1 + 1) t (.agg (u8V x)) (.agg (u8V y))).run P W = .ok (decide (x = y)) W := by
  rw [run_equalIn_array W (d + 1) _ _ hu hi, hc, List.range_eq_range', run_eqItems_u8 he d x y n hx hy W n 0 (by omega), ← List.range_eq_range', all_getD x y n hx hy]
end
theorem info_u8e : ∃ i, Tryd.prog.info? 5 = some i := by
  obtain ⟨i0, hi, -⟩ := info_parts info_u8
  exact ⟨i0, hi⟩
theorem eql_b32 (x y : List Int) (hx : x.length = 32) (hy : y.length = 32) (W : World) : (binOp .eql 22 (.agg (u8V x)) (.agg (u8V y))).run Tryd.prog W = .ok (.bool (decide (x = y))) W := by
  obtain ⟨i, hi⟩ := info_u8e
  have := run_eq_u8 Tryd.underlying22 Tryd.underlying5 (by kernel_rfl) hi 9998 x y hx hy W
  simp [go_sem, this]
theorem eql_b8 (x y : List Int) (hx : x.length = 8) (hy : y.length = 8) (W : World) : (binOp .eql 29 (.agg (u8V x)) (.agg (u8V y))).run Tryd.prog W = .ok (.bool (decide (x = y))) W := by
  obtain ⟨i, hi⟩ := info_u8e
  have := run_eq_u8 Tryd.underlying29 Tryd.underlying5 (by kernel_rfl) hi 9998 x y hx hy W
  simp [go_sem, this]
theorem eql_b32_self (x : List Int) (hx : x.length = 32) (W : World) : (binOp .eql 22 (.agg (u8V x)) (.agg (u8V x))).run Tryd.prog W = .ok (.bool true) W := by
  rw [eql_b32 x x hx hx, decide_eq_true rfl]
theorem eql_b8_self (x : List Int) (hx : x.length = 8) (W : World) : (binOp .eql 29 (.agg (u8V x)) (.agg (u8V x))).run Tryd.prog W = .ok (.bool true) W := by
  rw [eql_b8 x x hx hx, decide_eq_true rfl]
theorem one_nought (W : World) : Row (W.alloc (.cells #[.int .u8 0] 5)) (some ⟨W.heap.size, 0, none⟩) [0] := row_block' (heap_alloc_new _ _) rfl (by decide)
end Go.Proofs.YtapednkmefbldaaDoor
