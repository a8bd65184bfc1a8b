/- '==' on arrays of integers. -/
import Derived.Test.YtapednkmefbldaaDoorRowW
import Derived.ChangeKeysEq
import Derived.Laws.StructEq
namespace Go.Proofs.YtapednkmefbldaaDoor
open Go.RowKit
namespace EqI

def mkc (n : Nat) (f : Nat → Value) : Array Value := ((List.range n).map f).toArray
def upd (f : Nat → Value) (j : Nat) (v : Value) : Nat → Value := fun x => if x = j then v else f x
@[simp] theorem mkc_size (n : Nat) (f : Nat → Value) : (mkc n f).size = n := by simp [mkc]
theorem mkc_get? (n : Nat) (f : Nat → Value) (i : Nat) : (mkc n f)[i]? = if i < n then some (f i) else none := by
  unfold mkc
  by_cases h : i < n
  · simp [h]
  · simp [h]
theorem mkc_get (n : Nat) (f : Nat → Value) (i : Nat) (h : i < (mkc n f).size) : (mkc n f)[i] = f i := by simp [mkc]
theorem mkc_set (n : Nat) (f : Nat → Value) (j : Nat) (v : Value) : (mkc n f).setIfInBounds j v = mkc n (upd f j v) := by
  apply Array.ext
  · simp [mkc]
  · intro i h1 h2
    have hi : i < n := by simpa [mkc] using h2
    rw [Array.getElem_setIfInBounds (by simpa [mkc] using hi), mkc_get, mkc_get]
    unfold upd
    by_cases e : j = i
    · subst e; simp
    · rw [if_neg e, if_neg (fun h => e h.symm)]
theorem mkc_of (cs : Array Value) (n : Nat) (h : cs.size = n) : cs = mkc n (fun i => cs.getD i undef) := by
  apply Array.ext
  · simp [mkc, h]
  · intro i h1 h2
    rw [mkc_get]; simp [h1]
theorem upd_same (f : Nat → Value) (j : Nat) (v : Value) : upd f j v j = v := by simp [upd]
theorem upd_other (f : Nat → Value) (j : Nat) (v : Value) (x : Nat) (h : x ≠ j) : upd f j v x = f x := by simp [upd, h]
attribute [go_sem] mkc_get? mkc_get mkc_size


section
variable {P : Program}
/-- a row of n integers -/
def mki (k : IntKind) (n : Nat) (f : Nat → Int) : Array Value := mkc n fun i => .int k (f i)
theorem mki_get? (k : IntKind) (n : Nat) (f : Nat → Int) (i : Nat) : (mki k n f)[i]? = if i < n then some (.int k (f i)) else none := mkc_get? _ _ _
theorem run_part_int {e : TypeId} {k : IntKind} (he : P.underlying e = some (.int k)) (cs : Array Value) (i : Nat) (v : Value) (hv : cs[i]? = some v) (W : World) : (part e cs i).run P W = .ok v W := by
  unfold part
  simp [isAgg, run_underlying he, hv]
theorem run_eqItems_ints {e : TypeId} {k : IntKind} (he : P.underlying e = some (.int k)) (d n : Nat) (f g : Nat → Int) (W : World) : ∀ (m j : Nat), j + m ≤ n →
    (Op.eqItems (d + 1) e 1 (mki k n f) (mki k n g) (List.range' j m)).run P W = .ok ((List.range' j m).all fun i => f i == g i) W
  | 0, j, _ => by
    simp only [List.range'_zero, Op.eqItems, Sem.run_pure, List.all_nil]
  | m + 1, j, h => by
    have p1 := run_part_int he (mki k n f) j _ (by rw [mki_get?, if_pos (by omega)]) W
    have p2 := run_part_int he (mki k n g) j _ (by rw [mki_get?, if_pos (by omega)]) W
    rw [List.range'_succ, List.all_cons]
    simp only [Op.eqItems, Sem.run_bind, Nat.mul_one, p1, p2, Result.andThen_ok, run_equalIn_int W d e k k _ _ he]
    cases hb : (f j == g j)
    · simp only [Bool.not_false, if_true, Sem.run_pure, Bool.false_and]
    · simp only [Bool.not_true, Bool.false_eq_true, if_false, Bool.true_and]
      exact run_eqItems_ints he d n f g W m (j + 1) (by omega)
/-- are two rows of n numbers the same -/
def eqn (n : Nat) (f g : Nat → Int) : Bool := (List.range n).all fun i => f i == g i
theorem eqn_iff {n : Nat} {f g : Nat → Int} : eqn n f g = true ↔ ∀ i, i < n → f i = g i := by
  unfold eqn
  simp
theorem run_eq_arr {t e : TypeId} {k : IntKind} {n : Nat} {i : TypeInfo} (hu : P.underlying t = some (.array n e)) (he : P.underlying e = some (.int k)) (hc : P.cellsOf e = 1) (hi : P.info? e = some i) (d : Nat) (f g : Nat → Int) (W : World) :
    (Op.equalIn (d + 1 + 1) t (.agg (mki k n f)) (.agg (mki k n g))).run P W = .ok (eqn n f g) W := by
  rw [run_equalIn_array W (d + 1) _ _ hu hi, hc, List.range_eq_range', run_eqItems_ints he d n f g W n 0 (by omega), eqn, List.range_eq_range']
end
theorem four_mki (x0 x1 x2 x3 : Int) : (#[.int .i64 x0, .int .i64 x1, .int .i64 x2, .int .i64 x3] : Array Value) = mki .i64 4 (fun i => if i = 0 then x0 else if i = 1 then x1 else if i = 2 then x2 else x3) := rfl
set_option maxRecDepth 100000 in
theorem info_int : ∃ i, Tryd.prog.info? 3 = some i := ⟨_, rfl⟩
set_option maxRecDepth 100000 in
theorem run_eq_four (x0 x1 x2 x3 y0 y1 y2 y3 : Int) (d : Nat) (W : World) :
    (Op.equalIn (d + 1 + 1) 59 (.agg #[.int .i64 x0, .int .i64 x1, .int .i64 x2, .int .i64 x3]) (.agg #[.int .i64 y0, .int .i64 y1, .int .i64 y2, .int .i64 y3])).run Tryd.prog W = .ok (decide (x0 = y0 ∧ x1 = y1 ∧ x2 = y2 ∧ x3 = y3)) W := by
  obtain ⟨i, hi⟩ := info_int
  rw [four_mki, four_mki, run_eq_arr Tryd.underlying59 Tryd.underlying3 (by kernel_rfl) hi]
  congr 1
  rw [Bool.eq_iff_iff, decide_eq_true_iff, eqn_iff]
  constructor
  · intro h
    exact ⟨h 0 (by omega), h 1 (by omega), h 2 (by omega), h 3 (by omega)⟩
  · rintro ⟨rfl, rfl, rfl, rfl⟩ i _
    rfl
set_option maxRecDepth 100000 in
theorem run_neq_four (x0 x1 x2 x3 y0 y1 y2 y3 : Int) (W : World) :
    (binOp .neq 59 (.agg #[.int .i64 x0, .int .i64 x1, .int .i64 x2, .int .i64 x3]) (.agg #[.int .i64 y0, .int .i64 y1, .int .i64 y2, .int .i64 y3])).run Tryd.prog W = .ok (.bool (!decide (x0 = y0 ∧ x1 = y1 ∧ x2 = y2 ∧ x3 = y3))) W := by
  have := run_eq_four x0 x1 x2 x3 y0 y1 y2 y3 9998 W
  simp [go_sem, this]
  done
end EqI
end Go.Proofs.YtapednkmefbldaaDoor
