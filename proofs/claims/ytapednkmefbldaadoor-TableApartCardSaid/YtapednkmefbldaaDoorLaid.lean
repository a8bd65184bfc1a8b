/- What a listed array of plain cells holds. -/
import Derived.Test.YtapednkmefbldaaDoorRow
import Derived.LaidMore
import Derived.ProofKit
namespace Go.Proofs.YtapednkmefbldaaDoor
open Go.RowKit Go.WideShapes Go.ChangeShapes

theorem arr_cells {H : Type} {enc : TypeId × Value → H} {P : Program} {w : World} {t e : TypeId} {n fuel : Nat} {sp : Nat → Bool} {held : Bool} {cs : List Value} {ds : List (DataW H)} {q : List MemPlace}
    (ht : P.underlying t = some (.array n e)) (hc : P.cellsOf e = 1) (hcn : P.cellsOf t = n) (h : DataW.trod enc P w 0 sp held fuel t cs = some (.agg ds, q)) :
    ∀ (i : Nat) d, ds[i]? = some d → ∃ m c q', cs[i]? = some c ∧ DataW.trod enc P w 0 sp held m e [c] = some (d, q') := by
  obtain ⟨xs, m, hm, hx, hl, hn, hel⟩ := DataW.trod_array ht h
  intro i d hd
  simp only [Prod.mk.injEq, DataW.agg.injEq] at hx
  have hx1 := hx.1
  rw [hx1] at hd
  have hi : i < xs.length := by
    rcases Nat.lt_or_ge i xs.length with h | h
    · exact h
    · rw [List.getElem?_eq_none (by simpa using h)] at hd; cases hd
  have h1 := hel i (by omega)
  rw [hc] at h1
  rw [List.getElem?_eq_getElem hi] at h1
  have hi2 : i < cs.length := by omega
  have e1 : (cs.drop (i * 1)).take 1 = [cs[i]] := by
    rw [Nat.mul_one, List.drop_eq_getElem_cons hi2]; rfl
  rw [e1] at h1
  have : xs[i].1 = d := by simpa [hi] using hd
  exact ⟨m, cs[i], xs[i].2, by simp [hi2], by rw [h1, ← this]⟩
end Go.Proofs.YtapednkmefbldaaDoor
