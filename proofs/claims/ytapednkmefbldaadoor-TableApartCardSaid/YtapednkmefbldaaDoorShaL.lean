/- The heads of the laws of chapter 4. -/
import Derived.Test.YtapednkmefbldaaDoorShaS
import Derived.Test.YtapednkmefbldaaDoorOpen
import Derived.Lib.SlBytesConst
namespace Go.Proofs.YtapednkmefbldaaDoor
open Go.RowKit

theorem row_block' {W : World} {g : Nat} {t : TypeId} {fr : Nat × Nat} {xs : List Int} {cs : Array Value} (hg : W.heap[g]? = some (.cells cs t fr)) (hc : cs = (xs.map (Value.int .u8)).toArray) (hb : ∀ x ∈ xs, 0 ≤ x ∧ x ≤ 255) :
    Row W (some ⟨g, 0, none⟩) xs := by
  subst hc
  refine ⟨.inr ⟨g, 0, rfl, fun i h => ?_⟩, hb⟩
  rw [cell_of_row W g (0 + i) _ t fr hg]
  simp [h]
theorem bytes_of_row {w : World} {v : Value} (h : IsRow .u8 w v) : IsBytes w v := by
  rcases h with rfl | ⟨x, len, cap, zs, rfl, hx, hl, hc, hz, hcell, hw⟩
  · exact ⟨none, [], 0, rfl, by simp, by simp, row_empty _ _, fun _ => rfl⟩
  · have hlen : (zs.take len).length = len := by rw [List.length_take]; omega
    refine ⟨some x, zs.take len, cap, by rw [hlen], by omega, by omega, ⟨?_, fun y hy => byte_of_wf (hw y (List.mem_of_mem_take hy))⟩, fun h => by cases h⟩
    rcases Nat.eq_zero_or_pos cap with h0 | h0
    · left
      exact List.eq_nil_of_length_eq_zero (by omega)
    · right
      obtain ⟨hb, hs⟩ := hx h0
      obtain ⟨b, off, spot⟩ := x
      simp at hs
      subst hs
      refine ⟨b, off, rfl, fun i hi => ?_⟩
      have hi' : i < len := by omega
      have := hcell i (by omega)
      rw [Addr.add_mid] at this
      rw [this]
      simp [List.getElem_take, List.getD, List.getElem?_eq_getElem (show i < zs.length by omega)]

end Go.Proofs.YtapednkmefbldaaDoor
