/- Windows: the cells, the head of chapter 10. -/
import Derived.Test.YtchbejkmnbbakaaWin
import Derived.Deep.RegionWith
import Derived.Deep.DeepCutAuto
namespace Go.Proofs.Ytchbejkmnbbakaa
open Go.RowKit

theorem row_u16 {w : World} {v : Value} (h : IsRow .u16 w v) : ∃ (A : Option Addr) (len cap : Nat) (z : Nat → Nat), v = .slice A len cap ∧ len ≤ 9223372036854775807 ∧
    ∀ i, i < len → ∃ b off, A = some ⟨b, off, none⟩ ∧ b < w.heap.size ∧ w.cell? ⟨b, off + i, none⟩ = some (.int .u16 (z i)) ∧ z i ≤ 65535 := by
  rcases h with rfl | ⟨x, len, cap, zs, rfl, hx, hl, hc, hz, hcell, hw⟩
  · exact ⟨none, 0, 0, fun _ => 0, rfl, by omega, fun i hi => by omega⟩
  · refine ⟨some x, len, cap, fun i => (zs.getD i 0).toNat, rfl, by omega, fun i hi => ?_⟩
    obtain ⟨hb, hs⟩ := hx (by omega)
    obtain ⟨b, off, spot⟩ := x
    simp at hs
    subst hs
    have h1 := hcell i (by omega)
    have e : (⟨b, off, none⟩ : Addr).add i = ⟨b, off + i, none⟩ := by unfold Addr.add; split <;> simp_all
    rw [e] at h1
    have hm : zs.getD i 0 ∈ zs := by
      rw [List.getD, List.getElem?_eq_getElem (by omega)]; exact List.getElem_mem _
    have h2 := hw _ hm
    have e1 : IntKind.u16.min = 0 := rfl
    have e2 : IntKind.u16.max = 65535 := rfl
    simp only [Lit.wf, Bool.and_eq_true, decide_eq_true_eq] at h2
    have e3 : (((zs.getD i 0).toNat : Nat) : Int) = zs.getD i 0 := Int.toNat_of_nonneg (by omega)
    have e4 : (zs.getD i 0).toNat ≤ 65535 := by omega
    exact ⟨b, off, rfl, hb, by rw [h1, e3], e4⟩

/-- the cells of a window -/
def wcells (v : Option (Nat × Nat)) : Array Value := match v with
  | none => #[.bool false, .int .i64 0, .int .u64 0]
  | some (h, s) => #[.bool true, .int .i64 h, .int .u64 s]
theorem wval_cells (v : Option (Nat × Nat)) : wval v = .agg (wcells v) := by rcases v with _ | ⟨h, s⟩ <;> rfl

set_option maxRecDepth 100000 in
set_option maxHeartbeats 400000 in
theorem shown10 (w : World) : Calls Try.prog 19 #[] w fun e w' => e = .returned (.bool true) ∧ Below w.heap.size w w' := by
  have e1 : wval (wsee none 5).1 = .agg #[.bool true, .int .i64 5, .int .u64 1] := rfl
  go_enter Try.func19, Try.ntmps19
  go_wp2_with fail
  refine (see_any none 5 _ trivial (by omega)).mono ?_
  rintro e w1 ⟨rfl, b1⟩
  rw [show wval (wsee none 5).1 = .agg #[.bool true, .int .i64 5, .int .u64 1] from rfl, show (wsee none 5).2 = true from rfl]
  go_wp2_with fail
  refine (see_any (some (5, 1)) 7 _ ⟨by omega, by omega⟩ (by omega)).mono ?_
  rintro e w2 ⟨rfl, b2⟩
  rw [show wval (wsee (some (5, 1)) 7).1 = .agg #[.bool true, .int .i64 7, .int .u64 5] from rfl, show (wsee (some (5, 1)) 7).2 = true from rfl]
  go_wp2_with fail
  refine (see_any (some (7, 5)) 6 _ ⟨by omega, by omega⟩ (by omega)).mono ?_
  rintro e w3 ⟨rfl, b3⟩
  rw [show wval (wsee (some (7, 5)) 6).1 = .agg #[.bool true, .int .i64 7, .int .u64 7] from rfl, show (wsee (some (7, 5)) 6).2 = true from rfl]
  obtain ⟨q2, z2⟩ := blk_one b2
  obtain ⟨q3, z3⟩ := blk_one b3
  obtain ⟨c3, -⟩ := blk_cells q3
  go_wp2_with fail
  refine (see_any (some (7, 5)) 7 _ ⟨by omega, by omega⟩ (by omega)).mono ?_
  rintro e w4 ⟨rfl, b4⟩
  rw [show wval (wsee (some (7, 5)) 7).1 = .agg #[.bool true, .int .i64 7, .int .u64 5] from rfl, show (wsee (some (7, 5)) 7).2 = false from rfl]
  obtain ⟨-, z4⟩ := blk_one b4
  have q4 := blk_below q3 (below_box b4)
  obtain ⟨c4, -⟩ := blk_cells q4
  have zz : w2.heap.size < w4.heap.size := by omega
  have B := Lib.hid (below_next (below_next (below_next b1 (below_box b2) (Nat.le_refl _)) (below_box b3) (Nat.le_refl _)) (below_box b4) (Nat.le_refl _))
  clear q2 q3 q4 c3 b1 b2 b3 b4
  go_wp2
  go_ret
  exact ⟨rfl, B.out.alloc (by have := B.out.size; omega) _⟩

theorem wcells_three (v : Option (Nat × Nat)) : ∃ x y z, wcells v = #[x, y, z] ∧ wval v = .agg #[x, y, z] := by
  rcases v with _ | ⟨h, s⟩
  · exact ⟨_, _, _, rfl, rfl⟩
  · exact ⟨_, _, _, rfl, rfl⟩

end Go.Proofs.Ytchbejkmnbbakaa
