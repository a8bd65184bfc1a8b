/- What the listed tables hold, both of them. -/
import Derived.Test.YtclmichaaiohjaaGreatDoorRows
import Derived.Test.YtclmichaaiohjaaGreatDoorR14
import Derived.LaidMore
import Derived.ProofKit
namespace Go.Proofs.YtclmichaaiohjaaGreatDoor
open Go.RowKit Go.WideShapes Go.ChangeShapes
set_option linter.unusedVariables false

theorem laidArr {H : Type} {enc : TypeId × Value → H} {P : Program} {w : World} {t e : TypeId} {n fuel : Nat} {sp : Nat → Bool} {held : Bool} {cs : List Value} {ds : List (DataW H)} {q : List MemPlace}
    (ht : P.underlying t = some (.array n e)) (hc : P.cellsOf e = 1) (hcn : P.cellsOf t = n) (h : DataW.trod enc P w 0 sp held fuel t cs = some (.agg ds, q)) :
    ∀ (i : Nat) d, ds[i]? = some d → ∃ m c q', cs[i]? = some c ∧ DataW.trod enc P w 0 sp held m e [c] = some (d, q') := by
  obtain ⟨xs, m, hm, hx, hl, hn, hel⟩ := DataW.trod_array ht h
  intro i d hd
  simp only [Prod.mk.injEq, DataW.agg.injEq] at hx
  have hx1 := hx.1
  rw [hx1] at hd
  have hi : i < xs.length := by
    rcases Nat.lt_or_ge i xs.length with h | h
    · exact h
    · rw [List.getElem?_eq_none (by simpa using h)] at hd; cases hd
  have h1 := hel i (by omega)
  rw [hc] at h1
  rw [List.getElem?_eq_getElem hi] at h1
  have hi2 : i < cs.length := by omega
  have e1 : (cs.drop (i * 1)).take 1 = [cs[i]] := by
    rw [Nat.mul_one, List.drop_eq_getElem_cons hi2]; rfl
  rw [e1] at h1
  have : xs[i].1 = d := by simpa [hi] using hd
  exact ⟨m, cs[i], xs[i].2, by simp [hi2], by rw [h1, ← this]⟩
theorem laidG0 : Tryz.prog.globalNamed "sidestick/gate.commands" = some 1 := by kernel_rfl
theorem laidT0 : (Tryz.prog.globals[1]?).map (·.type) = some 279 := by kernel_rfl
theorem laidG1 : Tryz.prog.globalNamed "sidestick/sha.roots" = some 0 := by kernel_rfl
theorem laidT1 : (Tryz.prog.globals[0]?).map (·.type) = some 250 := by kernel_rfl
set_option maxRecDepth 100000 in
theorem laid2 {W : World} (h : laidMetH Tryz.prog [("sidestick/gate.commands", Rows.laid_sidestick_gate_commands), ("sidestick/sha.roots", Rows.laid_sidestick_sha_roots)] W) : JP W ∧ ZI W := by
  rw [MakeChecks.laidMetH_plain _ _ _ (by kernel_rfl)] at h
  obtain ⟨ps, ⟨g0, t0, cs0, f0, p0, q0, hg0, ht0, hv0, hd0, ⟨g1, t1, cs1, f1, p1, q1, hg1, ht1, hv1, hd1, -⟩, -⟩, -⟩ := h
  obtain rfl := Option.some.inj (laidG0.symm.trans hg0)
  obtain rfl := Option.some.inj (laidT0.symm.trans ht0)
  obtain rfl := Option.some.inj (laidG1.symm.trans hg1)
  obtain rfl := Option.some.inj (laidT1.symm.trans ht1)
  refine ⟨fun i hi => ?_, fun i hi => ?_⟩
  · have hcell := World.var?_cell hg1 hv1 i
    have hl : (kC.map fun n => (DataW.lit (.int .u32 n) : DataW Unit))[i]? = some (DataW.lit (.int .u32 (kC.getD i 0))) := by
      have : i < kC.length := hi
      simp [this]
    obtain ⟨m, c, q', h1, h2⟩ := laidArr Tryz.underlying250 (by kernel_rfl) (by kernel_rfl) hd1 i _ hl
    obtain ⟨b, e1, e2, _⟩ := DataW.trod_int Tryz.underlying210 h2
    simp only [List.cons.injEq, and_true] at e1
    simp only [Prod.mk.injEq, DataW.lit.injEq, Lit.int.injEq] at e2
    rw [hcell, ← Array.getElem?_toList, h1, e1, ← e2.1.2]
  · have hcell := World.var?_cell hg0 hv0 i
    have hl : ∀ j : Fin 12, ([.lit (.bool false), .lit (.bool false), .lit (.bool false), .lit (.bool false), .lit (.bool false), .lit (.bool false), .lit (.bool false), .lit (.bool false), .lit (.bool false), .lit (.bool false), .lit (.bool true), .lit (.bool true)] : List (DataW Unit))[j.1]? = some (.lit (.bool (j.1 == 10 || j.1 == 11))) := by
      intro ⟨j, hj⟩
      rcases (show j = 0 ∨ j = 1 ∨ j = 2 ∨ j = 3 ∨ j = 4 ∨ j = 5 ∨ j = 6 ∨ j = 7 ∨ j = 8 ∨ j = 9 ∨ j = 10 ∨ j = 11 by omega) with rfl | rfl | rfl | rfl | rfl | rfl | rfl | rfl | rfl | rfl | rfl | rfl <;> rfl
    obtain ⟨m, c, q', h1, h2⟩ := laidArr Tryz.underlying279 (by kernel_rfl) (by kernel_rfl) hd0 i _ (hl ⟨i, hi⟩)
    obtain ⟨b, e1, e2⟩ := DataW.trod_bool Tryz.underlying4 h2
    simp only [List.cons.injEq, and_true] at e1
    simp only [Prod.mk.injEq, DataW.lit.injEq, Lit.bool.injEq] at e2
    rw [hcell, ← Array.getElem?_toList, h1, e1, ← e2.1]
end Go.Proofs.YtclmichaaiohjaaGreatDoor
