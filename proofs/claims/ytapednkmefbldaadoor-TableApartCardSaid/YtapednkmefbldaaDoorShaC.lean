/- What the claims of the seat lean on: the listed table; what is cut to its first bytes. -/
import Derived.Test.YtapednkmefbldaaDoorShaL
import Derived.Test.YtapednkmefbldaaDoorLaid
import Derived.Test.YtapednkmefbldaaDoorRows
namespace Go.Proofs.YtapednkmefbldaaDoor
open Go.RowKit Go.WideShapes Go.ChangeShapes

theorem gRoots : Tryd.prog.globalNamed "sidestick/sha.roots" = some 0 := by kernel_rfl
theorem tRoots : (Tryd.prog.globals[0]?).map (·.type) = some 126 := by kernel_rfl
theorem laid_of {W : World} (h : laidMetH Tryd.prog [("sidestick/sha.roots", Rows.laid_sidestick_sha_roots)] W) : Roots W := by
  rw [MakeChecks.laidMetH_plain _ _ _ (by kernel_rfl)] at h
  obtain ⟨ps, ⟨g0, t0, cs0, f0, p0, q0, hg0, ht0, hv0, hd0, _, _⟩, _⟩ := h
  obtain rfl := Option.some.inj (gRoots.symm.trans hg0)
  obtain rfl := Option.some.inj (tRoots.symm.trans ht0)
  intro i hi
  have hcell := World.var?_cell hg0 hv0 i
  have hl : (rootsL.map fun n => (DataW.lit (.int .u32 n) : DataW Unit))[i]? = some (DataW.lit (.int .u32 (rootsL.getD i 0))) := by
    have : i < rootsL.length := hi
    simp [this]
  obtain ⟨m, c, q', h1, h2⟩ := arr_cells Tryd.underlying126 (by kernel_rfl) (by kernel_rfl) hd0 i _ hl
  obtain ⟨b, e1, e2, _⟩ := DataW.trod_int Tryd.underlying43 h2
  simp only [List.cons.injEq, and_true] at e1
  simp only [Prod.mk.injEq, DataW.lit.injEq, Lit.int.injEq] at e2
  rw [hcell, ← Array.getElem?_toList, h1, e1, ← e2.1.2]

/-- a slice of bytes that came in, cut to its first k -/
theorem few_of {f : FuncId} {k : Nat} {w : World} {v : Value} (hq : IsRow .u8 w v)
    (hf : ∀ (A : Option Addr) (n c : Nat) (w : World), n ≤ c → c ≤ 9223372036854775807 → Calls Tryd.prog f #[.slice A n c] w fun e w' => e = .returned (.slice A (min n k) c) ∧ w = w') :
    ∃ (A : Option Addr) (x : List Int) (n c : Nat), x.length = n ∧ n ≤ k ∧ n ≤ c ∧ c ≤ 9223372036854775807 ∧ Row w A x ∧ (A = none → c = 0) ∧ ∀ W, Calls Tryd.prog f #[v] W fun e w' => e = .returned (.slice A n c) ∧ W = w' := by
  obtain ⟨A, xs, cap, rfl, h1, h2, h3, h4⟩ := bytes_of_row hq
  refine ⟨A, xs.take k, min xs.length k, cap, by rw [List.length_take, Nat.min_comm], Nat.min_le_right _ _, Nat.le_trans (Nat.min_le_left _ _) h1, h2, row_take h3 k, h4, fun W => hf A xs.length cap W h1 h2⟩
end Go.Proofs.YtapednkmefbldaaDoor
