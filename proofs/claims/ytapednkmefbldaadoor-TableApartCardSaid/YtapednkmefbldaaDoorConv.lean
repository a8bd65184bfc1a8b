/- string(b) of a slice of bytes; the contracts of pack in a world that is a variable. -/
import Derived.Test.YtapednkmefbldaaDoorBe
import Derived.Laws.BytesArg
import Derived.Deep.QuietTactic
import Derived.BigQuiet
namespace Go.Proofs.YtapednkmefbldaaDoor
open Go.RowKit

/-- 'string(b)', b a slice of the bytes xs. -/
theorem conv_row {W : World} {a : Option Addr} {xs : List Int} (n c : Nat) (hn : xs.length = n) (hr : Row W a xs) :
    (convert 23 9 (.slice a n c)).run Tryd.prog W = .ok (.string (strOfNums xs)) W := by
  subst hn
  obtain ⟨hr | ⟨b, off, rfl, hc⟩, _⟩ := hr
  · subst hr
    rcases a with _ | a
    · rw [run_convert_bytes_nil W _ _ Tryd.underlying23 Tryd.underlying5 _ _ _ Tryd.underlying9]; rfl
    · simp only [List.length_nil]
      rw [run_convert_bytes_string W _ _ _ _ _ _ Tryd.underlying23 Tryd.underlying5 Tryd.underlying9,
        run_bytesToString W a 0 c [] (run_loadCells_list W a [] (fun j v hj => by simp at hj))]
      rfl
  · exact run_convert_bytes_arg W _ _ Tryd.underlying23 Tryd.underlying5 b off xs.length c xs rfl (fun i hi => by rw [hc i hi]; simp [hi]) _ Tryd.underlying9


theorem conv_drewN {W : World} {a : Option Addr} {xs : List Int} (n c : Nat) (hn : xs.length = n) (hr : Row W a xs) :
    ∀ q, (convert 23 9 (.slice a n c)).run Tryd.prog (W.drewN q) = .ok (.string (strOfNums xs)) (W.drewN q) := fun q => conv_row n c hn (row_drewN hr q)
theorem put_row (n : Int) (k : Nat) (w : World) (h0 : 0 ≤ n) (h1 : n ≤ 18446744073709551615) (hk : k ≤ 8) (hn : n / 2 ^ (8 * k) = 0) :
    Calls Tryd.prog 54 #[.int .u64 n, .int .i64 k] w fun e w' => e = .returned (.tuple #[.slice (some ⟨w.heap.size, 0, none⟩) k k, .int .i64 0]) ∧ Row w' (some ⟨w.heap.size, 0, none⟩) (be n k) ∧ Below w.heap.size w w' :=
  (put_ok n k w h0 h1 hk hn).mono fun _ _ ⟨he, hw⟩ => ⟨he, by subst hw; exact row_block (heap_alloc_new w _) rfl (be_bytes n k), by subst hw; exact (Below.refl _ _).alloc (Nat.le_refl _) _⟩

theorem take_row {a : Option Addr} {xs : List Int} {w : World} (n c : Nat) (hn : xs.length = n) (hr : Row w a xs) (hl : n ≤ 8) :
    Calls Tryd.prog 85 #[.slice a n c] w fun e w' => e = .returned (.tuple #[.int .u64 (num xs), .int .i64 0]) ∧ w = w' := by
  subst hn
  exact take_ok a xs c w hr hl
theorem row_tail {W : World} {g : Nat} {x : Int} {xs : List Int} (h : Row W (some ⟨g, 0, none⟩) (x :: xs)) : Row W (some ⟨g, 1, none⟩) xs := by
  obtain ⟨h | ⟨b, off, e, hc⟩, h2⟩ := h
  · simp at h
  · simp only [Option.some.injEq, Addr.mk.injEq] at e
    obtain ⟨rfl, rfl, -⟩ := e
    refine ⟨.inr ⟨g, 1, rfl, fun i hi => ?_⟩, fun y hy => h2 y (by simp [hy])⟩
    have := hc (i + 1) (by simp; omega)
    simpa [Nat.add_comm] using this
theorem row_first {W : World} {g : Nat} {x : Int} {xs : List Int} (h : Row W (some ⟨g, 0, none⟩) (x :: xs)) : W.cell? ⟨g, 0, none⟩ = some (.int .u8 x) := by
  obtain ⟨h | ⟨b, off, e, hc⟩, -⟩ := h
  · simp at h
  · simp only [Option.some.injEq, Addr.mk.injEq] at e
    obtain ⟨rfl, rfl, -⟩ := e
    exact hc 0 (by simp)

end Go.Proofs.YtapednkmefbldaaDoor
