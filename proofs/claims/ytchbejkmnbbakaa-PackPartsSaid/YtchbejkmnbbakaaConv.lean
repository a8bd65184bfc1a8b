/- string(b) of a slice of bytes; the contracts of pack in a world that is a variable. -/
import Derived.Test.YtchbejkmnbbakaaBe
import Derived.Laws.BytesArg
import Derived.Deep.QuietTactic
import Derived.BigQuiet
namespace Go.Proofs.Ytchbejkmnbbakaa
open Go.RowKit

/-- 'string(b)', b a slice of the bytes xs. -/
theorem conv_row {W : World} {a : Option Addr} {xs : List Int} (n c : Nat) (hn : xs.length = n) (hr : Row W a xs) :
    (convert 23 9 (.slice a n c)).run Try.prog W = .ok (.string (strOfNums xs)) W := by
  subst hn
  obtain ⟨hr | ⟨b, off, rfl, hc⟩, _⟩ := hr
  · subst hr
    rcases a with _ | a
    · rw [run_convert_bytes_nil W _ _ Try.underlying23 Try.underlying5 _ _ _ Try.underlying9]; rfl
    · simp only [List.length_nil]
      rw [run_convert_bytes_string W _ _ _ _ _ _ Try.underlying23 Try.underlying5 Try.underlying9,
        run_bytesToString W a 0 c [] (run_loadCells_list W a [] (fun j v hj => by simp at hj))]
      rfl
  · exact run_convert_bytes_arg W _ _ Try.underlying23 Try.underlying5 b off xs.length c xs rfl (fun i hi => by rw [hc i hi]; simp [hi]) _ Try.underlying9
theorem row_block {W : World} {g : Nat} {t : TypeId} {xs : List Int} {cs : Array Value} (hg : W.heap[g]? = some (.cells cs t (0, 0))) (hc : cs = (xs.map (Value.int .u8)).toArray) (hb : ∀ x ∈ xs, 0 ≤ x ∧ x ≤ 255) :
    Row W (some ⟨g, 0, none⟩) xs := by
  subst hc
  refine ⟨.inr ⟨g, 0, rfl, fun i h => ?_⟩, hb⟩
  rw [cell_of_row W g (0 + i) _ t (0, 0) hg]
  simp [h]
theorem row_below {w w' : World} {a : Option Addr} {xs : List Int} (h : Row w a xs) (hb : Below w.heap.size w w') : Row w' a xs := by
  obtain ⟨h | ⟨b, off, rfl, hc⟩, h2⟩ := h
  · exact ⟨.inl h, h2⟩
  · exact ⟨.inr ⟨b, off, rfl, fun i hi => by rw [hb.cell (World.block_lt_of_cell? _ _ (hc i hi))]; exact hc i hi⟩, h2⟩
theorem below_next {B : Nat} {w w' w'' : World} (h : Below B w w') (k : Below w'.heap.size w' w'') (hB : B ≤ w.heap.size) : Below B w w'' :=
  h.trans (k.mono (Nat.le_trans hB h.size))

theorem below_drewN {B : Nat} {a w : World} (h : Below B a w) (n : Nat) : Below B a (w.drewN n) := ⟨h.os, h.tape, h.output, h.size, h.block⟩

theorem cell_box {w : World} {cs : Array Value} {t : TypeId} (i : Nat) : (w.alloc (.cells cs t)).cell? ⟨w.heap.size, i, none⟩ = cs[i]? := cell_of_row _ _ i cs t (0, 0) (heap_alloc_new w _)
theorem cell_boxed {w w' : World} {cs : Array Value} {t : TypeId} (hb : Below (w.alloc (.cells cs t)).heap.size (w.alloc (.cells cs t)) w') (i : Nat) : w'.cell? ⟨w.heap.size, i, none⟩ = cs[i]? :=
  (hb.cell (p := ⟨w.heap.size, i, none⟩) (by simp)).trans (cell_box i)
theorem below_box {w w' : World} {o : Obj} (hb : Below (w.alloc o).heap.size (w.alloc o) w') : Below w.heap.size w w' :=
  below_next ((Below.refl _ _).alloc (Nat.le_refl _) o) hb (Nat.le_refl _)
theorem row_drewN {W : World} {a : Option Addr} {xs : List Int} (h : Row W a xs) (q : Nat) : Row (W.drewN q) a xs := h
theorem conv_drewN {W : World} {a : Option Addr} {xs : List Int} (n c : Nat) (hn : xs.length = n) (hr : Row W a xs) :
    ∀ q, (convert 23 9 (.slice a n c)).run Try.prog (W.drewN q) = .ok (.string (strOfNums xs)) (W.drewN q) := fun q => conv_row n c hn (row_drewN hr q)
theorem put_row (n : Int) (k : Nat) (w : World) (h0 : 0 ≤ n) (h1 : n ≤ 18446744073709551615) (hk : k ≤ 8) (hn : n / 2 ^ (8 * k) = 0) :
    Calls Try.prog 22 #[.int .u64 n, .int .i64 k] w fun e w' => e = .returned (.tuple #[.slice (some ⟨w.heap.size, 0, none⟩) k k, .int .i64 0]) ∧ Row w' (some ⟨w.heap.size, 0, none⟩) (be n k) ∧ Below w.heap.size w w' :=
  (put_ok n k w h0 h1 hk hn).mono fun _ _ ⟨he, hw⟩ => ⟨he, by subst hw; exact row_block (heap_alloc_new w _) rfl (be_bytes n k), by subst hw; exact (Below.refl _ _).alloc (Nat.le_refl _) _⟩
theorem putInt_row (n : Int) (w : World) (h0 : -32768 ≤ n) (h1 : n ≤ 32767) :
    Calls Try.prog 23 #[.int .i64 n] w fun e w' => e = .returned (.tuple #[.slice (some ⟨w.heap.size, 0, none⟩) 2 2, .int .i64 0]) ∧ Row w' (some ⟨w.heap.size, 0, none⟩) (be (n % 65536) 2) ∧ Below w.heap.size w w' :=
  (putInt_ok n w h0 h1).mono fun _ _ ⟨he, hw⟩ => ⟨he, by subst hw; exact row_block (heap_alloc_new w _) rfl (be_bytes _ 2), by subst hw; exact (Below.refl _ _).alloc (Nat.le_refl _) _⟩

theorem take_row {a : Option Addr} {xs : List Int} {w : World} (n c : Nat) (hn : xs.length = n) (hr : Row w a xs) (hl : n ≤ 8) :
    Calls Try.prog 27 #[.slice a n c] w fun e w' => e = .returned (.tuple #[.int .u64 (num xs), .int .i64 0]) ∧ w = w' := by
  subst hn
  exact take_ok a xs c w hr hl
theorem row_tail {W : World} {g : Nat} {x : Int} {xs : List Int} (h : Row W (some ⟨g, 0, none⟩) (x :: xs)) : Row W (some ⟨g, 1, none⟩) xs := by
  obtain ⟨h | ⟨b, off, e, hc⟩, h2⟩ := h
  · simp at h
  · simp only [Option.some.injEq, Addr.mk.injEq] at e
    obtain ⟨rfl, rfl, -⟩ := e
    refine ⟨.inr ⟨g, 1, rfl, fun i hi => ?_⟩, fun y hy => h2 y (by simp [hy])⟩
    have := hc (i + 1) (by simp; omega)
    simpa [Nat.add_comm] using this
theorem row_first {W : World} {g : Nat} {x : Int} {xs : List Int} (h : Row W (some ⟨g, 0, none⟩) (x :: xs)) : W.cell? ⟨g, 0, none⟩ = some (.int .u8 x) := by
  obtain ⟨h | ⟨b, off, e, hc⟩, -⟩ := h
  · simp at h
  · simp only [Option.some.injEq, Addr.mk.injEq] at e
    obtain ⟨rfl, rfl, -⟩ := e
    exact hc 0 (by simp)
theorem row_empty (W : World) (a : Option Addr) : Row W a [] := ⟨.inl rfl, fun x hx => by simp at hx⟩

set_option maxRecDepth 100000 in
set_option maxHeartbeats 400000 in
theorem shown02 (w : World) : Calls Try.prog 21 #[] w fun e w' => e = .returned (.bool true) ∧ Below w.heap.size w w' := by
  have s1 : strOfNums (be 258 3) = ⟨#[0, 1, 2]⟩ := by decide
  have s2 : strOfNums (be (-2 % 65536) 2) = ⟨#[255, 254]⟩ := by decide
  go_enter Try.func21, Try.ntmps21
  go_wp2_with fail
  refine (put_row 258 3 w (by omega) (by omega) (by omega) (by decide)).mono ?_
  rintro e w1 ⟨rfl, r1, b1⟩
  go_wp2_with fail
  refine (putInt_row (-2) w1 (by omega) (by omega)).mono ?_
  rintro e w2 ⟨rfl, r2, b2⟩
  have c1 := conv_row 3 3 (by rfl) (row_below r1 b2)
  have c2 := conv_row 2 2 (by rfl) r2
  rw [s1] at c1
  rw [s2] at c2
  have B := Lib.hid (below_next b1 b2 (Nat.le_refl _))
  clear r1 r2 b1 b2 s1 s2
  go_wp2
  go_ret
  exact ⟨rfl, B.out⟩
end Go.Proofs.Ytchbejkmnbbakaa
