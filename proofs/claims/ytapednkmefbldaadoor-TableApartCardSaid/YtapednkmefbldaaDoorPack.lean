/- Contracts of package pack: Put, Take, PutInt, TakeInt. -/
import Derived.Test.YtapednkmefbldaaDoorNum
import Derived.Test.YtapednkmefbldaaDoorRow
import Derived.Laws.MakeOwn
namespace Go.Proofs.YtapednkmefbldaaDoor
open Go.RowKit

/-- The number n in k bytes, the highest first. -/
def be (n : Int) (k : Nat) : List Int := (List.range k).map fun i => n / 2 ^ (8 * (k - 1 - i)) % 256
def putCells (n : Int) (k i : Nat) : Array Value := ((List.range k).map fun j => Value.int .u8 (if j < i then n / 2 ^ (8 * (k - 1 - j)) % 256 else 0)).toArray


theorem putCells_size (n : Int) (k i : Nat) : (putCells n k i).size = k := by simp [putCells]
theorem putCells_at (n : Int) (k i : Nat) (h : i < k) : (putCells n k i)[i]? = some (.int .u8 0) := by
  simp [putCells, h]
theorem putCells_zero (n : Int) (k : Nat) : madeCells #[.int .u8 0] k = putCells n k 0 := by
  apply Array.ext
  · simp [madeCells, putCells]
  · intro i h1 h2
    simp [madeCells, putCells, Nat.mod_one]
theorem putCells_set (n : Int) (k i : Nat) (h : i < k) : (putCells n k i).setIfInBounds i (.int .u8 (n / 2 ^ (8 * (k - 1 - i)) % 256)) = putCells n k (i + 1) := by
  apply Array.ext
  · simp [putCells]
  · intro j h1 h2
    have hj : j < k := by simpa [putCells] using h2
    rw [Array.getElem_setIfInBounds (by simpa [putCells] using hj)]
    simp only [putCells, List.getElem_toArray, List.getElem_map, List.getElem_range]
    by_cases e : i = j
    · subst e; simp
    · rw [if_neg e]
      by_cases e2 : j < i
      · rw [if_pos e2, if_pos (by omega)]
      · rw [if_neg e2, if_neg (by omega)]
theorem putCells_all (n : Int) (k : Nat) : putCells n k k = ((be n k).map (Value.int .u8)).toArray := by
  unfold putCells be
  rw [List.map_map]
  congr 1
  apply List.map_congr_left
  intro j hj
  simp at hj
  simp [hj]
theorem run_makeBytes (n : Int) (k : Nat) (hk : k ≤ 1000) (W : World) :
    (Instr.makeSlice 23 (.int .i64 (k : Int)) (.int .i64 (k : Int))).run Tryd.prog W = .ok (.slice (some ⟨W.heap.size, 0, none⟩) k k) (W.alloc (.cells (putCells n k 0) 5)) := by
  obtain ⟨i0, hi, hz0, hz1, hz2⟩ := info_parts info_u8
  have h := run_make (P := Tryd.prog) W 23 5 i0 _ Tryd.underlying23 hi hz0 .i64 .i64 k k (by omega) (by omega) (by rw [hz2]; omega) (by omega)
  rw [h, hz1, Int.toNat_natCast, Nat.mul_one]
  have e : (Value.int IntKind.u8 0).cells = #[.int .u8 0] := rfl
  rw [e, putCells_zero n]

set_option maxRecDepth 100000 in
set_option maxHeartbeats 400000 in
theorem put_ok (n : Int) (k : Nat) (w : World) (h0 : 0 ≤ n) (h1 : n ≤ 18446744073709551615) (hk : k ≤ 8) (hn : n / 2 ^ (8 * k) = 0) :
    Calls Tryd.prog 54 #[.int .u64 n, .int .i64 k] w fun e w' => e = .returned (.tuple #[.slice (some ⟨w.heap.size, 0, none⟩) k k, .int .i64 0]) ∧ w.alloc (.cells ((be n k).map (Value.int .u8)).toArray 5) = w' := by
  have hmk := run_makeBytes n k (by omega)
  have hn' : (n / 2 ^ (8 * k) != 0) = false := by rw [hn]; rfl
  go_enter Tryd.func54, Tryd.ntmps54
  go_wp2
  clear hmk hn'
  go_loopw [24] (fun y wr => ∃ i : Nat, i ≤ k ∧ y = .int .i64 i ∧ wr = w.alloc (.cells (putCells n k i) 5)) (fun y _ => k - (intOf y).toNat)
  case atStart => exact ⟨0, by omega, rfl, rfl⟩
  case round =>
    obtain ⟨i, hi, rfl, rfl⟩ := hrel
    by_cases hlt : i < k
    · have hc := putCells_at n k i hlt
      have hs := putCells_size n k i
      have hp := putCells_set n k i hlt
      go_wp2
      go_roundw
      case rel => exact ⟨i + 1, by omega, by go_num, by first | rfl | rw [hp]⟩
      case measure => simp [intOf]; omega
    · obtain rfl : i = k := by omega
      have hp := putCells_all n i
      go_wp2
      go_ret2
      exact ⟨rfl, by first | rfl | rw [hp]⟩

set_option maxRecDepth 100000 in
set_option maxHeartbeats 400000 in
theorem put_bad (n k : Int) (w : World) (h0 : 0 ≤ n) (h1 : n ≤ 18446744073709551615) (hk0 : -9223372036854775808 ≤ k) (hk1 : k ≤ 9223372036854775807) (hb : k < 0 ∨ 8 < k ∨ (n / 2 ^ (8 * k).toNat != 0) = true) :
    Calls Tryd.prog 54 #[.int .u64 n, .int .i64 k] w fun e w' => e = .returned (.tuple #[.slice none 0 0, .int .i64 1]) ∧ w = w' := by
  by_cases c1 : k < 0
  · go_enter Tryd.func54, Tryd.ntmps54
    go_wp2
    go_ret2
    exact ⟨rfl, rfl⟩
  · by_cases c2 : 8 < k
    · go_enter Tryd.func54, Tryd.ntmps54
      go_wp2
      go_ret2
      exact ⟨rfl, rfl⟩
    · have hb' : (n / 2 ^ (8 * k).toNat != 0) = true := by
        rcases hb with h | h | h
        · omega
        · omega
        · exact h
      clear hb
      obtain ⟨j, rfl⟩ := Int.eq_ofNat_of_zero_le (show 0 ≤ k by omega)
      have hb'' : (n / 2 ^ (8 * j) != 0) = true := by
        have e : (8 * (j : Int)).toNat = 8 * j := by omega
        rw [e] at hb'; exact hb'
      clear hb'
      go_enter Tryd.func54, Tryd.ntmps54
      go_wp2
      go_ret2
      exact ⟨rfl, rfl⟩

def num (xs : List Int) : Int := xs.foldl (fun n x => n * 256 + x) 0
theorem num_snoc (xs : List Int) (x : Int) : num (xs ++ [x]) = num xs * 256 + x := by simp [num]
theorem num_take (xs : List Int) (i : Nat) (h : i < xs.length) : num (xs.take (i + 1)) = num (xs.take i) * 256 + xs[i] := by
  rw [List.take_succ_eq_append_getElem h, num_snoc]
theorem num_bd (xs : List Int) (h : ∀ x ∈ xs, 0 ≤ x ∧ x ≤ 255) (i : Nat) (hi : i ≤ xs.length) : 0 ≤ num (xs.take i) ∧ num (xs.take i) < 256 ^ i := by
  induction i with
  | zero => simp [num]
  | succ i ih =>
    have := ih (by omega)
    have hx := h xs[i] (List.getElem_mem _)
    rw [num_take xs i (by omega), Int.pow_succ]
    omega
theorem or_byte (n x : Int) (h0 : 0 ≤ n) (h1 : n < 72057594037927936) (x0 : 0 ≤ x) (x1 : x ≤ 255) : bits .or .u64 (n * 256) x = n * 256 + x := by
  obtain ⟨m, rfl⟩ := Int.eq_ofNat_of_zero_le h0
  obtain ⟨y, rfl⟩ := Int.eq_ofNat_of_zero_le x0
  have e : ((m : Int) * 256) = ((m * 256 : Nat) : Int) := by simp
  rw [e, u64_or_nat _ _ (by omega) (by omega), nat_join 8 _ _ (by omega) (by omega)]
  simp

theorem num_step (xs : List Int) (i : Nat) (h : i < xs.length) (h8 : xs.length ≤ 8) (nb : 0 ≤ num (xs.take i) ∧ num (xs.take i) < 256 ^ i) (hx : 0 ≤ xs[i] ∧ xs[i] ≤ 255) :
    bits .or .u64 (IntKind.u64.wrap (num (xs.take i) * 256)) xs[i] = num (xs.take (i + 1)) := by
  have hp : (256 : Int) ^ i ≤ 72057594037927936 := by
    have h1 : 256 ^ i ≤ 256 ^ 7 := Nat.pow_le_pow_right (by omega) (by omega)
    have h2 : (256 : Int) ^ i = ((256 ^ i : Nat) : Int) := by rw [Int.natCast_pow]; rfl
    rw [show (256 : Nat) ^ 7 = 72057594037927936 from by decide] at h1
    rw [h2]
    exact Int.ofNat_le.2 h1
  rw [num_take xs i h, IntWalk.u64_in _ (by omega), or_byte _ _ nb.1 (by omega) hx.1 hx.2]

set_option maxRecDepth 100000 in
set_option maxHeartbeats 400000 in
theorem take_ok (a : Option Addr) (xs : List Int) (c : Nat) (w : World) (hr : Row w a xs) (hl : xs.length ≤ 8) :
    Calls Tryd.prog 85 #[.slice a xs.length c] w fun e w' => e = .returned (.tuple #[.int .u64 (num xs), .int .i64 0]) ∧ w = w' := by
  obtain ⟨hr, hb⟩ := hr
  have NB := Lib.hid (num_bd xs hb)
  have HR := Lib.hid hr
  have HB := Lib.hid hb
  clear hr hb
  go_enter Tryd.func85, Tryd.ntmps85
  go_wp2
  go_loop [4, 11] (fun x y => ∃ i : Nat, i ≤ xs.length ∧ y = .int .i64 i ∧ x = .int .u64 (num (xs.take i))) (fun _ y => xs.length - (intOf y).toNat)
  case atStart => exact ⟨0, by omega, rfl, rfl⟩
  case round =>
    obtain ⟨i, hi, rfl, rfl⟩ := hrel
    by_cases hlt : i < xs.length
    · rcases HR.out with e | ⟨b, off, rfl, hc⟩
      · rw [e] at hlt; simp at hlt
      · have hc := hc i hlt
        have nb := NB.out i hi
        have hx := HB.out xs[i] (List.getElem_mem _)
        have STEP := Lib.hid (num_step xs i hlt hl nb hx)
        go_wp2
        go_round
        case rel => exact ⟨i + 1, by omega, by go_num, by rw [STEP.out]⟩
        case measure => simp [intOf]; omega
    · obtain rfl : i = xs.length := by omega
      rw [List.take_length]
      go_wp2
      go_ret2
      exact ⟨rfl, rfl⟩

set_option maxRecDepth 100000 in
set_option maxHeartbeats 400000 in
theorem take_bad (a : Option Addr) (n c : Nat) (w : World) (hl : 8 < n) (hm : n ≤ 9223372036854775807) :
    Calls Tryd.prog 85 #[.slice a n c] w fun e w' => e = .returned (.tuple #[.int .u64 0, .int .i64 1]) ∧ w = w' := by
  go_enter Tryd.func85, Tryd.ntmps85
  go_wp2
  go_ret2
  exact ⟨rfl, rfl⟩


/-- The number with a sign that two bytes are. -/
def sig (xs : List Int) : Int := if 32767 < num xs then num xs - 65536 else num xs
set_option maxRecDepth 100000 in
set_option maxHeartbeats 400000 in
theorem takeInt_ok (a : Option Addr) (xs : List Int) (c : Nat) (w : World) (hr : Row w a xs) (hl : xs.length = 2) :
    Calls Tryd.prog 84 #[.slice a 2 c] w fun e w' => e = .returned (.tuple #[.int .i64 (sig xs), .int .i64 0]) ∧ w = w' := by
  have h := take_ok a xs c w hr (by omega)
  rw [hl] at h
  have H := Lib.hid h
  have hb := num_bd xs hr.2 xs.length (by omega)
  rw [List.take_length, hl] at hb
  obtain ⟨hb1, hb2⟩ := hb
  have hb3 : num xs < 65536 := hb2
  clear h hr hl hb2
  go_enter Tryd.func84, Tryd.ntmps84
  go_wp2_with (go_at_call 85; refine (H.out).mono ?_; rintro e w' ⟨rfl, rfl⟩)
  all_goals
    go_ret2
    refine ⟨?_, rfl⟩
    unfold sig
    first | (rw [if_pos (by assumption)]; rfl) | (rw [if_neg (by omega)]; rfl)

set_option maxRecDepth 100000 in
set_option maxHeartbeats 400000 in
theorem takeInt_bad (a : Option Addr) (n c : Nat) (w : World) (hl : n ≠ 2) (hm : n ≤ 9223372036854775807) :
    Calls Tryd.prog 84 #[.slice a n c] w fun e w' => e = .returned (.tuple #[.int .i64 0, .int .i64 1]) ∧ w = w' := by
  have h : ((n : Int) != 2) = true := by simp; omega
  go_enter Tryd.func84, Tryd.ntmps84
  go_wp2
  go_ret2
  exact ⟨rfl, rfl⟩
end Go.Proofs.YtapednkmefbldaaDoor
