/- seal.as, seal.join, seal.login. -/
import Derived.Test.YtapednkmefbldaaDoorMacT
import Derived.Test.YtapednkmefbldaaDoorConv
import Derived.Test.YtapednkmefbldaaDoorStep
namespace Go.Proofs.YtapednkmefbldaaDoor
open Go.RowKit

theorem mask_any (n : Int) (k : Nat) (m : Int) (hk : k ≤ 63) (hm : IntKind.u64.wrap (IntKind.u64.wrap (2 ^ k) - 1) = m) (hd : (2 : Int) ^ k ∣ 18446744073709551616) : bits .and .u64 (IntKind.u64.wrap n) m = n % 2 ^ k := by
  have e : IntKind.u64.wrap n = n % 18446744073709551616 := by unfold IntKind.wrap; rfl
  rw [e, ← hm, u64_mask k hk _ (by omega) (by omega)]
  exact Int.emod_emod_of_dvd n hd
theorem mask8 (n : Int) : bits .and .u64 (IntKind.u64.wrap n) 255 = n % 256 := mask_any n 8 255 (by omega) (by decide) (by decide)
theorem mask32 (n : Int) : bits .and .u64 (IntKind.u64.wrap n) 4294967295 = n % 4294967296 := mask_any n 32 4294967295 (by omega) (by decide) (by decide)
set_option maxRecDepth 100000 in
set_option maxHeartbeats 400000 in
theorem sjoin_any (g m c : Nat) (cs : Array Value) (ps : List (List Int)) (w : World) (hm : ps.length = m) (hk : Blk w g cs 23) (hp : Parts w cs ps) (hs : ps.flatten.length ≤ 100000000) (hm2 : m ≤ 1000) :
    Calls Tryd.prog 37 #[.slice (some ⟨g, 0, none⟩) m c] w fun e w' => (∃ A d, e = .returned (.slice A ps.flatten.length d) ∧ Own w' w.heap.size A d ps.flatten) ∧ Below w.heap.size w w' := by
  have HM := Lib.hid hm
  have HK := Lib.hid hk
  have HP := Lib.hid hp
  have HS := Lib.hid hs
  clear hm hk hp hs
  go_enter Tryd.func37, Tryd.ntmps37
  go_wp2_with fail
  go_loopw [3, 8] (fun x y wr => ∃ (i : Nat) (A : Option Addr) (d n : Nat), i ≤ m ∧ y = .int .i64 i ∧ x = .slice A n d ∧ (ps.take i).flatten.length = n ∧ Own wr w.heap.size A d (ps.take i).flatten ∧ Below w.heap.size w wr) (fun _ y _ => m - (intOf y).toNat)
  case atStart => exact ⟨0, none, 0, 0, by omega, rfl, rfl, rfl, own_nil _ _, Below.refl _ _⟩
  case round =>
    obtain ⟨i, A, d, n, hi, rfl, rfl, hn, ho, BB⟩ := hrel
    by_cases hlt : i < m
    · have hil : i < ps.length := by rw [HM.out]; exact hlt
      obtain ⟨B, c2, e2, r2⟩ := HP.out.2 i hil
      have ck := (HK.out.below BB).cell i
      rw [e2] at ck
      have hst : (ps.take (i + 1)).flatten = (ps.take i).flatten ++ ps[i] := by rw [List.take_succ_eq_append_getElem hil, List.flatten_append, List.flatten_cons, List.flatten_nil, List.append_nil]
      have hle : (ps.take (i + 1)).flatten.length ≤ 100000000 := by
        have h1 := HS.out
        have h2 : ps.flatten = (ps.take (i + 1)).flatten ++ (ps.drop (i + 1)).flatten := by rw [← List.flatten_append, List.take_append_drop]
        rw [h2, List.length_append] at h1
        omega
      rw [hst, List.length_append] at hle
      have r3 := row_below r2 BB
      generalize hxs : ps[i] = xs at *
      generalize hys : (ps.take i).flatten = ys at *
      obtain ⟨k, hk⟩ : ∃ k, xs.length = k := ⟨_, rfl⟩
      rw [hk] at ck hle
      rw [hn] at hle
      have HN2 := Lib.hid hn
      have HK2 := Lib.hid hk
      have HO2 := Lib.hid ho
      have BB2 := Lib.hid BB
      have R3 := Lib.hid r3
      have HST := Lib.hid hst
      clear hn hk ho BB r3 r2 e2 hst hxs hys
      go_wp2_with ((at_builtin; refine wpList_append_bytes _ rfl (.tmp 12) (.tmp 13) rfl w.heap.size A d n ys HN2.out rfl HO2.out B c2 k xs HK2.out rfl R3.out (by omega) BB2.out.size ?_; intro A1 cap1 w4 o1 b4))
      exact ⟨⟨i + 1, A1, cap1, n + k, by omega, by simp, rfl, by rw [HST.out, List.length_append, HN2.out, HK2.out], by rw [HST.out]; exact o1, BB2.out.trans b4⟩, by simp [intOf]; omega⟩
    · obtain rfl : i = m := by omega
      rw [List.take_of_length_le (by rw [HM.out]; omega)] at ho hn
      subst hn
      have HO2 := Lib.hid ho
      have BB2 := Lib.hid BB
      clear ho BB
      go_wp2_with fail
      go_ret
      exact ⟨⟨_, _, rfl, HO2.out⟩, BB2.out⟩

theorem parts_of {w : World} {cs : Array Value} {ps : List (List Int)} (h : cs.size = ps.length) (hp : ∀ i, (hi : i < ps.length) → ∃ A c, cs[i]? = some (.slice A ps[i].length c) ∧ Row w A ps[i]) : Parts w cs ps := ⟨h, hp⟩
theorem parts_one {w : World} {A : Option Addr} {n c : Nat} {x : List Int} (hn : x.length = n) (hx : Row w A x) : Parts w #[.slice A n c] [x] := by
  subst hn
  refine ⟨rfl, fun i hi => ?_⟩
  match i, hi with
  | 0, _ => exact ⟨A, c, rfl, hx⟩
theorem parts_three {w : World} {A B C : Option Addr} {n m k c d e : Nat} {x y z : List Int} (hn : x.length = n) (hm : y.length = m) (hk : z.length = k) (hx : Row w A x) (hy : Row w B y) (hz : Row w C z) : Parts w #[.slice A n c, .slice B m d, .slice C k e] [x, y, z] := by
  subst hn hm hk
  refine ⟨rfl, fun i hi => ?_⟩
  match i, hi with
  | 0, _ => exact ⟨A, c, rfl, hx⟩
  | 1, _ => exact ⟨B, d, rfl, hy⟩
  | 2, _ => exact ⟨C, e, rfl, hz⟩
theorem parts_four {w : World} {A B C D : Option Addr} {n m k l c d e f : Nat} {x y z u : List Int} (hn : x.length = n) (hm : y.length = m) (hk : z.length = k) (hl : u.length = l) (hx : Row w A x) (hy : Row w B y) (hz : Row w C z) (hu : Row w D u) : Parts w #[.slice A n c, .slice B m d, .slice C k e, .slice D l f] [x, y, z, u] := by
  subst hn hm hk hl
  refine ⟨rfl, fun i hi => ?_⟩
  match i, hi with
  | 0, _ => exact ⟨A, c, rfl, hx⟩
  | 1, _ => exact ⟨B, d, rfl, hy⟩
  | 2, _ => exact ⟨C, e, rfl, hz⟩
  | 3, _ => exact ⟨D, f, rfl, hu⟩

set_option maxRecDepth 100000 in
set_option maxHeartbeats 400000 in
theorem as_one (n : Int) (w : World) :
    Calls Tryd.prog 38 #[.int .i64 n, .int .i64 1] w fun e w' => (∃ g, e = .returned (.slice (some ⟨g, 0, none⟩) 1 1) ∧ Row w' (some ⟨g, 0, none⟩) (be (n % 256) 1)) ∧ Below w.heap.size w w' := by
  have h1 := mask8 n
  have hp : Calls Tryd.prog 54 #[.int .u64 (n % 256), .int .i64 1] w fun e w' => e = .returned (.tuple #[.slice (some ⟨w.heap.size, 0, none⟩) 1 1, .int .i64 0]) ∧ Row w' (some ⟨w.heap.size, 0, none⟩) (be (n % 256) 1) ∧ Below w.heap.size w w' := put_row (n % 256) 1 w (by omega) (by omega) (by omega) (by show n % 256 / 256 = 0; omega)
  generalize be (n % 256) 1 = b at *
  generalize n % 256 = m at *
  replace hp := Lib.hid hp
  go_enter Tryd.func38, Tryd.ntmps38
  go_wp2_with fail
  ((with_reducible refine hp.out.mono ?_))
  rintro e w1 ⟨rfl, r1, b1⟩
  replace r1 := Lib.hid r1
  replace b1 := Lib.hid b1
  clear hp h1
  go_wp2_with fail
  go_ret
  exact ⟨⟨_, rfl, r1.out⟩, b1.out⟩
set_option maxRecDepth 100000 in
set_option maxHeartbeats 400000 in
theorem as_four (n : Int) (w : World) :
    Calls Tryd.prog 38 #[.int .i64 n, .int .i64 4] w fun e w' => (∃ g, e = .returned (.slice (some ⟨g, 0, none⟩) 4 4) ∧ Row w' (some ⟨g, 0, none⟩) (be (n % 4294967296) 4)) ∧ Below w.heap.size w w' := by
  have h1 := mask32 n
  have hp : Calls Tryd.prog 54 #[.int .u64 (n % 4294967296), .int .i64 4] w fun e w' => e = .returned (.tuple #[.slice (some ⟨w.heap.size, 0, none⟩) 4 4, .int .i64 0]) ∧ Row w' (some ⟨w.heap.size, 0, none⟩) (be (n % 4294967296) 4) ∧ Below w.heap.size w w' := put_row (n % 4294967296) 4 w (by omega) (by omega) (by omega) (by show n % 4294967296 / 4294967296 = 0; omega)
  generalize be (n % 4294967296) 4 = b at *
  generalize n % 4294967296 = m at *
  replace hp := Lib.hid hp
  go_enter Tryd.func38, Tryd.ntmps38
  go_wp2_with fail
  ((with_reducible refine hp.out.mono ?_))
  rintro e w1 ⟨rfl, r1, b1⟩
  replace r1 := Lib.hid r1
  replace b1 := Lib.hid b1
  clear hp h1
  go_wp2_with fail
  go_ret
  exact ⟨⟨_, rfl, r1.out⟩, b1.out⟩
end Go.Proofs.YtapednkmefbldaaDoor
