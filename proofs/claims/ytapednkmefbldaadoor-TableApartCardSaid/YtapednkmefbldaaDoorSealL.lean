/- The heads of the laws of chapter 9; openers. -/
import Derived.Test.YtapednkmefbldaaDoorSealC
import Derived.Test.YtapednkmefbldaaDoorEqB
namespace Go.Proofs.YtapednkmefbldaaDoor
open Go.RowKit

set_option maxRecDepth 100000 in
set_option maxHeartbeats 400000 in
theorem few09 (A : Option Addr) (n c : Nat) (w : World) (h1 : n ≤ c) (h2 : c ≤ 9223372036854775807) :
    Calls Tryd.prog 11 #[.slice A n c] w fun e w' => e = .returned (.slice A (min n 60) c) ∧ w = w' := by
  by_cases h : n ≤ 60
  · have e : min n 60 = n := Nat.min_eq_left h
    have ei : min (n : Int) 60 = (n : Int) := by omega
    rw [e]
    clear e
    go_enter Tryd.func11, Tryd.ntmps11
    go_wp2_with fail
    go_ret
    exact ⟨rfl, rfl⟩
  · have e : min n 60 = 60 := Nat.min_eq_right (by omega)
    have ei : min (n : Int) 60 = 60 := by omega
    have hk : 60 ≤ c := by omega
    rw [e]
    clear e
    go_enter Tryd.func11, Tryd.ntmps11
    go_wp2_with fail
    go_ret
    exact ⟨rfl, rfl⟩
set_option maxRecDepth 100000 in
set_option maxHeartbeats 400000 in
theorem few15 (A : Option Addr) (n c : Nat) (w : World) (h1 : n ≤ c) (h2 : c ≤ 9223372036854775807) :
    Calls Tryd.prog 20 #[.slice A n c] w fun e w' => e = .returned (.slice A (min n 60) c) ∧ w = w' := by
  by_cases h : n ≤ 60
  · have e : min n 60 = n := Nat.min_eq_left h
    have ei : min (n : Int) 60 = (n : Int) := by omega
    rw [e]
    clear e
    go_enter Tryd.func20, Tryd.ntmps20
    go_wp2_with fail
    go_ret
    exact ⟨rfl, rfl⟩
  · have e : min n 60 = 60 := Nat.min_eq_right (by omega)
    have ei : min (n : Int) 60 = 60 := by omega
    have hk : 60 ≤ c := by omega
    rw [e]
    clear e
    go_enter Tryd.func20, Tryd.ntmps20
    go_wp2_with fail
    go_ret
    exact ⟨rfl, rfl⟩

theorem own_cap {w : World} {base : Nat} {A : Option Addr} {cap : Nat} {xs : List Int} (h : Own w base A cap xs) : xs.length ≤ cap := by
  rcases h.1.2 with ⟨hv, hn⟩ | ⟨g, cap', cur, hv, hg, hh, hl, hm, hs, ht⟩
  · injection hv with h1 h2 h3; omega
  · injection hv with h1 h2 h3; omega
set_option maxRecDepth 100000 in
theorem flat_b8 (v : Value) (w : World) (base : Nat) (h : Value.okWide Tryd.prog w .any base 29 v) : ∃ l : List Int, v = .agg (u8V l) ∧ l.length = 8 ∧ ∀ x ∈ l, 0 ≤ x ∧ x ≤ 255 := by
  obtain ⟨cs, rfl, hs, hc⟩ := flat (ts := List.replicate 8 5) (.inr ⟨_, _, Tryd.underlying29⟩) (by kernel_rfl) (by kernel_rfl) h
  have hs2 : cs.size = 8 := by simpa using hs
  have key : ∀ i (hi : i < 8), ∃ n : Int, cs[i]? = some (.int .u8 n) ∧ 0 ≤ n ∧ n ≤ 255 := by
    intro i hi
    obtain ⟨n, e, n0, n1⟩ := opn_u8 Tryd.underlying5 (hc i 5 (cs[i]'(by omega)) (by rw [List.getElem?_replicate, if_pos hi]) (Array.getElem?_eq_getElem (by omega)))
    exact ⟨n, by rw [Array.getElem?_eq_getElem (by omega), e], n0, n1⟩
  let f : Nat → Int := fun i => match cs[i]? with
    | some (.int _ n) => n
    | _ => 0
  have hf : ∀ i, i < 8 → cs[i]? = some (.int .u8 (f i)) ∧ 0 ≤ f i ∧ f i ≤ 255 := by
    intro i hi
    obtain ⟨n, e, n0, n1⟩ := key i hi
    have e2 : f i = n := by simp only [f, e]
    rw [e2]
    exact ⟨e, n0, n1⟩
  have ec : cs = u8V ((List.range 8).map f) := by
    apply Array.ext
    · rw [hs2]; simp [u8V]
    · intro i h1 h2
      have := (hf i (by omega)).1
      rw [Array.getElem?_eq_getElem h1] at this
      have h3 := Option.some.inj this
      rw [h3]
      simp [u8V]
  refine ⟨(List.range 8).map f, by rw [ec], by simp, ?_⟩
  intro x hx
  obtain ⟨i, hi, rfl⟩ := List.mem_map.1 hx
  have := List.mem_range.1 hi
  exact (hf i (by omega)).2
set_option maxRecDepth 100000 in
theorem flat_b32 (v : Value) (w : World) (base : Nat) (h : Value.okWide Tryd.prog w .any base 22 v) : ∃ l : List Int, v = .agg (u8V l) ∧ l.length = 32 ∧ ∀ x ∈ l, 0 ≤ x ∧ x ≤ 255 := by
  obtain ⟨cs, rfl, hs, hc⟩ := flat (ts := List.replicate 32 5) (.inr ⟨_, _, Tryd.underlying22⟩) (by kernel_rfl) (by kernel_rfl) h
  have hs2 : cs.size = 32 := by simpa using hs
  have key : ∀ i (hi : i < 32), ∃ n : Int, cs[i]? = some (.int .u8 n) ∧ 0 ≤ n ∧ n ≤ 255 := by
    intro i hi
    obtain ⟨n, e, n0, n1⟩ := opn_u8 Tryd.underlying5 (hc i 5 (cs[i]'(by omega)) (by rw [List.getElem?_replicate, if_pos hi]) (Array.getElem?_eq_getElem (by omega)))
    exact ⟨n, by rw [Array.getElem?_eq_getElem (by omega), e], n0, n1⟩
  let f : Nat → Int := fun i => match cs[i]? with
    | some (.int _ n) => n
    | _ => 0
  have hf : ∀ i, i < 32 → cs[i]? = some (.int .u8 (f i)) ∧ 0 ≤ f i ∧ f i ≤ 255 := by
    intro i hi
    obtain ⟨n, e, n0, n1⟩ := key i hi
    have e2 : f i = n := by simp only [f, e]
    rw [e2]
    exact ⟨e, n0, n1⟩
  have ec : cs = u8V ((List.range 32).map f) := by
    apply Array.ext
    · rw [hs2]; simp [u8V]
    · intro i h1 h2
      have := (hf i (by omega)).1
      rw [Array.getElem?_eq_getElem h1] at this
      have h3 := Option.some.inj this
      rw [h3]
      simp [u8V]
  refine ⟨(List.range 32).map f, by rw [ec], by simp, ?_⟩
  intro x hx
  obtain ⟨i, hi, rfl⟩ := List.mem_map.1 hx
  have := List.mem_range.1 hi
  exact (hf i (by omega)).2
set_option maxRecDepth 100000 in
theorem flat_who (v : Value) (w : World) (base : Nat) (h : Value.okWide Tryd.prog w .any base 36 v) : ∃ (n0 : Int) (n1 : Int) (n2 : Int), v = .agg #[.int .i64 n0, .int .i64 n1, .int .i64 n2] ∧ (-9223372036854775808 ≤ n0 ∧ n0 ≤ 9223372036854775807) ∧ (-9223372036854775808 ≤ n1 ∧ n1 ≤ 9223372036854775807) ∧ (-9223372036854775808 ≤ n2 ∧ n2 ≤ 9223372036854775807) := by
  obtain ⟨cs, rfl, hs, hc⟩ := flat (ts := [3, 3, 3]) (.inl ⟨_, Tryd.underlying36⟩) (by kernel_rfl) (by kernel_rfl) h
  obtain ⟨l⟩ := cs
  match l, hs with
  | [x0, x1, x2], _ =>
    obtain ⟨n0, rfl, a0, b0⟩ := opn_i64 Tryd.underlying3 (hc 0 _ x0 rfl rfl)
    obtain ⟨n1, rfl, a1, b1⟩ := opn_i64 Tryd.underlying3 (hc 1 _ x1 rfl rfl)
    obtain ⟨n2, rfl, a2, b2⟩ := opn_i64 Tryd.underlying3 (hc 2 _ x2 rfl rfl)
    exact ⟨n0, n1, n2, rfl, ⟨a0, b0⟩, ⟨a1, b1⟩, ⟨a2, b2⟩⟩
theorem build_key1 : Tryd.prog.built 22 [(0, .int .u8 1)] = some (u8V (1 :: zeros 31)) := by kernel_rfl
theorem key1_bytes : ∀ x ∈ (1 :: zeros 31 : List Int), 0 ≤ x ∧ x ≤ 255 := by
  intro x hx
  rcases List.mem_cons.1 hx with rfl | h
  · omega
  · exact zeros_bytes 31 x h
set_option maxRecDepth 100000 in
set_option maxHeartbeats 800000 in
theorem shown09 (w : World) (hR : Roots w) : Calls Tryd.prog 10 #[] w fun e w' => e = .returned (.bool true) ∧ Below w.heap.size w w' := by
  have RT := Lib.hid hR
  have BB := Lib.hid (Below.refl w.heap.size w)
  have BK := Lib.hid build_key1
  have KL : Hid ((1 :: zeros 31 : List Int).length = 32) := Lib.hid (by simp [zeros_len])
  have KB := Lib.hid key1_bytes
  generalize (1 :: zeros 31 : List Int) = key at *
  have TL := tagOf_len key 1 [120]
  have TB := tagOf_bytes key 1 [120]
  generalize htg : tagOf key 1 [120] = tg at *
  replace TL := Lib.hid TL
  replace TB := Lib.hid TB
  replace htg := Lib.hid htg
  clear hR
  have hmk : ∀ W : World, (Instr.makeSlice 23 (.int .i64 7) (.int .i64 7)).run Tryd.prog W = .ok (.slice (some ⟨W.heap.size, 0, none⟩) 7 7) (W.alloc (.cells (u8V (zeros 7)) 5)) := run_makeU8 7 (by omega)
  go_enter Tryd.func10, Tryd.ntmps10
  go_wp2_with (first | ((with_reducible show wpList _ _ _ (⟨some 6, _, _, _, _, _⟩ :: _) _ _); refine wpList_build' rfl 22 _ rfl (u8V key) BK.out ?_) | (go_at_call 14; refine Marker.mk ?_))
  refine Marker.in ?_
  clear hmk
  replace BB := Lib.hid (bt BB.out (below_alloc1 w (.cells (u8V (zeros 7)) 5)))
  generalize w.alloc (.cells (u8V (zeros 7)) 5) = w1 at *
  ((with_reducible refine (open_short key _ 7 7 1 w1 (by omega)).mono ?_))
  rintro e w2 ⟨rfl, b2⟩
  replace BB := Lib.hid (bt BB.out b2)
  clear b2
  have kc := fun (w : World) (C : Array Value) (n c : Nat) => Lib.run_convert_bytes_const (P := Tryd.prog) w 23 5 C n c Tryd.underlying23 Tryd.underlying5
  go_wp2_with (first | ((with_reducible show wpList _ _ _ (⟨some 12, _, _, _, _, _⟩ :: _) _ _); refine wpList_build' rfl 22 _ rfl (u8V key) BK.out ?_) | ((with_reducible show wpList _ _ _ (⟨some 13, _, _, _, _, _⟩ :: _) _ _); refine wpList_build' rfl 22 _ rfl (u8V key) BK.out ?_) | (go_at_call 12; refine Marker.mk ?_))
  refine Marker.in ?_
  clear kc
  have rx : Row (w2.alloc (.cells #[.int .u8 120] 5 (1, 2))) (some ⟨w2.heap.size, 0, none⟩) [120] := row_block' (heap_alloc_new _ _) rfl (by decide)
  replace BB := Lib.hid (bt BB.out (below_alloc1 w2 (.cells #[.int .u8 120] 5 (1, 2))))
  generalize w2.alloc (.cells #[.int .u8 120] 5 (1, 2)) = w3 at *
  have CC := close_any key [120] (some ⟨w2.heap.size, 0, none⟩) 1 1 1 w3 KL.out KB.out rfl rx (by omega) (RT.out.below BB.out)
  rw [htg.out] at CC
  replace CC := Lib.hid CC
  clear rx
  ((with_reducible refine CC.out.mono ?_))
  rintro e w4 ⟨⟨A4, d4, rfl, o4⟩, b4⟩
  replace BB := Lib.hid (bt BB.out b4)
  clear b4 CC
  have tk : ([120] ++ tg).take 1 = [120] := rfl
  have OO := open_good key ([120] ++ tg) A4 1 d4 1 w4 KL.out KB.out (by rw [List.length_append, TL.out]; rfl) o4.row (by omega) (by have := own_cap o4; rw [List.length_append, TL.out] at this; simpa using this) (RT.out.below BB.out) (by rw [tk, htg.out])
  rw [tk] at OO
  replace OO := Lib.hid OO
  clear o4 tk
  go_wp2_with fail
  ((with_reducible refine OO.out.mono ?_))
  rintro e w5 ⟨⟨A5, d5, rfl, o5⟩, b5⟩
  replace BB := Lib.hid (bt BB.out b5)
  have cv := conv_row 1 d5 rfl o5.row
  have e1 : strOfNums [120] = ⟨#[120]⟩ := by decide
  rw [e1] at cv
  clear b5 OO o5 e1
  go_wp2_with fail
  go_ret
  exact ⟨rfl, BB.out⟩
end Go.Proofs.YtapednkmefbldaaDoor
