/- The heads of the laws of chapter 4. -/
import Derived.Test.YtalekcpdkfdmaaaDoorShaS
import Derived.Test.YtalekcpdkfdmaaaDoorOpen
import Derived.Lib.SlBytesConst
namespace Go.Proofs.YtalekcpdkfdmaaaDoor
open Go.RowKit

theorem row_block' {W : World} {g : Nat} {t : TypeId} {fr : Nat × Nat} {xs : List Int} {cs : Array Value} (hg : W.heap[g]? = some (.cells cs t fr)) (hc : cs = (xs.map (Value.int .u8)).toArray) (hb : ∀ x ∈ xs, 0 ≤ x ∧ x ≤ 255) :
    Row W (some ⟨g, 0, none⟩) xs := by
  subst hc
  refine ⟨.inr ⟨g, 0, rfl, fun i h => ?_⟩, hb⟩
  rw [cell_of_row W g (0 + i) _ t fr hg]
  simp [h]
theorem bytes_of_row {w : World} {v : Value} (h : IsRow .u8 w v) : IsBytes w v := by
  rcases h with rfl | ⟨x, len, cap, zs, rfl, hx, hl, hc, hz, hcell, hw⟩
  · exact ⟨none, [], 0, rfl, by simp, by simp, row_empty _ _, fun _ => rfl⟩
  · have hlen : (zs.take len).length = len := by rw [List.length_take]; omega
    refine ⟨some x, zs.take len, cap, by rw [hlen], by omega, by omega, ⟨?_, fun y hy => byte_of_wf (hw y (List.mem_of_mem_take hy))⟩, fun h => by cases h⟩
    rcases Nat.eq_zero_or_pos cap with h0 | h0
    · left
      exact List.eq_nil_of_length_eq_zero (by omega)
    · right
      obtain ⟨hb, hs⟩ := hx h0
      obtain ⟨b, off, spot⟩ := x
      simp at hs
      subst hs
      refine ⟨b, off, rfl, fun i hi => ?_⟩
      have hi' : i < len := by omega
      have := hcell i (by omega)
      rw [Addr.add_mid] at this
      rw [this]
      simp [List.getElem_take, List.getD, List.getElem?_eq_getElem (show i < zs.length by omega)]
set_option maxRecDepth 100000 in
set_option maxHeartbeats 400000 in
theorem few04 (A : Option Addr) (n c : Nat) (w : World) (h1 : n ≤ c) (h2 : c ≤ 9223372036854775807) :
    Calls Tryd.prog 14 #[.slice A n c] w fun e w' => e = .returned (.slice A (min n 300) c) ∧ w = w' := by
  by_cases h : n ≤ 300
  · have e : min n 300 = n := Nat.min_eq_left h
    have ei : min (n : Int) 300 = (n : Int) := by omega
    rw [e]
    clear e
    go_enter Tryd.func14, Tryd.ntmps14
    go_wp2_with fail
    go_ret
    exact ⟨rfl, rfl⟩
  · have e : min n 300 = 300 := Nat.min_eq_right (by omega)
    have ei : min (n : Int) 300 = 300 := by omega
    have hk : 300 ≤ c := by omega
    rw [e]
    clear e
    go_enter Tryd.func14, Tryd.ntmps14
    go_wp2_with fail
    go_ret
    exact ⟨rfl, rfl⟩
set_option maxRecDepth 100000 in
set_option maxHeartbeats 400000 in
theorem few05 (A : Option Addr) (n c : Nat) (w : World) (h1 : n ≤ c) (h2 : c ≤ 9223372036854775807) :
    Calls Tryd.prog 24 #[.slice A n c] w fun e w' => e = .returned (.slice A (min n 150) c) ∧ w = w' := by
  by_cases h : n ≤ 150
  · have e : min n 150 = n := Nat.min_eq_left h
    have ei : min (n : Int) 150 = (n : Int) := by omega
    rw [e]
    clear e
    go_enter Tryd.func24, Tryd.ntmps24
    go_wp2_with fail
    go_ret
    exact ⟨rfl, rfl⟩
  · have e : min n 150 = 150 := Nat.min_eq_right (by omega)
    have ei : min (n : Int) 150 = 150 := by omega
    have hk : 150 ≤ c := by omega
    rw [e]
    clear e
    go_enter Tryd.func24, Tryd.ntmps24
    go_wp2_with fail
    go_ret
    exact ⟨rfl, rfl⟩

set_option maxRecDepth 100000 in
set_option maxHeartbeats 400000 in
theorem shown04 (w : World) (hR : Roots w) : Calls Tryd.prog 13 #[] w fun e w' => e = .returned (.bool true) ∧ Below w.heap.size w w' := by
  have n0 := sha_nil
  have n1 := sha_abc
  have l0 := sha_len []
  have l1 := sha_len [97, 98, 99]
  have C0 := sum_any none [] 0 0 w rfl (row_empty _ _) (by omega) hR
  have C1 := fun (W : World) (g c : Nat) (hr : Row W (some ⟨g, 0, none⟩) [97, 98, 99]) (hR : Roots W) => sum_any (some ⟨g, 0, none⟩) [97, 98, 99] 3 c W rfl hr (by omega) hR
  generalize sha [] = s0 at *
  generalize sha [97, 98, 99] = s1 at *
  obtain ⟨a0, a1, a2, a3, ar, rfl⟩ : ∃ a b c d r, s0 = a :: b :: c :: d :: r := by
    match s0, l0 with
    | a :: b :: c :: d :: r, _ => exact ⟨a, b, c, d, r, rfl⟩
  obtain ⟨b0, b1, b2, b3, br, rfl⟩ : ∃ a b c d r, s1 = a :: b :: c :: d :: r := by
    match s1, l1 with
    | a :: b :: c :: d :: r, _ => exact ⟨a, b, c, d, r, rfl⟩
  simp only [List.take_succ_cons, List.take_zero, List.cons.injEq, and_true] at n0 n1
  obtain ⟨rfl, rfl, rfl, rfl⟩ := n0
  obtain ⟨rfl, rfl, rfl, rfl⟩ := n1
  have RT := Lib.hid hR
  have HL0 := Lib.hid l0
  have HL1 := Lib.hid l1
  replace C0 := Lib.hid C0
  replace C1 := Lib.hid C1
  have BB := Lib.hid (Below.refl w.heap.size w)
  clear hR l0 l1
  go_enter Tryd.func13, Tryd.ntmps13
  go_wp2_with fail
  refine (C0.out).mono ?_
  rintro e w1 ⟨rfl, b1⟩
  replace BB := Lib.hid (bt BB.out b1)
  have z1 := b1.size
  clear b1
  go_wp2_with ((with_reducible show wpList _ _ _ (⟨_, .alloc 28, _, _, _, none⟩ :: _) _ _); (with_reducible refine wpRow_alloc zeroT_b32 ?_ ?_ ?_); (· exact wanted0 rfl); (· rfl); refine Marker.mk ?_)
  refine Marker.in ?_
  have bel := below_alloc1 w1 (.cells (u8V (zeros 32)) 28)
  replace BB := Lib.hid (bt BB.out bel)
  have K0 := Lib.hid (Blk.new w1 (u8V (zeros 32)) 28)
  clear bel
  generalize w1.alloc (.cells (u8V (zeros 32)) 28) = w2 at *
  go_wp2_with ((with_reducible show wpList _ _ _ (⟨_, .store 28 _ _, _, _, _, none⟩ :: _) _ _); (with_reducible refine wpBlk_store (g := w1.heap.size) (cs := u8V (227 :: 176 :: 196 :: 66 :: ar)) agg_b32 ?_ ?_ K0 ?_ ?_ ?_ ?_); (· exact wanted0 rfl); (· exact ⟨rfl, rfl, rfl⟩); (· rw [u8V_size, zeros_len]); (· rw [u8V_size, HL0.out]); (· exact u8V_one _); refine Marker.mk ?_)
  refine Marker.in ?_
  replace K0 := Lib.hid (K0.out.setRow (u8V (227 :: 176 :: 196 :: 66 :: ar)))
  replace BB := Lib.hid (below_setRow (g := w1.heap.size) BB.out (by omega) (u8V (227 :: 176 :: 196 :: 66 :: ar)))
  generalize w2.setRow w1.heap.size (u8V (227 :: 176 :: 196 :: 66 :: ar)) = w3 at *
  have kc := fun (w : World) (C : Array Value) (n c : Nat) => Lib.run_convert_bytes_const (P := Tryd.prog) w 22 5 C n c Tryd.underlying22 Tryd.underlying5
  go_wp2_with fail
  have bl := below_alloc1 w3 (.cells #[.int .u8 97, .int .u8 98, .int .u8 99] 5 (3, 4))
  replace K0 := Lib.hid (K0.out.below bl)
  replace BB := Lib.hid (bt BB.out bl)
  have hrow : Row (w3.alloc (.cells #[.int .u8 97, .int .u8 98, .int .u8 99] 5 (3, 4))) (some ⟨w3.heap.size, 0, none⟩) [97, 98, 99] := row_block' (heap_alloc_new _ _) rfl (by decide)
  generalize w3.alloc (.cells #[.int .u8 97, .int .u8 98, .int .u8 99] 5 (3, 4)) = w4 at *
  refine (C1.out w4 w3.heap.size 3 hrow (RT.out.below BB.out)).mono ?_
  rintro e w5 ⟨rfl, b5⟩
  replace BB := Lib.hid (bt BB.out b5)
  replace K0 := Lib.hid (K0.out.below b5)
  have l5 := K0.out.lt
  clear b5 bl hrow kc
  go_wp2_with ((with_reducible show wpList _ _ _ (⟨_, .alloc 28, _, _, _, none⟩ :: _) _ _); (with_reducible refine wpRow_alloc zeroT_b32 ?_ ?_ ?_); (· exact wanted0 rfl); (· rfl); refine Marker.mk ?_)
  refine Marker.in ?_
  have bel := below_alloc1 w5 (.cells (u8V (zeros 32)) 28)
  replace K0 := Lib.hid (K0.out.below bel)
  replace BB := Lib.hid (bt BB.out bel)
  have K1 := Lib.hid (Blk.new w5 (u8V (zeros 32)) 28)
  clear bel
  generalize w5.alloc (.cells (u8V (zeros 32)) 28) = w6 at *
  go_wp2_with ((with_reducible show wpList _ _ _ (⟨_, .store 28 _ _, _, _, _, none⟩ :: _) _ _); (with_reducible refine wpBlk_store (g := w5.heap.size) (cs := u8V (186 :: 120 :: 22 :: 191 :: br)) agg_b32 ?_ ?_ K1 ?_ ?_ ?_ ?_); (· exact wanted0 rfl); (· exact ⟨rfl, rfl, rfl⟩); (· rw [u8V_size, zeros_len]); (· rw [u8V_size, HL1.out]); (· exact u8V_one _); refine Marker.mk ?_)
  refine Marker.in ?_
  replace K0 := Lib.hid (K0.out.setRow_other w5.heap.size (u8V (186 :: 120 :: 22 :: 191 :: br)) (by omega))
  replace K1 := Lib.hid (K1.out.setRow (u8V (186 :: 120 :: 22 :: 191 :: br)))
  replace BB := Lib.hid (below_setRow (g := w5.heap.size) BB.out (by omega) (u8V (186 :: 120 :: 22 :: 191 :: br)))
  generalize w6.setRow w5.heap.size (u8V (186 :: 120 :: 22 :: 191 :: br)) = w7 at *
  have c00 := K0.out.cell 0
  have c01 := K0.out.cell 1
  have c02 := K0.out.cell 2
  have c03 := K0.out.cell 3
  have c10 := K1.out.cell 0
  have c11 := K1.out.cell 1
  have c12 := K1.out.cell 2
  have c13 := K1.out.cell 3
  simp only [u8V, List.map_cons, List.getElem?_toArray, List.getElem?_cons_zero, List.getElem?_cons_succ] at c00 c01 c02 c03 c10 c11 c12 c13
  go_wp2_with fail
  go_ret
  exact ⟨rfl, BB.out⟩
end Go.Proofs.YtalekcpdkfdmaaaDoor
