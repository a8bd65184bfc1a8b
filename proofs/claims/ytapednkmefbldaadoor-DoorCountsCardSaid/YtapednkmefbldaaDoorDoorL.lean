/- The head of the laws of chapter 15; Try. -/
import Derived.Test.YtapednkmefbldaaDoorDoor
import Derived.Test.YtapednkmefbldaaDoorSealL
namespace Go.Proofs.YtapednkmefbldaaDoor
open Go.RowKit

set_option maxRecDepth 100000 in
theorem flat_try (v : Value) (w : World) (base : Nat) (h : Value.okWide Tryd.prog w .any base 53 v) : ∃ (n0 : Int) (n1 : Int) (n2 : Int) (n3 : Int) (n4 : Int) (n5 : Int) (n6 : Int) (n7 : Int) (n8 : Int) (n9 : Int), v = .agg #[.int .i64 n0, .int .i64 n1, .int .u8 n2, .int .u8 n3, .int .u8 n4, .int .u8 n5, .int .u8 n6, .int .u8 n7, .int .u8 n8, .int .u8 n9] ∧ (-9223372036854775808 ≤ n0 ∧ n0 ≤ 9223372036854775807) ∧ (-9223372036854775808 ≤ n1 ∧ n1 ≤ 9223372036854775807) ∧ (0 ≤ n2 ∧ n2 ≤ 255) ∧ (0 ≤ n3 ∧ n3 ≤ 255) ∧ (0 ≤ n4 ∧ n4 ≤ 255) ∧ (0 ≤ n5 ∧ n5 ≤ 255) ∧ (0 ≤ n6 ∧ n6 ≤ 255) ∧ (0 ≤ n7 ∧ n7 ≤ 255) ∧ (0 ≤ n8 ∧ n8 ≤ 255) ∧ (0 ≤ n9 ∧ n9 ≤ 255) := by
  obtain ⟨cs, rfl, hs, hc⟩ := flat (ts := [3, 3, 5, 5, 5, 5, 5, 5, 5, 5]) (.inl ⟨_, Tryd.underlying53⟩) (by kernel_rfl) (by kernel_rfl) h
  obtain ⟨l⟩ := cs
  match l, hs with
  | [x0, x1, x2, x3, x4, x5, x6, x7, x8, x9], _ =>
    obtain ⟨n0, rfl, a0, b0⟩ := opn_i64 Tryd.underlying3 (hc 0 _ x0 rfl rfl)
    obtain ⟨n1, rfl, a1, b1⟩ := opn_i64 Tryd.underlying3 (hc 1 _ x1 rfl rfl)
    obtain ⟨n2, rfl, a2, b2⟩ := opn_u8 Tryd.underlying5 (hc 2 _ x2 rfl rfl)
    obtain ⟨n3, rfl, a3, b3⟩ := opn_u8 Tryd.underlying5 (hc 3 _ x3 rfl rfl)
    obtain ⟨n4, rfl, a4, b4⟩ := opn_u8 Tryd.underlying5 (hc 4 _ x4 rfl rfl)
    obtain ⟨n5, rfl, a5, b5⟩ := opn_u8 Tryd.underlying5 (hc 5 _ x5 rfl rfl)
    obtain ⟨n6, rfl, a6, b6⟩ := opn_u8 Tryd.underlying5 (hc 6 _ x6 rfl rfl)
    obtain ⟨n7, rfl, a7, b7⟩ := opn_u8 Tryd.underlying5 (hc 7 _ x7 rfl rfl)
    obtain ⟨n8, rfl, a8, b8⟩ := opn_u8 Tryd.underlying5 (hc 8 _ x8 rfl rfl)
    obtain ⟨n9, rfl, a9, b9⟩ := opn_u8 Tryd.underlying5 (hc 9 _ x9 rfl rfl)
    exact ⟨n0, n1, n2, n3, n4, n5, n6, n7, n8, n9, rfl, ⟨a0, b0⟩, ⟨a1, b1⟩, ⟨a2, b2⟩, ⟨a3, b3⟩, ⟨a4, b4⟩, ⟨a5, b5⟩, ⟨a6, b6⟩, ⟨a7, b7⟩, ⟨a8, b8⟩, ⟨a9, b9⟩⟩
def tryV (s r : Int) (pf : List Int) : Array Value := #[.int .i64 s, .int .i64 r] ++ u8V pf
theorem tryV_size (s r : Int) (pf : List Int) (h : pf.length = 8) : (tryV s r pf).size = 10 := by simp [tryV, u8V_size, h]
theorem tryV_0 (s r : Int) (pf : List Int) : (tryV s r pf)[0]? = some (.int .i64 s) := by
  unfold tryV
  rw [Array.getElem?_append_left (by simp)]
  rfl
theorem tryV_1 (s r : Int) (pf : List Int) : (tryV s r pf)[1]? = some (.int .i64 r) := by
  unfold tryV
  rw [Array.getElem?_append_left (by simp)]
  rfl
theorem tryV_pf (s r : Int) (pf : List Int) (h : pf.length = 8) : (tryV s r pf).extract 2 (2 + 8) = u8V pf := by
  match pf, h with
  | [a, b, c, d, e, f, g, i], _ => rfl
set_option maxRecDepth 100000 in
set_option maxHeartbeats 800000 in
theorem shown15 (w : World) (hR : Roots w) : Calls Tryd.prog 19 #[] w fun e w' => e = .returned (.bool true) ∧ Below w.heap.size w w' := by
  have RT := Lib.hid hR
  have BB := Lib.hid (Below.refl w.heap.size w)
  have BD := Lib.hid build_door0
  have B8 := Lib.hid build_z8
  have B32 := Lib.hid build_z32
  clear hR
  go_enter Tryd.func19, Tryd.ntmps19
  go_wp2_with (first | ((with_reducible show wpList _ _ _ (⟨some 7, _, _, _, _, _⟩ :: _) _ _); refine wpList_build' rfl 46 _ rfl (doorV 0 false (zeros 8)) BD.out ?_) | ((with_reducible show wpList _ _ _ (⟨some 8, _, _, _, _, _⟩ :: _) _ _); refine wpList_build' rfl 29 _ rfl (u8V (zeros 8)) B8.out ?_))
  ((with_reducible refine (prove_shut none 0 0 1 1 0 (zeros 8) (zeros 8) w z8_len).mono ?_))
  rintro e w1 ⟨rfl, b1⟩
  replace BB := Lib.hid (bt BB.out b1)
  clear b1
  go_wp2_with (first | ((with_reducible show wpList _ _ _ (⟨_, .alloc 46, _, _, _, none⟩ :: _) _ _); (with_reducible refine wpRow_alloc zeroT_door ?_ ?_ ?_); (· exact wanted0 rfl); (· rfl)) | ((with_reducible show wpList _ _ _ (⟨_, .alloc 22, _, _, _, none⟩ :: _) _ _); (with_reducible refine wpRow_alloc zeroT_b32 ?_ ?_ ?_); (· exact wanted0 rfl); (· rfl); refine Marker.mk ?_))
  refine Marker.in ?_
  have K1 := Lib.hid ((Blk.new w1 (doorV 0 false (zeros 8)) 46).alloc (.cells (u8V (zeros 32)) 22))
  have K2 := Lib.hid (Blk.new' (w1.alloc (.cells (doorV 0 false (zeros 8)) 46)) (u8V (zeros 32)) 22 (g := w1.heap.size + 1) (by simp))
  have h1 := BB.out.size
  replace BB := Lib.hid (bt BB.out (below_alloc2 w1 (.cells (doorV 0 false (zeros 8)) 46) (.cells (u8V (zeros 32)) 22)))
  generalize (w1.alloc (.cells (doorV 0 false (zeros 8)) 46)).alloc (.cells (u8V (zeros 32)) 22) = w2 at *
  obtain ⟨g2, hg2⟩ : ∃ g, w1.heap.size + 1 = g := ⟨_, rfl⟩
  rw [hg2] at K2
  simp only [hg2]
  have n2 : w1.heap.size < g2 := by omega
  clear hg2
  generalize w1.heap.size = g1 at *
  go_wp2_with ((with_reducible show wpList _ _ _ (⟨_, .store 46 _ _, _, _, _, none⟩ :: _) _ _); (with_reducible refine wpBlk_store (g := g1) (cs := (doorV 0 false (zeros 8))) agg_door ?_ ?_ K1 ?_ ?_ ?_ ?_); (· exact wanted0 rfl); (· exact ⟨rfl, rfl, rfl⟩); (· exact doorV_size _ _ _ z8_len); (· exact doorV_size _ _ _ z8_len); (· exact doorV_one _ _ _); refine Marker.mk ?_)
  refine Marker.in ?_
  replace K2 := Lib.hid (K2.out.setRow_other g1 (doorV 0 false (zeros 8)) (by omega))
  replace K1 := Lib.hid (K1.out.setRow (doorV 0 false (zeros 8)))
  replace BB := Lib.hid (below_setRow (g := g1) BB.out (by omega) (doorV 0 false (zeros 8)))
  generalize w2.setRow g1 (doorV 0 false (zeros 8)) = w3 at *
  go_wp2_with ((with_reducible show wpList _ _ _ (⟨_, .store 22 _ _, _, _, _, none⟩ :: _) _ _); (with_reducible refine wpBlk_store (g := g2) (cs := u8V (zeros 32)) agg_b32 ?_ ?_ K2 ?_ ?_ ?_ ?_); (· exact wanted0 rfl); (· exact ⟨rfl, rfl, rfl⟩); (· rw [u8V_size, zeros_len]); (· rw [u8V_size, zeros_len]); (· exact u8V_one _); refine Marker.mk ?_)
  refine Marker.in ?_
  replace K1 := Lib.hid (K1.out.setRow_other g2 (u8V (zeros 32)) (by omega))
  replace K2 := Lib.hid (K2.out.setRow (u8V (zeros 32)))
  replace BB := Lib.hid (below_setRow (g := g2) BB.out (by omega) (u8V (zeros 32)))
  generalize w3.setRow g2 (u8V (zeros 32)) = w4 at *
  go_wp2_with (first | ((with_reducible show wpList _ _ _ (⟨some 14, _, _, _, _, _⟩ :: _) _ _); refine wpList_build' rfl 46 _ rfl (doorV 0 false (zeros 8)) BD.out ?_) | (go_at_call 21; refine Marker.mk ?_))
  refine Marker.in ?_
  have bel := below_alloc1 w4 (.cells #[.int .u8 1] 5)
  replace K1 := Lib.hid (K1.out.below bel)
  replace K2 := Lib.hid (K2.out.below bel)
  replace BB := Lib.hid (bt BB.out bel)
  have K3 := Lib.hid (Blk.new w4 #[.int .u8 1] 5)
  clear bel
  generalize w4.alloc (.cells #[.int .u8 1] 5) = w5 at *
  generalize w4.heap.size = g3 at *
  have AL : ((hmac [1] (nonceB 1 (0 + 1))).take 8).length = 8 := by rw [List.length_take, hmac_len]; rfl
  have CH := hello_ok (some ⟨g3, 0, none⟩) [1] 1 1 1 0 false (zeros 8) w5 rfl (one_row K3.out (by omega)) (by omega) z8_len (by omega) (RT.out.below BB.out)
  rw [show (0 : Int) + 1 = 1 from rfl] at CH AL
  generalize (hmac [1] (nonceB 1 1)).take 8 = an at *
  have DS := Lib.hid (doorV_size 1 true an AL)
  have D1 := Lib.hid (doorV_one 1 true an)
  have C0 := doorV_0 1 true an
  have C1 := doorV_1 1 true an
  generalize doorV 1 true an = dr at *
  replace CH := Lib.hid CH
  ((with_reducible refine CH.out.mono ?_))
  rintro e w6 ⟨rfl, b6⟩
  replace K2 := Lib.hid (K2.out.below b6)
  replace BB := Lib.hid (bt BB.out b6)
  clear b6 K3 K1 CH AL
  have l2 := K2.out.lt
  go_wp2_with ((with_reducible show wpList _ _ _ (⟨_, .alloc 46, _, _, _, none⟩ :: _) _ _); (with_reducible refine wpRow_alloc zeroT_door ?_ ?_ ?_); (· exact wanted0 rfl); (· rfl); refine Marker.mk ?_)
  refine Marker.in ?_
  have bel := below_alloc1 w6 (.cells (doorV 0 false (zeros 8)) 46)
  replace K2 := Lib.hid (K2.out.below bel)
  replace BB := Lib.hid (bt BB.out bel)
  have K4 := Lib.hid (Blk.new w6 (doorV 0 false (zeros 8)) 46)
  clear bel
  generalize w6.alloc (.cells (doorV 0 false (zeros 8)) 46) = w7 at *
  generalize w6.heap.size = g4 at *
  go_wp2_with ((with_reducible show wpList _ _ _ (⟨_, .store 46 _ _, _, _, _, none⟩ :: _) _ _); (with_reducible refine wpBlk_store (g := g4) (cs := dr) agg_door ?_ ?_ K4 ?_ ?_ ?_ ?_); (· exact wanted0 rfl); (· exact ⟨rfl, rfl, rfl⟩); (· exact doorV_size _ _ _ z8_len); (· exact DS.out); (· exact D1.out); refine Marker.mk ?_)
  refine Marker.in ?_
  replace K2 := Lib.hid (K2.out.setRow_other g4 dr (by omega))
  replace K4 := Lib.hid (K4.out.setRow dr)
  replace BB := Lib.hid (below_setRow (g := g4) BB.out (by omega) dr)
  generalize w7.setRow g4 dr = w8 at *
  have c0 := K4.out.cell 0
  have c1 := K4.out.cell 1
  rw [C0] at c0
  rw [C1] at c1
  clear C0 C1
  have EQ : ∀ W : World, (binOp .eql 22 (.agg (u8V (zeros 32))) (.agg #[.int .u8 0, .int .u8 0, .int .u8 0, .int .u8 0, .int .u8 0, .int .u8 0, .int .u8 0, .int .u8 0, .int .u8 0, .int .u8 0, .int .u8 0, .int .u8 0, .int .u8 0, .int .u8 0, .int .u8 0, .int .u8 0, .int .u8 0, .int .u8 0, .int .u8 0, .int .u8 0, .int .u8 0, .int .u8 0, .int .u8 0, .int .u8 0, .int .u8 0, .int .u8 0, .int .u8 0, .int .u8 0, .int .u8 0, .int .u8 0, .int .u8 0, .int .u8 0])).run Tryd.prog W = .ok (.bool true) W := fun W => eql_b32_self (zeros 32) (zeros_len 32) W
  go_wp2_with (first | ((with_reducible show wpList _ _ _ (⟨_, .load 22 _, _, _, _, some _⟩ :: _) _ _); (with_reducible refine wpBlk_load (g := g2) agg_b32 ?_ ?_ K2 ?_ ?_); (· exact wantedY rfl rfl rfl); (· exact ⟨rfl, rfl⟩); (· rw [u8V_size, zeros_len])) | ((with_reducible show wpList _ _ _ (⟨some 23, _, _, _, _, _⟩ :: _) _ _); (with_reducible refine wpRow_run (wantedY rfl rfl rfl) (run_op_build rfl B32.out) ?_)))
  go_ret
  exact ⟨rfl, BB.out⟩
end Go.Proofs.YtapednkmefbldaaDoor
