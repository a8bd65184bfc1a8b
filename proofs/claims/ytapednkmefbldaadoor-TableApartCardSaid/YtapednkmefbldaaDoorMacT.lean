/- mac.Tag, the head of the laws of chapter 5. -/
import Derived.Test.YtapednkmefbldaaDoorMacO
namespace Go.Proofs.YtapednkmefbldaaDoor
open Go.RowKit

theorem array_8 (a : Option Addr) (c : Nat) (W : World) : (Instr.arrayAt 29 (.slice a 8 c)).run Tryd.prog W = .ok (.pointer a) W := by
  simp [Instr.arrayAt, run_underlying Tryd.underlying29]
theorem u8V_extract (l : List Int) (k : Nat) : (u8V l).extract 0 (0 + k) = u8V (l.take k) := by
  simp [u8V]
set_option maxRecDepth 100000 in
set_option maxHeartbeats 800000 in
theorem tag_any (A B : Option Addr) (k b : List Int) (n m c d : Nat) (w : World) (hn : k.length = n) (hm : b.length = m) (hk : Row w A k) (hb : Row w B b) (hl : n ≤ 10000000) (hl2 : m ≤ 10000000) (hR : Roots w) :
    Calls Tryd.prog 13 #[.slice A n c, .slice B m d] w fun e w' => e = .returned (.agg (u8V ((hmac k b).take 8))) ∧ Below w.heap.size w w' := by
  have C := fun (W : World) (hb' : Below w.heap.size w W) => of_any A B k b n m c d W hn hm (row_below hk hb') (row_below hb hb') hl hl2 (hR.below hb')
  have AL := hmac_len k b
  generalize hmac k b = ans at *
  have AL2 := Lib.hid AL
  have C2 := Lib.hid C
  have T8 : Hid ((ans.take 8).length = 8) := Lib.hid (by rw [List.length_take, AL2.out]; rfl)
  have ha8 := array_8
  clear C AL hk hb hR hn hm
  go_enter Tryd.func13, Tryd.ntmps13
  go_wp2_with ((with_reducible show wpList _ _ _ (⟨_, .alloc 29, _, _, _, none⟩ :: _) _ _); (with_reducible refine wpRow_alloc zeroT_b8 ?_ ?_ ?_); (· exact wanted0 rfl); (· rfl); refine Marker.mk ?_)
  refine Marker.in ?_
  have BB := Lib.hid (Below.refl w.heap.size w)
  have bel := below_alloc1 w (.cells (u8V (zeros 8)) 29)
  replace BB := Lib.hid (bt BB.out bel)
  have K4 := Lib.hid (Blk.new w (u8V (zeros 8)) 29)
  clear bel
  generalize w.alloc (.cells (u8V (zeros 8)) 29) = w1 at *
  go_wp2_with fail
  ((with_reducible refine (C2.out _ BB.out).mono ?_))
  rintro e w2 ⟨rfl, b2⟩
  replace K4 := Lib.hid (K4.out.below b2)
  replace BB := Lib.hid (bt BB.out b2)
  have l2 := K4.out.lt
  clear b2 C2
  go_wp2_with ((with_reducible show wpList _ _ _ (⟨_, .alloc 22, _, _, _, none⟩ :: _) _ _); (with_reducible refine wpRow_alloc zeroT_b32 ?_ ?_ ?_); (· exact wanted0 rfl); (· rfl); refine Marker.mk ?_)
  refine Marker.in ?_
  have bel := below_alloc1 w2 (.cells (u8V (zeros 32)) 22)
  replace K4 := Lib.hid (K4.out.below bel)
  replace BB := Lib.hid (bt BB.out bel)
  have K5 := Lib.hid (Blk.new w2 (u8V (zeros 32)) 22)
  clear bel
  generalize w2.alloc (.cells (u8V (zeros 32)) 22) = w3 at *
  generalize w2.heap.size = g5 at *
  go_wp2_with ((with_reducible show wpList _ _ _ (⟨_, .store 22 _ _, _, _, _, none⟩ :: _) _ _); (with_reducible refine wpBlk_store (g := g5) (cs := u8V ans) agg_b32 ?_ ?_ K5 ?_ ?_ ?_ ?_); (· exact wanted0 rfl); (· exact ⟨rfl, rfl, rfl⟩); (· rw [u8V_size, zeros_len]); (· rw [u8V_size, AL2.out]); (· exact u8V_one _); refine Marker.mk ?_)
  refine Marker.in ?_
  replace K4 := Lib.hid (K4.out.setRow_other g5 (u8V ans) (by omega))
  replace K5 := Lib.hid (K5.out.setRow (u8V ans))
  replace BB := Lib.hid (below_setRow (g := g5) BB.out (by omega) (u8V ans))
  generalize w3.setRow g5 (u8V ans) = w4 at *
  go_wp2_with (first | ((with_reducible show wpList _ _ _ (⟨_, .load 29 _, _, _, _, none⟩ :: _) _ _); (with_reducible refine wpBlk_mid (g := g5) (off := 0) (cs := u8V (ans.take 8)) agg_b8 ?_ ?_ K5 ?_ ?_ ?_); (· exact wanted0 rfl); (· exact ⟨rfl, rfl⟩); (· rw [u8V_size, T8.out]); (· exact u8V_extract _ _)) | ((with_reducible show wpList _ _ _ (⟨_, .store 29 _ _, _, _, _, none⟩ :: _) _ _); (with_reducible refine wpBlk_store (g := w.heap.size) (cs := u8V (ans.take 8)) agg_b8 ?_ ?_ K4 ?_ ?_ ?_ ?_); (· exact wanted0 rfl); (· exact ⟨rfl, rfl, rfl⟩); (· rw [u8V_size, zeros_len]); (· rw [u8V_size, T8.out]); (· exact u8V_one _)))
  refine bodyPost_ret (v := .agg (u8V (ans.take 8))) (results_blk agg_b8 rfl _ _ (w.heap.size) _ rfl (K4.out.setRow _) (by rw [u8V_size, T8.out])) rfl ⟨rfl, below_setRow BB.out (by omega) _⟩

end Go.Proofs.YtapednkmefbldaaDoor
