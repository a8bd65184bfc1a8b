/- mac.Tag, the head of the laws of chapter 5. -/
import Derived.Test.YtalekcpdkfdmaaaDoorMacO
namespace Go.Proofs.YtalekcpdkfdmaaaDoor
open Go.RowKit

theorem array_8 (a : Option Addr) (c : Nat) (W : World) : (Instr.arrayAt 37 (.slice a 8 c)).run Tryd.prog W = .ok (.pointer a) W := by
  simp [Instr.arrayAt, run_underlying Tryd.underlying37]
theorem u8V_extract (l : List Int) (k : Nat) : (u8V l).extract 0 (0 + k) = u8V (l.take k) := by
  simp [u8V]
set_option maxRecDepth 100000 in
set_option maxHeartbeats 800000 in
theorem tag_any (A B : Option Addr) (k b : List Int) (n m c d : Nat) (w : World) (hn : k.length = n) (hm : b.length = m) (hk : Row w A k) (hb : Row w B b) (hl : n ≤ 10000000) (hl2 : m ≤ 10000000) (hR : Roots w) :
    Calls Tryd.prog 27 #[.slice A n c, .slice B m d] w fun e w' => e = .returned (.agg (u8V ((hmac k b).take 8))) ∧ Below w.heap.size w w' := by
  have C := fun (W : World) (hb' : Below w.heap.size w W) => of_any A B k b n m c d W hn hm (row_below hk hb') (row_below hb hb') hl hl2 (hR.below hb')
  have AL := hmac_len k b
  generalize hmac k b = ans at *
  have AL2 := Lib.hid AL
  have C2 := Lib.hid C
  have T8 : Hid ((ans.take 8).length = 8) := Lib.hid (by rw [List.length_take, AL2.out]; rfl)
  have ha8 := array_8
  clear C AL hk hb hR hn hm
  go_enter Tryd.func27, Tryd.ntmps27
  go_wp2_with ((with_reducible show wpList _ _ _ (⟨_, .alloc 37, _, _, _, none⟩ :: _) _ _); (with_reducible refine wpRow_alloc zeroT_b8 ?_ ?_ ?_); (· exact wanted0 rfl); (· rfl); refine Marker.mk ?_)
  refine Marker.in ?_
  have BB := Lib.hid (Below.refl w.heap.size w)
  have bel := below_alloc1 w (.cells (u8V (zeros 8)) 37)
  replace BB := Lib.hid (bt BB.out bel)
  have K4 := Lib.hid (Blk.new w (u8V (zeros 8)) 37)
  clear bel
  generalize w.alloc (.cells (u8V (zeros 8)) 37) = w1 at *
  go_wp2_with fail
  ((with_reducible refine (C2.out _ BB.out).mono ?_))
  rintro e w2 ⟨rfl, b2⟩
  replace K4 := Lib.hid (K4.out.below b2)
  replace BB := Lib.hid (bt BB.out b2)
  have l2 := K4.out.lt
  clear b2 C2
  go_wp2_with ((with_reducible show wpList _ _ _ (⟨_, .alloc 28, _, _, _, none⟩ :: _) _ _); (with_reducible refine wpRow_alloc zeroT_b32 ?_ ?_ ?_); (· exact wanted0 rfl); (· rfl); refine Marker.mk ?_)
  refine Marker.in ?_
  have bel := below_alloc1 w2 (.cells (u8V (zeros 32)) 28)
  replace K4 := Lib.hid (K4.out.below bel)
  replace BB := Lib.hid (bt BB.out bel)
  have K5 := Lib.hid (Blk.new w2 (u8V (zeros 32)) 28)
  clear bel
  generalize w2.alloc (.cells (u8V (zeros 32)) 28) = w3 at *
  generalize w2.heap.size = g5 at *
  go_wp2_with ((with_reducible show wpList _ _ _ (⟨_, .store 28 _ _, _, _, _, none⟩ :: _) _ _); (with_reducible refine wpBlk_store (g := g5) (cs := u8V ans) agg_b32 ?_ ?_ K5 ?_ ?_ ?_ ?_); (· exact wanted0 rfl); (· exact ⟨rfl, rfl, rfl⟩); (· rw [u8V_size, zeros_len]); (· rw [u8V_size, AL2.out]); (· exact u8V_one _); refine Marker.mk ?_)
  refine Marker.in ?_
  replace K4 := Lib.hid (K4.out.setRow_other g5 (u8V ans) (by omega))
  replace K5 := Lib.hid (K5.out.setRow (u8V ans))
  replace BB := Lib.hid (below_setRow (g := g5) BB.out (by omega) (u8V ans))
  generalize w3.setRow g5 (u8V ans) = w4 at *
  go_wp2_with (first | ((with_reducible show wpList _ _ _ (⟨_, .load 37 _, _, _, _, none⟩ :: _) _ _); (with_reducible refine wpBlk_mid (g := g5) (off := 0) (cs := u8V (ans.take 8)) agg_b8 ?_ ?_ K5 ?_ ?_ ?_); (· exact wanted0 rfl); (· exact ⟨rfl, rfl⟩); (· rw [u8V_size, T8.out]); (· exact u8V_extract _ _)) | ((with_reducible show wpList _ _ _ (⟨_, .store 37 _ _, _, _, _, none⟩ :: _) _ _); (with_reducible refine wpBlk_store (g := w.heap.size) (cs := u8V (ans.take 8)) agg_b8 ?_ ?_ K4 ?_ ?_ ?_ ?_); (· exact wanted0 rfl); (· exact ⟨rfl, rfl, rfl⟩); (· rw [u8V_size, zeros_len]); (· rw [u8V_size, T8.out]); (· exact u8V_one _)))
  refine bodyPost_ret (v := .agg (u8V (ans.take 8))) (results_blk agg_b8 rfl _ _ (w.heap.size) _ rfl (K4.out.setRow _) (by rw [u8V_size, T8.out])) rfl ⟨rfl, below_setRow BB.out (by omega) _⟩

set_option maxRecDepth 100000 in
set_option maxHeartbeats 800000 in
theorem shown05 (w : World) (hR : Roots w) : Calls Tryd.prog 23 #[] w fun e w' => e = .returned (.bool true) ∧ Below w.heap.size w w' := by
  have n0 := hmac_jefe
  have l0 := hmac_len [74, 101, 102, 101] [119, 104, 97, 116, 32, 100, 111, 32, 121, 97, 32, 119, 97, 110, 116, 32, 102, 111, 114, 32, 110, 111, 116, 104, 105, 110, 103, 63]
  have lb := hmac_bytes [74, 101, 102, 101] [119, 104, 97, 116, 32, 100, 111, 32, 121, 97, 32, 119, 97, 110, 116, 32, 102, 111, 114, 32, 110, 111, 116, 104, 105, 110, 103, 63]
  have C := fun (W : World) (g h c d : Nat) (hk : Row W (some ⟨g, 0, none⟩) [74, 101, 102, 101]) (hb : Row W (some ⟨h, 0, none⟩) [119, 104, 97, 116, 32, 100, 111, 32, 121, 97, 32, 119, 97, 110, 116, 32, 102, 111, 114, 32, 110, 111, 116, 104, 105, 110, 103, 63]) (hR : Roots W) => of_any (some ⟨g, 0, none⟩) (some ⟨h, 0, none⟩) [74, 101, 102, 101] [119, 104, 97, 116, 32, 100, 111, 32, 121, 97, 32, 119, 97, 110, 116, 32, 102, 111, 114, 32, 110, 111, 116, 104, 105, 110, 103, 63] 4 28 c d W rfl rfl hk hb (by omega) (by omega) hR
  generalize hmac [74, 101, 102, 101] [119, 104, 97, 116, 32, 100, 111, 32, 121, 97, 32, 119, 97, 110, 116, 32, 102, 111, 114, 32, 110, 111, 116, 104, 105, 110, 103, 63] = s0 at *
  obtain ⟨a0, a1, a2, a3, ar, rfl⟩ : ∃ a b c d r, s0 = a :: b :: c :: d :: r := by
    match s0, l0 with
    | a :: b :: c :: d :: r, _ => exact ⟨a, b, c, d, r, rfl⟩
  simp only [List.take_succ_cons, List.take_zero, List.cons.injEq, and_true] at n0
  obtain ⟨rfl, rfl, rfl, rfl⟩ := n0
  have RT := Lib.hid hR
  have HL0 := Lib.hid l0
  have HLB := Lib.hid lb
  have C0 := Lib.hid C
  have BB := Lib.hid (Below.refl w.heap.size w)
  clear hR l0 lb C
  have kc := fun (w : World) (C : Array Value) (n c : Nat) => Lib.run_convert_bytes_const (P := Tryd.prog) w 22 5 C n c Tryd.underlying22 Tryd.underlying5
  have kc2 : ∀ (w : World) (o : Obj) (C : Array Value) (n c : Nat), (convert 22 22 (.slice (some ⟨w.heap.size + 1, 0, none⟩) n c)).run Tryd.prog ((w.alloc o).alloc (.cells C 5)) = .ok (.slice (some ⟨w.heap.size + 1, 0, none⟩) n c) ((w.alloc o).alloc (.cells C 5 (C.size, C.size + 1))) := by
    intro w o C n c
    have h := Lib.run_convert_bytes_const (P := Tryd.prog) (w.alloc o) 22 5 C n c Tryd.underlying22 Tryd.underlying5
    rw [alloc_size] at h
    exact h
  go_enter Tryd.func23, Tryd.ntmps23
  go_wp2_with (go_at_call 25; refine Marker.mk ?_)
  refine Marker.in ?_
  have bl := below_alloc2 w (.cells #[.int .u8 74, .int .u8 101, .int .u8 102, .int .u8 101] 5 (4, 5)) (.cells #[.int .u8 119, .int .u8 104, .int .u8 97, .int .u8 116, .int .u8 32, .int .u8 100, .int .u8 111, .int .u8 32, .int .u8 121, .int .u8 97, .int .u8 32, .int .u8 119, .int .u8 97, .int .u8 110, .int .u8 116, .int .u8 32, .int .u8 102, .int .u8 111, .int .u8 114, .int .u8 32, .int .u8 110, .int .u8 111, .int .u8 116, .int .u8 104, .int .u8 105, .int .u8 110, .int .u8 103, .int .u8 63] 5 (28, 29))
  have r1 : Row (w.alloc (.cells #[.int .u8 74, .int .u8 101, .int .u8 102, .int .u8 101] 5 (4, 5))) (some ⟨w.heap.size, 0, none⟩) [74, 101, 102, 101] := row_block' (heap_alloc_new _ _) rfl (by decide)
  replace r1 := row_below r1 (below_alloc1 _ (.cells #[.int .u8 119, .int .u8 104, .int .u8 97, .int .u8 116, .int .u8 32, .int .u8 100, .int .u8 111, .int .u8 32, .int .u8 121, .int .u8 97, .int .u8 32, .int .u8 119, .int .u8 97, .int .u8 110, .int .u8 116, .int .u8 32, .int .u8 102, .int .u8 111, .int .u8 114, .int .u8 32, .int .u8 110, .int .u8 111, .int .u8 116, .int .u8 104, .int .u8 105, .int .u8 110, .int .u8 103, .int .u8 63] 5 (28, 29)))
  have r2 : Row ((w.alloc (.cells #[.int .u8 74, .int .u8 101, .int .u8 102, .int .u8 101] 5 (4, 5))).alloc (.cells #[.int .u8 119, .int .u8 104, .int .u8 97, .int .u8 116, .int .u8 32, .int .u8 100, .int .u8 111, .int .u8 32, .int .u8 121, .int .u8 97, .int .u8 32, .int .u8 119, .int .u8 97, .int .u8 110, .int .u8 116, .int .u8 32, .int .u8 102, .int .u8 111, .int .u8 114, .int .u8 32, .int .u8 110, .int .u8 111, .int .u8 116, .int .u8 104, .int .u8 105, .int .u8 110, .int .u8 103, .int .u8 63] 5 (28, 29))) (some ⟨w.heap.size + 1, 0, none⟩) [119, 104, 97, 116, 32, 100, 111, 32, 121, 97, 32, 119, 97, 110, 116, 32, 102, 111, 114, 32, 110, 111, 116, 104, 105, 110, 103, 63] := row_block' (g := w.heap.size + 1) (by rw [← alloc_size w (.cells #[.int .u8 74, .int .u8 101, .int .u8 102, .int .u8 101] 5 (4, 5))]; exact heap_alloc_new _ _) rfl (by decide)
  replace BB := Lib.hid (bt BB.out bl)
  generalize (w.alloc (.cells #[.int .u8 74, .int .u8 101, .int .u8 102, .int .u8 101] 5 (4, 5))).alloc (.cells #[.int .u8 119, .int .u8 104, .int .u8 97, .int .u8 116, .int .u8 32, .int .u8 100, .int .u8 111, .int .u8 32, .int .u8 121, .int .u8 97, .int .u8 32, .int .u8 119, .int .u8 97, .int .u8 110, .int .u8 116, .int .u8 32, .int .u8 102, .int .u8 111, .int .u8 114, .int .u8 32, .int .u8 110, .int .u8 111, .int .u8 116, .int .u8 104, .int .u8 105, .int .u8 110, .int .u8 103, .int .u8 63] 5 (28, 29)) = w1 at *
  clear bl kc kc2
  ((with_reducible refine (C0.out w1 w.heap.size (w.heap.size + 1) 4 28 r1 r2 (RT.out.below BB.out)).mono ?_))
  rintro e w2 ⟨rfl, b2⟩
  replace BB := Lib.hid (bt BB.out b2)
  have l2 : w.heap.size ≤ w2.heap.size := BB.out.size
  clear b2 r1 r2 C0
  go_wp2_with ((with_reducible show wpList _ _ _ (⟨_, .alloc 28, _, _, _, none⟩ :: _) _ _); (with_reducible refine wpRow_alloc zeroT_b32 ?_ ?_ ?_); (· exact wanted0 rfl); (· rfl); refine Marker.mk ?_)
  refine Marker.in ?_
  have bel := below_alloc1 w2 (.cells (u8V (zeros 32)) 28)
  replace BB := Lib.hid (bt BB.out bel)
  have K1 := Lib.hid (Blk.new w2 (u8V (zeros 32)) 28)
  clear bel
  generalize w2.alloc (.cells (u8V (zeros 32)) 28) = w3 at *
  generalize w2.heap.size = g1 at *
  go_wp2_with ((with_reducible show wpList _ _ _ (⟨_, .store 28 _ _, _, _, _, none⟩ :: _) _ _); (with_reducible refine wpBlk_store (g := g1) (cs := u8V (91 :: 220 :: 193 :: 70 :: ar)) agg_b32 ?_ ?_ K1 ?_ ?_ ?_ ?_); (· exact wanted0 rfl); (· exact ⟨rfl, rfl, rfl⟩); (· rw [u8V_size, zeros_len]); (· rw [u8V_size, HL0.out]); (· exact u8V_one _); refine Marker.mk ?_)
  refine Marker.in ?_
  replace K1 := Lib.hid (K1.out.setRow (u8V (91 :: 220 :: 193 :: 70 :: ar)))
  replace BB := Lib.hid (below_setRow (g := g1) BB.out (by omega) (u8V (91 :: 220 :: 193 :: 70 :: ar)))
  generalize w3.setRow g1 (u8V (91 :: 220 :: 193 :: 70 :: ar)) = w4 at *
  have c0 := K1.out.cell 0
  have c1 := K1.out.cell 1
  have c2 := K1.out.cell 2
  have c3 := K1.out.cell 3
  simp only [u8V, List.map_cons, List.getElem?_toArray, List.getElem?_cons_zero, List.getElem?_cons_succ] at c0 c1 c2 c3
  have CS := Lib.hid (fun q => same_any (some ⟨g1, 0, none⟩) (some ⟨g1, 0, none⟩) _ _ 32 32 32 32 (w4.drewN q) HL0.out HL0.out (row_drewN (u8V_row K1.out HLB.out) q) (row_drewN (u8V_row K1.out HLB.out) q) (by omega) (by omega))
  have ed : decide ((91 :: 220 :: 193 :: 70 :: ar : List Int) = 91 :: 220 :: 193 :: 70 :: ar) = true := decide_eq_true rfl
  rw [ed] at CS
  clear ed
  go_wp2_with fail
  go_quiet (((with_reducible refine (CS.out _).mono ?_); (rintro e w2 ⟨rfl, rfl⟩; exact ⟨rfl, _, rfl⟩)))
  go_wp2_with fail
  go_ret
  exact ⟨rfl, below_drewN BB.out _⟩
end Go.Proofs.YtalekcpdkfdmaaaDoor
