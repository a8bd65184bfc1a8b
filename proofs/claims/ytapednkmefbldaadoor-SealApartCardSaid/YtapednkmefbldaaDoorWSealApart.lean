/- The walk of SealApart. -/
import Derived.Test.YtapednkmefbldaaDoorSealL
import Derived.Test.YtapednkmefbldaaDoorAppF
namespace Go.Proofs.YtapednkmefbldaaDoor
open Go.RowKit

theorem be_byte (n : Int) (h : 0 ≤ n ∧ n ≤ 255) : be n 1 = [n] := by
  show [n / 1 % 256] = [n]
  rw [Int.ediv_one, Int.emod_eq_of_lt h.1 (by omega)]
theorem login_lit (y s r : Int) (nc : List Int) : [y, s % 256, r % 256] ++ nc = loginB y s r nc := by
  unfold loginB
  rw [be_byte (s % 256) (by omega), be_byte (r % 256) (by omega)]
  simp
theorem nonce_lit (s m : Int) : [78, s % 256, m / 16777216 % 256, m / 65536 % 256, m / 256 % 256, m % 256] = nonceB s m := by
  unfold nonceB
  rw [be_byte (s % 256) (by omega)]
  have e : be (m % 4294967296) 4 = [m % 4294967296 / 16777216 % 256, m % 4294967296 / 65536 % 256, m % 4294967296 / 256 % 256, m % 4294967296 / 1 % 256] := rfl
  rw [e]
  simp only [List.flatten_cons, List.flatten_nil, List.append_nil, List.cons_append, List.nil_append, List.cons.injEq, and_true, true_and]
  omega
set_option maxRecDepth 100000 in
set_option maxHeartbeats 1600000 in
theorem walk_SealApart (v0 v1 v2 : Value) (w : World) (hR : Roots w) (q0 : IsRow .u8 w v0) (q1 : ∃ b0, Value.okWide Tryd.prog w .any b0 36 v1) (q2 : ∃ b0, Value.okWide Tryd.prog w .any b0 29 v2) :
    Calls Tryd.prog 4 #[v0, v1, v2] w fun e w' => e = .returned (.bool true) ∧ Below w.heap.size w w' := by
  obtain ⟨b1, q1⟩ := q1
  obtain ⟨b2, q2⟩ := q2
  obtain ⟨A, k, n, c, hn, n3, n1, n2, hk, hA, hf⟩ := few_of (k := 60) q0 few09
  obtain ⟨s, r, m, rfl, s1, r1, m1⟩ := flat_who _ _ _ q1
  obtain ⟨nc, rfl, NL, NB⟩ := flat_b8 _ _ _ q2
  have CP := fun (W : World) (hb : Below w.heap.size w W) => proof_any A k nc n c s r W hn (hk.below hb) (by omega) NL NB (hR.below hb)
  have CK := fun (W : World) (hb : Below w.heap.size w W) => key_any A k nc n c s r W hn (hk.below hb) (by omega) NL NB (hR.below hb)
  have CN := fun (W : World) (hb : Below w.heap.size w W) => nonce_any A k n c s m W hn (hk.below hb) (by omega) (hR.below hb)
  have CT := fun (B : Option Addr) (b : List Int) (l d : Nat) (W : World) (hl : b.length = l) (hl2 : l ≤ 1000) (hb : Row W B b) (hw : Below w.heap.size w W) => tag_any A B k b n l c d W hn hl (hk.below hw) hb (by omega) (by omega) (hR.below hw)
  have CO := fun (B : Option Addr) (b : List Int) (l d : Nat) (W : World) (hl : b.length = l) (hl2 : l ≤ 1000) (hb : Row W B b) (hw : Below w.heap.size w W) => of_any A B k b n l c d W hn hl (hk.below hw) hb (by omega) (by omega) (hR.below hw)
  have E80 := login_lit 80 s r nc
  have E75 := login_lit 75 s r nc
  have E78 := nonce_lit s m
  have L80 : ((hmac k (loginB 80 s r nc)).take 8).length = 8 := by rw [List.length_take, hmac_len]; rfl
  have L75 : (hmac k (loginB 75 s r nc)).length = 32 := hmac_len _ _
  have L78 : ((hmac k (nonceB s m)).take 8).length = 8 := by rw [List.length_take, hmac_len]; rfl
  have as_ := i64_and255 s
  have ar := i64_and255 r
  have am := i64_and255 m
  have a24 := i64_and255 (m / 16777216)
  have a16 := i64_and255 (m / 65536)
  have a8 := i64_and255 (m / 256)
  have bs : 0 ≤ s % 256 ∧ s % 256 ≤ 255 := by omega
  have br : 0 ≤ r % 256 ∧ r % 256 ≤ 255 := by omega
  have bm : 0 ≤ m % 256 ∧ m % 256 ≤ 255 := by omega
  have b24 : 0 ≤ m / 16777216 % 256 ∧ m / 16777216 % 256 ≤ 255 := by omega
  have b16 : 0 ≤ m / 65536 % 256 ∧ m / 65536 % 256 ≤ 255 := by omega
  have b8 : 0 ≤ m / 256 % 256 ∧ m / 256 % 256 ≤ 255 := by omega
  generalize s % 256 = sb at *
  generalize r % 256 = rb at *
  generalize m % 256 = mb at *
  generalize m / 16777216 % 256 = x24 at *
  generalize m / 65536 % 256 = x16 at *
  generalize m / 256 % 256 = x8 at *
  have us : IntKind.u8.wrap sb = sb := by rw [IntKind.wrap_u8']; omega
  have ur : IntKind.u8.wrap rb = rb := by rw [IntKind.wrap_u8']; omega
  have um : IntKind.u8.wrap mb = mb := by rw [IntKind.wrap_u8']; omega
  have u24 : IntKind.u8.wrap x24 = x24 := by rw [IntKind.wrap_u8']; omega
  have u16 : IntKind.u8.wrap x16 = x16 := by rw [IntKind.wrap_u8']; omega
  have u8 : IntKind.u8.wrap x8 = x8 := by rw [IntKind.wrap_u8']; omega
  replace CP := Lib.hid CP
  replace CK := Lib.hid CK
  replace CN := Lib.hid CN
  replace CT := Lib.hid CT
  replace CO := Lib.hid CO
  replace E80 := Lib.hid E80
  replace E75 := Lib.hid E75
  replace E78 := Lib.hid E78
  replace L80 := Lib.hid L80
  replace L75 := Lib.hid L75
  replace L78 := Lib.hid L78
  replace NL := Lib.hid NL
  replace NB := Lib.hid NB
  have HF := Lib.hid hf
  have RT := Lib.hid hR
  clear hn hk hf hA hR q0 q1 q2 s1 r1 m1
  go_enter Tryd.func4, Tryd.ntmps4
  go_wp2_with fail
  have K4 := Lib.hid ((Blk.new w #[.int .i64 s, .int .i64 r, .int .i64 m] 36).alloc (.cells (u8V nc) 29))
  have K5 := Lib.hid (Blk.new' (w.alloc (.cells #[.int .i64 s, .int .i64 r, .int .i64 m] 36)) (u8V nc) 29 (g := w.heap.size + 1) (by simp))
  have BB := Lib.hid (below_alloc2 w (.cells #[.int .i64 s, .int .i64 r, .int .i64 m] 36) (.cells (u8V nc) 29))
  generalize (w.alloc (.cells #[.int .i64 s, .int .i64 r, .int .i64 m] 36)).alloc (.cells (u8V nc) 29) = w1 at *
  ((with_reducible refine (shown09 _ (RT.out.below BB.out)).mono ?_))
  rintro e w2 ⟨rfl, b2⟩
  replace K4 := Lib.hid (K4.out.below b2)
  replace K5 := Lib.hid (K5.out.below b2)
  replace BB := Lib.hid (bt BB.out b2)
  clear b2
  go_wp2_with fail
  ((with_reducible refine (HF.out _).mono ?_))
  rintro e w3 ⟨rfl, rfl⟩
  clear HF
  have c0 := K4.out.cell 0
  have c1 := K4.out.cell 1
  have c2 := K4.out.cell 2
  simp only [List.getElem?_toArray, List.getElem?_cons_zero, List.getElem?_cons_succ] at c0 c1 c2
  go_wp2_with ((with_reducible show wpList _ _ _ (⟨_, .load 29 _, _, _, _, none⟩ :: _) _ _); (with_reducible refine wpBlk_load (g := w.heap.size + 1) agg_b8 ?_ ?_ K5 ?_ ?_); (· exact wanted0 rfl); (· exact ⟨rfl, rfl⟩); (· rw [u8V_size, NL.out]))
  clear c0 c1 c2
  ((with_reducible refine (CP.out _ BB.out).mono ?_))
  rintro e w3a ⟨rfl, b3⟩
  replace K4 := Lib.hid (K4.out.below b3)
  replace K5 := Lib.hid (K5.out.below b3)
  replace BB := Lib.hid (bt BB.out b3)
  clear b3
  go_wp2_with ((with_reducible show wpList _ _ _ (⟨_, .alloc 29, _, _, _, none⟩ :: _) _ _); (with_reducible refine wpRow_alloc zeroT_b8 ?_ ?_ ?_); (· exact wanted0 rfl); (· rfl); refine Marker.mk ?_)
  refine Marker.in ?_
  have lK4 := K4.out.lt
  have lK5 := K5.out.lt
  have bel := below_alloc1 w3a (.cells (u8V (zeros 8)) 29)
  replace K4 := Lib.hid (K4.out.below bel)
  replace K5 := Lib.hid (K5.out.below bel)
  replace BB := Lib.hid (bt BB.out bel)
  have K11 := Lib.hid (Blk.new w3a (u8V (zeros 8)) 29)
  clear bel
  generalize w3a.alloc (.cells (u8V (zeros 8)) 29) = w3b at *
  generalize w3a.heap.size = g11 at *
  go_wp2_with ((with_reducible show wpList _ _ _ (⟨_, .store 29 _ _, _, _, _, none⟩ :: _) _ _); (with_reducible refine wpBlk_store (g := g11) (cs := u8V ((hmac k (loginB 80 s r nc)).take 8)) agg_b8 ?_ ?_ K11 ?_ ?_ ?_ ?_); (· exact wanted0 rfl); (· exact ⟨rfl, rfl, rfl⟩); (· rw [u8V_size, zeros_len]); (· rw [u8V_size, L80.out]); (· exact u8V_one _); refine Marker.mk ?_)
  refine Marker.in ?_
  replace K4 := Lib.hid (K4.out.setRow_other g11 (u8V ((hmac k (loginB 80 s r nc)).take 8)) (by omega))
  replace K5 := Lib.hid (K5.out.setRow_other g11 (u8V ((hmac k (loginB 80 s r nc)).take 8)) (by omega))
  replace K11 := Lib.hid (K11.out.setRow (u8V ((hmac k (loginB 80 s r nc)).take 8)))
  replace BB := Lib.hid (below_setRow (g := g11) BB.out (by have := BB.out.size; omega) (u8V ((hmac k (loginB 80 s r nc)).take 8)))
  generalize w3b.setRow g11 (u8V ((hmac k (loginB 80 s r nc)).take 8)) = w3 at *
  clear lK4
  clear lK5
  go_wp2_with (at_builtin; refine Marker.mk ?_)
  refine Marker.in ?_
  have lK4 := K4.out.lt
  have lK5 := K5.out.lt
  have lK11 := K11.out.lt
  have bel := below_alloc1 w3 (.cells #[.int .u8 80, .int .u8 sb, .int .u8 rb] 5)
  replace K4 := Lib.hid (K4.out.below bel)
  replace K5 := Lib.hid (K5.out.below bel)
  replace K11 := Lib.hid (K11.out.below bel)
  replace BB := Lib.hid (bt BB.out bel)
  have KL := Lib.hid (Blk.new w3 #[.int .u8 80, .int .u8 sb, .int .u8 rb] 5)
  clear bel
  generalize w3.alloc (.cells #[.int .u8 80, .int .u8 sb, .int .u8 rb] 5) = w4c at *
  generalize w3.heap.size = gL at *
  have rl : Row w4c (some ⟨gL, 0, none⟩) [80, sb, rb] := row_block' KL.out rfl (by intro x hx; simp at hx; omega)
  have rn := u8V_row K5.out NB.out
  replace rl := Lib.hid rl
  replace rn := Lib.hid rn
  (with_reducible refine wpList_append_full _ ?_ (.tmp 38) (.tmp 39) rfl gL 3 [80, sb, rb] rfl ?_ rl.out (w.heap.size + 1) 8 8 nc NL.out ?_ rn.out (by omega) (by omega) ?_)
  · exact wanted0 rfl
  · rfl
  · rfl
  intro A1 cap1 w4d o1 b4
  replace K4 := Lib.hid (K4.out.below b4)
  replace K5 := Lib.hid (K5.out.below b4)
  replace K11 := Lib.hid (K11.out.below b4)
  replace BB := Lib.hid (bt BB.out b4)
  have r4 := o1.row
  rw [E80.out] at r4
  replace r4 := Lib.hid r4
  clear b4 o1 rl rn KL
  clear lK4
  clear lK5
  clear lK11
  go_wp2_with fail
  ((with_reducible refine (CT.out _ _ 11 _ _ (loginB_len 80 s r nc NL.out) (by omega) r4.out BB.out).mono ?_))
  rintro e w5a ⟨rfl, b3⟩
  replace K4 := Lib.hid (K4.out.below b3)
  replace K5 := Lib.hid (K5.out.below b3)
  replace K11 := Lib.hid (K11.out.below b3)
  replace BB := Lib.hid (bt BB.out b3)
  clear b3
  go_wp2_with ((with_reducible show wpList _ _ _ (⟨_, .alloc 29, _, _, _, none⟩ :: _) _ _); (with_reducible refine wpRow_alloc zeroT_b8 ?_ ?_ ?_); (· exact wanted0 rfl); (· rfl); refine Marker.mk ?_)
  refine Marker.in ?_
  have lK4 := K4.out.lt
  have lK5 := K5.out.lt
  have lK11 := K11.out.lt
  have bel := below_alloc1 w5a (.cells (u8V (zeros 8)) 29)
  replace K4 := Lib.hid (K4.out.below bel)
  replace K5 := Lib.hid (K5.out.below bel)
  replace K11 := Lib.hid (K11.out.below bel)
  replace BB := Lib.hid (bt BB.out bel)
  have K12 := Lib.hid (Blk.new w5a (u8V (zeros 8)) 29)
  clear bel
  generalize w5a.alloc (.cells (u8V (zeros 8)) 29) = w5b at *
  generalize w5a.heap.size = g12 at *
  go_wp2_with ((with_reducible show wpList _ _ _ (⟨_, .store 29 _ _, _, _, _, none⟩ :: _) _ _); (with_reducible refine wpBlk_store (g := g12) (cs := u8V ((hmac k (loginB 80 s r nc)).take 8)) agg_b8 ?_ ?_ K12 ?_ ?_ ?_ ?_); (· exact wanted0 rfl); (· exact ⟨rfl, rfl, rfl⟩); (· rw [u8V_size, zeros_len]); (· rw [u8V_size, L80.out]); (· exact u8V_one _); refine Marker.mk ?_)
  refine Marker.in ?_
  replace K4 := Lib.hid (K4.out.setRow_other g12 (u8V ((hmac k (loginB 80 s r nc)).take 8)) (by omega))
  replace K5 := Lib.hid (K5.out.setRow_other g12 (u8V ((hmac k (loginB 80 s r nc)).take 8)) (by omega))
  replace K11 := Lib.hid (K11.out.setRow_other g12 (u8V ((hmac k (loginB 80 s r nc)).take 8)) (by omega))
  replace K12 := Lib.hid (K12.out.setRow (u8V ((hmac k (loginB 80 s r nc)).take 8)))
  replace BB := Lib.hid (below_setRow (g := g12) BB.out (by have := BB.out.size; omega) (u8V ((hmac k (loginB 80 s r nc)).take 8)))
  generalize w5b.setRow g12 (u8V ((hmac k (loginB 80 s r nc)).take 8)) = w5 at *
  clear lK4
  clear lK5
  clear lK11
  clear r4
  have c0 := K4.out.cell 0
  have c1 := K4.out.cell 1
  have c2 := K4.out.cell 2
  simp only [List.getElem?_toArray, List.getElem?_cons_zero, List.getElem?_cons_succ] at c0 c1 c2
  go_wp2_with ((with_reducible show wpList _ _ _ (⟨_, .load 29 _, _, _, _, none⟩ :: _) _ _); (with_reducible refine wpBlk_load (g := w.heap.size + 1) agg_b8 ?_ ?_ K5 ?_ ?_); (· exact wanted0 rfl); (· exact ⟨rfl, rfl⟩); (· rw [u8V_size, NL.out]))
  clear c0 c1 c2
  ((with_reducible refine (CK.out _ BB.out).mono ?_))
  rintro e w6a ⟨rfl, b3⟩
  replace K4 := Lib.hid (K4.out.below b3)
  replace K5 := Lib.hid (K5.out.below b3)
  replace K11 := Lib.hid (K11.out.below b3)
  replace K12 := Lib.hid (K12.out.below b3)
  replace BB := Lib.hid (bt BB.out b3)
  clear b3
  go_wp2_with ((with_reducible show wpList _ _ _ (⟨_, .alloc 22, _, _, _, none⟩ :: _) _ _); (with_reducible refine wpRow_alloc zeroT_b32 ?_ ?_ ?_); (· exact wanted0 rfl); (· rfl); refine Marker.mk ?_)
  refine Marker.in ?_
  have lK4 := K4.out.lt
  have lK5 := K5.out.lt
  have lK11 := K11.out.lt
  have lK12 := K12.out.lt
  have bel := below_alloc1 w6a (.cells (u8V (zeros 32)) 22)
  replace K4 := Lib.hid (K4.out.below bel)
  replace K5 := Lib.hid (K5.out.below bel)
  replace K11 := Lib.hid (K11.out.below bel)
  replace K12 := Lib.hid (K12.out.below bel)
  replace BB := Lib.hid (bt BB.out bel)
  have K13 := Lib.hid (Blk.new w6a (u8V (zeros 32)) 22)
  clear bel
  generalize w6a.alloc (.cells (u8V (zeros 32)) 22) = w6b at *
  generalize w6a.heap.size = g13 at *
  go_wp2_with ((with_reducible show wpList _ _ _ (⟨_, .store 22 _ _, _, _, _, none⟩ :: _) _ _); (with_reducible refine wpBlk_store (g := g13) (cs := u8V (hmac k (loginB 75 s r nc))) agg_b32 ?_ ?_ K13 ?_ ?_ ?_ ?_); (· exact wanted0 rfl); (· exact ⟨rfl, rfl, rfl⟩); (· rw [u8V_size, zeros_len]); (· rw [u8V_size, L75.out]); (· exact u8V_one _); refine Marker.mk ?_)
  refine Marker.in ?_
  replace K4 := Lib.hid (K4.out.setRow_other g13 (u8V (hmac k (loginB 75 s r nc))) (by omega))
  replace K5 := Lib.hid (K5.out.setRow_other g13 (u8V (hmac k (loginB 75 s r nc))) (by omega))
  replace K11 := Lib.hid (K11.out.setRow_other g13 (u8V (hmac k (loginB 75 s r nc))) (by omega))
  replace K12 := Lib.hid (K12.out.setRow_other g13 (u8V (hmac k (loginB 75 s r nc))) (by omega))
  replace K13 := Lib.hid (K13.out.setRow (u8V (hmac k (loginB 75 s r nc))))
  replace BB := Lib.hid (below_setRow (g := g13) BB.out (by have := BB.out.size; omega) (u8V (hmac k (loginB 75 s r nc))))
  generalize w6b.setRow g13 (u8V (hmac k (loginB 75 s r nc))) = w6 at *
  clear lK4
  clear lK5
  clear lK11
  clear lK12
  go_wp2_with (at_builtin; refine Marker.mk ?_)
  refine Marker.in ?_
  have lK4 := K4.out.lt
  have lK5 := K5.out.lt
  have lK11 := K11.out.lt
  have lK12 := K12.out.lt
  have lK13 := K13.out.lt
  have bel := below_alloc1 w6 (.cells #[.int .u8 75, .int .u8 sb, .int .u8 rb] 5)
  replace K4 := Lib.hid (K4.out.below bel)
  replace K5 := Lib.hid (K5.out.below bel)
  replace K11 := Lib.hid (K11.out.below bel)
  replace K12 := Lib.hid (K12.out.below bel)
  replace K13 := Lib.hid (K13.out.below bel)
  replace BB := Lib.hid (bt BB.out bel)
  have KL := Lib.hid (Blk.new w6 #[.int .u8 75, .int .u8 sb, .int .u8 rb] 5)
  clear bel
  generalize w6.alloc (.cells #[.int .u8 75, .int .u8 sb, .int .u8 rb] 5) = w7c at *
  generalize w6.heap.size = gL at *
  have rl : Row w7c (some ⟨gL, 0, none⟩) [75, sb, rb] := row_block' KL.out rfl (by intro x hx; simp at hx; omega)
  have rn := u8V_row K5.out NB.out
  replace rl := Lib.hid rl
  replace rn := Lib.hid rn
  (with_reducible refine wpList_append_full _ ?_ (.tmp 52) (.tmp 53) rfl gL 3 [75, sb, rb] rfl ?_ rl.out (w.heap.size + 1) 8 8 nc NL.out ?_ rn.out (by omega) (by omega) ?_)
  · exact wanted0 rfl
  · rfl
  · rfl
  intro A1 cap1 w7d o1 b4
  replace K4 := Lib.hid (K4.out.below b4)
  replace K5 := Lib.hid (K5.out.below b4)
  replace K11 := Lib.hid (K11.out.below b4)
  replace K12 := Lib.hid (K12.out.below b4)
  replace K13 := Lib.hid (K13.out.below b4)
  replace BB := Lib.hid (bt BB.out b4)
  have r4 := o1.row
  rw [E75.out] at r4
  replace r4 := Lib.hid r4
  clear b4 o1 rl rn KL
  clear lK4
  clear lK5
  clear lK11
  clear lK12
  clear lK13
  go_wp2_with fail
  ((with_reducible refine (CO.out _ _ 11 _ _ (loginB_len 75 s r nc NL.out) (by omega) r4.out BB.out).mono ?_))
  rintro e w8a ⟨rfl, b3⟩
  replace K4 := Lib.hid (K4.out.below b3)
  replace K5 := Lib.hid (K5.out.below b3)
  replace K11 := Lib.hid (K11.out.below b3)
  replace K12 := Lib.hid (K12.out.below b3)
  replace K13 := Lib.hid (K13.out.below b3)
  replace BB := Lib.hid (bt BB.out b3)
  clear b3
  go_wp2_with ((with_reducible show wpList _ _ _ (⟨_, .alloc 22, _, _, _, none⟩ :: _) _ _); (with_reducible refine wpRow_alloc zeroT_b32 ?_ ?_ ?_); (· exact wanted0 rfl); (· rfl); refine Marker.mk ?_)
  refine Marker.in ?_
  have lK4 := K4.out.lt
  have lK5 := K5.out.lt
  have lK11 := K11.out.lt
  have lK12 := K12.out.lt
  have lK13 := K13.out.lt
  have bel := below_alloc1 w8a (.cells (u8V (zeros 32)) 22)
  replace K4 := Lib.hid (K4.out.below bel)
  replace K5 := Lib.hid (K5.out.below bel)
  replace K11 := Lib.hid (K11.out.below bel)
  replace K12 := Lib.hid (K12.out.below bel)
  replace K13 := Lib.hid (K13.out.below bel)
  replace BB := Lib.hid (bt BB.out bel)
  have K14 := Lib.hid (Blk.new w8a (u8V (zeros 32)) 22)
  clear bel
  generalize w8a.alloc (.cells (u8V (zeros 32)) 22) = w8b at *
  generalize w8a.heap.size = g14 at *
  go_wp2_with ((with_reducible show wpList _ _ _ (⟨_, .store 22 _ _, _, _, _, none⟩ :: _) _ _); (with_reducible refine wpBlk_store (g := g14) (cs := u8V (hmac k (loginB 75 s r nc))) agg_b32 ?_ ?_ K14 ?_ ?_ ?_ ?_); (· exact wanted0 rfl); (· exact ⟨rfl, rfl, rfl⟩); (· rw [u8V_size, zeros_len]); (· rw [u8V_size, L75.out]); (· exact u8V_one _); refine Marker.mk ?_)
  refine Marker.in ?_
  replace K4 := Lib.hid (K4.out.setRow_other g14 (u8V (hmac k (loginB 75 s r nc))) (by omega))
  replace K5 := Lib.hid (K5.out.setRow_other g14 (u8V (hmac k (loginB 75 s r nc))) (by omega))
  replace K11 := Lib.hid (K11.out.setRow_other g14 (u8V (hmac k (loginB 75 s r nc))) (by omega))
  replace K12 := Lib.hid (K12.out.setRow_other g14 (u8V (hmac k (loginB 75 s r nc))) (by omega))
  replace K13 := Lib.hid (K13.out.setRow_other g14 (u8V (hmac k (loginB 75 s r nc))) (by omega))
  replace K14 := Lib.hid (K14.out.setRow (u8V (hmac k (loginB 75 s r nc))))
  replace BB := Lib.hid (below_setRow (g := g14) BB.out (by have := BB.out.size; omega) (u8V (hmac k (loginB 75 s r nc))))
  generalize w8b.setRow g14 (u8V (hmac k (loginB 75 s r nc))) = w8 at *
  clear lK4
  clear lK5
  clear lK11
  clear lK12
  clear lK13
  clear r4
  have c0 := K4.out.cell 0
  have c1 := K4.out.cell 1
  have c2 := K4.out.cell 2
  simp only [List.getElem?_toArray, List.getElem?_cons_zero, List.getElem?_cons_succ] at c0 c1 c2
  go_wp2_with fail
  clear c0 c1 c2
  ((with_reducible refine (CN.out _ BB.out).mono ?_))
  rintro e w9a ⟨rfl, b3⟩
  replace K4 := Lib.hid (K4.out.below b3)
  replace K5 := Lib.hid (K5.out.below b3)
  replace K11 := Lib.hid (K11.out.below b3)
  replace K12 := Lib.hid (K12.out.below b3)
  replace K13 := Lib.hid (K13.out.below b3)
  replace K14 := Lib.hid (K14.out.below b3)
  replace BB := Lib.hid (bt BB.out b3)
  clear b3
  go_wp2_with ((with_reducible show wpList _ _ _ (⟨_, .alloc 29, _, _, _, none⟩ :: _) _ _); (with_reducible refine wpRow_alloc zeroT_b8 ?_ ?_ ?_); (· exact wanted0 rfl); (· rfl); refine Marker.mk ?_)
  refine Marker.in ?_
  have lK4 := K4.out.lt
  have lK5 := K5.out.lt
  have lK11 := K11.out.lt
  have lK12 := K12.out.lt
  have lK13 := K13.out.lt
  have lK14 := K14.out.lt
  have bel := below_alloc1 w9a (.cells (u8V (zeros 8)) 29)
  replace K4 := Lib.hid (K4.out.below bel)
  replace K5 := Lib.hid (K5.out.below bel)
  replace K11 := Lib.hid (K11.out.below bel)
  replace K12 := Lib.hid (K12.out.below bel)
  replace K13 := Lib.hid (K13.out.below bel)
  replace K14 := Lib.hid (K14.out.below bel)
  replace BB := Lib.hid (bt BB.out bel)
  have K15 := Lib.hid (Blk.new w9a (u8V (zeros 8)) 29)
  clear bel
  generalize w9a.alloc (.cells (u8V (zeros 8)) 29) = w9b at *
  generalize w9a.heap.size = g15 at *
  go_wp2_with ((with_reducible show wpList _ _ _ (⟨_, .store 29 _ _, _, _, _, none⟩ :: _) _ _); (with_reducible refine wpBlk_store (g := g15) (cs := u8V ((hmac k (nonceB s m)).take 8)) agg_b8 ?_ ?_ K15 ?_ ?_ ?_ ?_); (· exact wanted0 rfl); (· exact ⟨rfl, rfl, rfl⟩); (· rw [u8V_size, zeros_len]); (· rw [u8V_size, L78.out]); (· exact u8V_one _); refine Marker.mk ?_)
  refine Marker.in ?_
  replace K4 := Lib.hid (K4.out.setRow_other g15 (u8V ((hmac k (nonceB s m)).take 8)) (by omega))
  replace K5 := Lib.hid (K5.out.setRow_other g15 (u8V ((hmac k (nonceB s m)).take 8)) (by omega))
  replace K11 := Lib.hid (K11.out.setRow_other g15 (u8V ((hmac k (nonceB s m)).take 8)) (by omega))
  replace K12 := Lib.hid (K12.out.setRow_other g15 (u8V ((hmac k (nonceB s m)).take 8)) (by omega))
  replace K13 := Lib.hid (K13.out.setRow_other g15 (u8V ((hmac k (nonceB s m)).take 8)) (by omega))
  replace K14 := Lib.hid (K14.out.setRow_other g15 (u8V ((hmac k (nonceB s m)).take 8)) (by omega))
  replace K15 := Lib.hid (K15.out.setRow (u8V ((hmac k (nonceB s m)).take 8)))
  replace BB := Lib.hid (below_setRow (g := g15) BB.out (by have := BB.out.size; omega) (u8V ((hmac k (nonceB s m)).take 8)))
  generalize w9b.setRow g15 (u8V ((hmac k (nonceB s m)).take 8)) = w9 at *
  clear lK4
  clear lK5
  clear lK11
  clear lK12
  clear lK13
  clear lK14
  have c0 := K4.out.cell 0
  have c1 := K4.out.cell 1
  have c2 := K4.out.cell 2
  simp only [List.getElem?_toArray, List.getElem?_cons_zero, List.getElem?_cons_succ] at c0 c1 c2
  go_wp2_with (go_at_call 13; refine Marker.mk ?_)
  refine Marker.in ?_
  clear c0 c1 c2
  have bel := below_alloc1 w9 (.cells #[.int .u8 78, .int .u8 sb, .int .u8 x24, .int .u8 x16, .int .u8 x8, .int .u8 mb] 5)
  replace K4 := Lib.hid (K4.out.below bel)
  replace K5 := Lib.hid (K5.out.below bel)
  replace K11 := Lib.hid (K11.out.below bel)
  replace K12 := Lib.hid (K12.out.below bel)
  replace K13 := Lib.hid (K13.out.below bel)
  replace K14 := Lib.hid (K14.out.below bel)
  replace K15 := Lib.hid (K15.out.below bel)
  replace BB := Lib.hid (bt BB.out bel)
  have KL := Lib.hid (Blk.new w9 #[.int .u8 78, .int .u8 sb, .int .u8 x24, .int .u8 x16, .int .u8 x8, .int .u8 mb] 5)
  clear bel
  generalize w9.alloc (.cells #[.int .u8 78, .int .u8 sb, .int .u8 x24, .int .u8 x16, .int .u8 x8, .int .u8 mb] 5) = w9c at *
  have r6 : Row w9c (some ⟨w9.heap.size, 0, none⟩) (nonceB s m) := by
    rw [← E78.out]
    exact row_block' KL.out rfl (by intro x hx; simp at hx; omega)
  replace r6 := Lib.hid r6
  clear KL
  ((with_reducible refine (CT.out _ _ 6 _ _ (nonceB_len s m) (by omega) r6.out BB.out).mono ?_))
  rintro e w10a ⟨rfl, b3⟩
  replace K4 := Lib.hid (K4.out.below b3)
  replace K5 := Lib.hid (K5.out.below b3)
  replace K11 := Lib.hid (K11.out.below b3)
  replace K12 := Lib.hid (K12.out.below b3)
  replace K13 := Lib.hid (K13.out.below b3)
  replace K14 := Lib.hid (K14.out.below b3)
  replace K15 := Lib.hid (K15.out.below b3)
  replace BB := Lib.hid (bt BB.out b3)
  clear b3
  go_wp2_with ((with_reducible show wpList _ _ _ (⟨_, .alloc 29, _, _, _, none⟩ :: _) _ _); (with_reducible refine wpRow_alloc zeroT_b8 ?_ ?_ ?_); (· exact wanted0 rfl); (· rfl); refine Marker.mk ?_)
  refine Marker.in ?_
  have lK4 := K4.out.lt
  have lK5 := K5.out.lt
  have lK11 := K11.out.lt
  have lK12 := K12.out.lt
  have lK13 := K13.out.lt
  have lK14 := K14.out.lt
  have lK15 := K15.out.lt
  have bel := below_alloc1 w10a (.cells (u8V (zeros 8)) 29)
  replace K4 := Lib.hid (K4.out.below bel)
  replace K5 := Lib.hid (K5.out.below bel)
  replace K11 := Lib.hid (K11.out.below bel)
  replace K12 := Lib.hid (K12.out.below bel)
  replace K13 := Lib.hid (K13.out.below bel)
  replace K14 := Lib.hid (K14.out.below bel)
  replace K15 := Lib.hid (K15.out.below bel)
  replace BB := Lib.hid (bt BB.out bel)
  have K16 := Lib.hid (Blk.new w10a (u8V (zeros 8)) 29)
  clear bel
  generalize w10a.alloc (.cells (u8V (zeros 8)) 29) = w10b at *
  generalize w10a.heap.size = g16 at *
  go_wp2_with ((with_reducible show wpList _ _ _ (⟨_, .store 29 _ _, _, _, _, none⟩ :: _) _ _); (with_reducible refine wpBlk_store (g := g16) (cs := u8V ((hmac k (nonceB s m)).take 8)) agg_b8 ?_ ?_ K16 ?_ ?_ ?_ ?_); (· exact wanted0 rfl); (· exact ⟨rfl, rfl, rfl⟩); (· rw [u8V_size, zeros_len]); (· rw [u8V_size, L78.out]); (· exact u8V_one _); refine Marker.mk ?_)
  refine Marker.in ?_
  replace K4 := Lib.hid (K4.out.setRow_other g16 (u8V ((hmac k (nonceB s m)).take 8)) (by omega))
  replace K5 := Lib.hid (K5.out.setRow_other g16 (u8V ((hmac k (nonceB s m)).take 8)) (by omega))
  replace K11 := Lib.hid (K11.out.setRow_other g16 (u8V ((hmac k (nonceB s m)).take 8)) (by omega))
  replace K12 := Lib.hid (K12.out.setRow_other g16 (u8V ((hmac k (nonceB s m)).take 8)) (by omega))
  replace K13 := Lib.hid (K13.out.setRow_other g16 (u8V ((hmac k (nonceB s m)).take 8)) (by omega))
  replace K14 := Lib.hid (K14.out.setRow_other g16 (u8V ((hmac k (nonceB s m)).take 8)) (by omega))
  replace K15 := Lib.hid (K15.out.setRow_other g16 (u8V ((hmac k (nonceB s m)).take 8)) (by omega))
  replace K16 := Lib.hid (K16.out.setRow (u8V ((hmac k (nonceB s m)).take 8)))
  replace BB := Lib.hid (below_setRow (g := g16) BB.out (by have := BB.out.size; omega) (u8V ((hmac k (nonceB s m)).take 8)))
  generalize w10b.setRow g16 (u8V ((hmac k (nonceB s m)).take 8)) = w10 at *
  clear lK4
  clear lK5
  clear lK11
  clear lK12
  clear lK13
  clear lK14
  clear lK15
  have EQ1 := eql_b8_self _ L80.out
  have EQ2 := eql_b32_self _ L75.out
  have EQ3 := eql_b8_self _ L78.out
  go_wp2_with (first | ((with_reducible show wpList _ _ _ (⟨_, .load 29 _, _, _, _, some _⟩ :: _) _ _); (with_reducible refine wpBlk_load (g := g11) agg_b8 ?_ ?_ K11 ?_ ?_); (· exact wantedY rfl rfl rfl); (· exact ⟨rfl, rfl⟩); (· rw [u8V_size, L80.out])) | ((with_reducible show wpList _ _ _ (⟨_, .load 29 _, _, _, _, some _⟩ :: _) _ _); (with_reducible refine wpBlk_load (g := g12) agg_b8 ?_ ?_ K12 ?_ ?_); (· exact wantedY rfl rfl rfl); (· exact ⟨rfl, rfl⟩); (· rw [u8V_size, L80.out])) | ((with_reducible show wpList _ _ _ (⟨_, .load 22 _, _, _, _, some _⟩ :: _) _ _); (with_reducible refine wpBlk_load (g := g13) agg_b32 ?_ ?_ K13 ?_ ?_); (· exact wantedY rfl rfl rfl); (· exact ⟨rfl, rfl⟩); (· rw [u8V_size, L75.out])) | ((with_reducible show wpList _ _ _ (⟨_, .load 22 _, _, _, _, some _⟩ :: _) _ _); (with_reducible refine wpBlk_load (g := g14) agg_b32 ?_ ?_ K14 ?_ ?_); (· exact wantedY rfl rfl rfl); (· exact ⟨rfl, rfl⟩); (· rw [u8V_size, L75.out])) | ((with_reducible show wpList _ _ _ (⟨_, .load 29 _, _, _, _, some _⟩ :: _) _ _); (with_reducible refine wpBlk_load (g := g15) agg_b8 ?_ ?_ K15 ?_ ?_); (· exact wantedY rfl rfl rfl); (· exact ⟨rfl, rfl⟩); (· rw [u8V_size, L78.out])) | ((with_reducible show wpList _ _ _ (⟨_, .load 29 _, _, _, _, some _⟩ :: _) _ _); (with_reducible refine wpBlk_load (g := g16) agg_b8 ?_ ?_ K16 ?_ ?_); (· exact wantedY rfl rfl rfl); (· exact ⟨rfl, rfl⟩); (· rw [u8V_size, L78.out])))
  go_ret
  exact ⟨rfl, BB.out⟩
end Go.Proofs.YtapednkmefbldaaDoor
