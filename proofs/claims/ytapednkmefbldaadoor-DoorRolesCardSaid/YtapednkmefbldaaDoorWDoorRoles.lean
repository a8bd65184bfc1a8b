/- The walk of DoorRoles. -/
import Derived.Test.YtapednkmefbldaaDoorDoorL
namespace Go.Proofs.YtapednkmefbldaaDoor
open Go.RowKit

set_option maxRecDepth 100000 in
set_option maxHeartbeats 1600000 in
theorem walk_DoorRoles (v0 v1 v2 : Value) (w : World) (hR : Roots w) (q0 : IsRow .u8 w v0) (q1 : ∃ b0, Value.okWide Tryd.prog w .any b0 53 v1) (q2 : ∃ b0, Value.okWide Tryd.prog w .any b0 53 v2) :
    Calls Tryd.prog 6 #[v0, v1, v2] w fun e w' => e = .returned (.bool true) ∧ Below w.heap.size w w' := by
  obtain ⟨b1, q1⟩ := q1
  obtain ⟨b2, q2⟩ := q2
  obtain ⟨A, k, n, c, hn, n3, n1, n2, hk, hA, hf⟩ := few_of (k := 60) q0 few15
  obtain ⟨sa, ra, a0, a1, a2, a3, a4, a5, a6, a7, rfl, ha⟩ := flat_try _ _ _ q1
  obtain ⟨sb, rb, x0, x1, x2, x3, x4, x5, x6, x7, rfl, hx⟩ := flat_try _ _ _ q2
  rw [show (#[.int .i64 sa, .int .i64 ra, .int .u8 a0, .int .u8 a1, .int .u8 a2, .int .u8 a3, .int .u8 a4, .int .u8 a5, .int .u8 a6, .int .u8 a7] : Array Value) = tryV sa ra [a0, a1, a2, a3, a4, a5, a6, a7] from rfl,
    show (#[.int .i64 sb, .int .i64 rb, .int .u8 x0, .int .u8 x1, .int .u8 x2, .int .u8 x3, .int .u8 x4, .int .u8 x5, .int .u8 x6, .int .u8 x7] : Array Value) = tryV sb rb [x0, x1, x2, x3, x4, x5, x6, x7] from rfl]
  have PL : ([a0, a1, a2, a3, a4, a5, a6, a7] : List Int).length = 8 := rfl
  have PB : ∀ x ∈ ([a0, a1, a2, a3, a4, a5, a6, a7] : List Int), 0 ≤ x ∧ x ≤ 255 := by
    intro x h
    simp only [List.mem_cons, List.not_mem_nil, or_false] at h
    omega
  generalize ([a0, a1, a2, a3, a4, a5, a6, a7] : List Int) = pa at *
  generalize ([x0, x1, x2, x3, x4, x5, x6, x7] : List Int) = pb at *
  have CP := fun (W : World) (hb : Below w.heap.size w W) => proof_any A k pa n c sa ra W hn (hk.below hb) (by omega) PL PB (hR.below hb)
  have CQ := fun (W : World) (hb : Below w.heap.size w W) => proof_any A k pa n c sb rb W hn (hk.below hb) (by omega) PL PB (hR.below hb)
  have RL : ((hmac k (loginB 80 sa ra pa)).take 8).length = 8 := by rw [List.length_take, hmac_len]; rfl
  have QL : ((hmac k (loginB 80 sb rb pa)).take 8).length = 8 := by rw [List.length_take, hmac_len]; rfl
  have RB : ∀ x ∈ (hmac k (loginB 80 sa ra pa)).take 8, 0 ≤ x ∧ x ≤ 255 := fun x hx => hmac_bytes _ _ x (List.mem_of_mem_take hx)
  have CG := fun (W : World) (hb : Below w.heap.size w W) => prove_good A k n c sa ra 1 pa _ W hn (hk.below hb) (by omega) PL PB (hR.below hb) RL RB rfl
  have CH := fun (W : World) (hb : Below w.heap.size w W) => prove_good A k n c sb rb 1 pa ((hmac k (loginB 80 sa ra pa)).take 8) W hn (hk.below hb) (by omega) PL PB (hR.below hb) RL RB
  have CI := fun (W : World) (hb : Below w.heap.size w W) => prove_bad A k n c sb rb 1 pa ((hmac k (loginB 80 sa ra pa)).take 8) W hn (hk.below hb) (by omega) PL PB (hR.below hb) RL RB
  have ES := Lib.hid (doorV_size 1 false (zeros 8) z8_len)
  have E1 := Lib.hid (doorV_one 1 false (zeros 8))
  have KA : (hmac k (loginB 75 sa ra pa)).length = 32 := hmac_len _ _
  have KB : (hmac k (loginB 75 sb rb pa)).length = 32 := hmac_len _ _
  generalize (hmac k (loginB 80 sa ra pa)).take 8 = pr at *
  generalize (hmac k (loginB 80 sb rb pa)).take 8 = ot at *
  generalize hmac k (loginB 75 sa ra pa) = ka at *
  generalize hmac k (loginB 75 sb rb pa) = kb at *
  have EQ := eql_b8 ot pr QL RL
  have DS := Lib.hid (doorV_size 1 true pa PL)
  have D1 := Lib.hid (doorV_one 1 true pa)
  have BD := Lib.hid (build_door 1 true pa PL)
  generalize doorV 1 true pa = dv at *
  generalize doorV 1 false (zeros 8) = cl at *
  have TS := tryV_size sa ra pa PL
  have TX := tryV_pf sa ra pa PL
  have T0 := tryV_0 sa ra pa
  have T1 := tryV_1 sa ra pa
  have U0 := tryV_0 sb rb pb
  have U1 := tryV_1 sb rb pb
  generalize tryV sa ra pa = ta at *
  generalize tryV sb rb pb = tb at *
  replace CP := Lib.hid CP
  replace CQ := Lib.hid CQ
  replace CG := Lib.hid CG
  replace CH := Lib.hid CH
  replace CI := Lib.hid CI
  replace RL := Lib.hid RL
  replace QL := Lib.hid QL
  replace KA := Lib.hid KA
  replace KB := Lib.hid KB
  replace PL := Lib.hid PL
  replace TS := Lib.hid TS
  replace TX := Lib.hid TX
  replace T0 := Lib.hid T0
  replace T1 := Lib.hid T1
  replace U0 := Lib.hid U0
  replace U1 := Lib.hid U1
  have HF := Lib.hid hf
  have RT := Lib.hid hR
  clear hn hk hf hA hR q0 q1 q2 ha hx PB RB
  by_cases same : ot = pr
  · rw [decide_eq_true same] at EQ
    replace CH := Lib.hid fun W hb => CH.out W hb same.symm
    clear CI same
    go_enter Tryd.func6, Tryd.ntmps6
    go_wp2_with fail
    have K4 := Lib.hid ((Blk.new w ta 53).alloc (.cells tb 53))
    have K5 := Lib.hid (Blk.new' (w.alloc (.cells ta 53)) tb 53 (g := w.heap.size + 1) (by simp))
    have BB := Lib.hid (below_alloc2 w (.cells ta 53) (.cells tb 53))
    generalize (w.alloc (.cells ta 53)).alloc (.cells tb 53) = w1 at *
    have n5 : w.heap.size < w.heap.size + 1 := by omega
    generalize w.heap.size + 1 = g5 at *
    ((with_reducible refine (shown15 _ (RT.out.below BB.out)).mono ?_))
    rintro e w2 ⟨rfl, b2⟩
    replace K4 := Lib.hid (K4.out.below b2)
    replace K5 := Lib.hid (K5.out.below b2)
    replace BB := Lib.hid (bt BB.out b2)
    clear b2
    go_wp2_with fail
    ((with_reducible refine (HF.out _).mono ?_))
    rintro e w3 ⟨rfl, rfl⟩
    clear HF
    have l5 := K5.out.lt
    go_wp2_with (first | ((with_reducible show wpList _ _ _ (⟨_, .load 29 _, _, _, _, none⟩ :: _) _ _); (with_reducible refine wpBlk_mid (g := w.heap.size) (off := 2) (cs := u8V pa) agg_b8 ?_ ?_ K4 ?_ ?_ ?_); (· exact wanted0 rfl); (· exact ⟨rfl, rfl⟩); (· rw [u8V_size, PL.out]); (· exact TX.out)) | ((with_reducible show wpList _ _ _ (⟨some 23, _, _, _, _, _⟩ :: _) _ _); refine wpList_build' rfl 46 _ rfl dv BD.out ?_) | ((with_reducible show wpList _ _ _ (⟨_, .alloc 46, _, _, _, none⟩ :: _) _ _); (with_reducible refine wpRow_alloc zeroT_door ?_ ?_ ?_); (· exact wanted0 rfl); (· rfl); refine Marker.mk ?_))
    refine Marker.in ?_
    have bel := below_alloc1 w2 (.cells (doorV 0 false (zeros 8)) 46)
    replace K4 := Lib.hid (K4.out.below bel)
    replace K5 := Lib.hid (K5.out.below bel)
    replace BB := Lib.hid (bt BB.out bel)
    have K9 := Lib.hid (Blk.new w2 (doorV 0 false (zeros 8)) 46)
    clear bel
    generalize w2.alloc (.cells (doorV 0 false (zeros 8)) 46) = w3 at *
    generalize w2.heap.size = g9 at *
    go_wp2_with ((with_reducible show wpList _ _ _ (⟨_, .store 46 _ _, _, _, _, none⟩ :: _) _ _); (with_reducible refine wpBlk_store (g := g9) (cs := dv) agg_door ?_ ?_ K9 ?_ ?_ ?_ ?_); (· exact wanted0 rfl); (· exact ⟨rfl, rfl, rfl⟩); (· exact doorV_size _ _ _ z8_len); (· exact DS.out); (· exact D1.out); refine Marker.mk ?_)
    refine Marker.in ?_
    replace K4 := Lib.hid (K4.out.setRow_other g9 dv (by omega))
    replace K5 := Lib.hid (K5.out.setRow_other g9 dv (by omega))
    replace K9 := Lib.hid (K9.out.setRow dv)
    replace BB := Lib.hid (below_setRow (g := g9) BB.out (by omega) dv)
    generalize w3.setRow g9 dv = w4 at *
    have l9 := K9.out.lt
    have c0 := K4.out.cell 0
    have c1 := K4.out.cell 1
    rw [T0.out] at c0
    rw [T1.out] at c1
    go_wp2_with ((with_reducible show wpList _ _ _ (⟨_, .load 29 _, _, _, _, none⟩ :: _) _ _); (with_reducible refine wpBlk_mid (g := w.heap.size) (off := 2) (cs := u8V pa) agg_b8 ?_ ?_ K4 ?_ ?_ ?_); (· exact wanted0 rfl); (· exact ⟨rfl, rfl⟩); (· rw [u8V_size, PL.out]); (· exact TX.out))
    clear c0 c1
    ((with_reducible refine (CP.out _ BB.out).mono ?_))
    rintro e w5a ⟨rfl, b3⟩
    replace K4 := Lib.hid (K4.out.below b3)
    replace K5 := Lib.hid (K5.out.below b3)
    replace K9 := Lib.hid (K9.out.below b3)
    replace BB := Lib.hid (bt BB.out b3)
    clear b3 CP
    have lK10 := K9.out.lt
    go_wp2_with ((with_reducible show wpList _ _ _ (⟨_, .alloc 29, _, _, _, none⟩ :: _) _ _); (with_reducible refine wpRow_alloc zeroT_b8 ?_ ?_ ?_); (· exact wanted0 rfl); (· rfl); refine Marker.mk ?_)
    refine Marker.in ?_
    have bel := below_alloc1 w5a (.cells (u8V (zeros 8)) 29)
    replace K4 := Lib.hid (K4.out.below bel)
    replace K5 := Lib.hid (K5.out.below bel)
    replace K9 := Lib.hid (K9.out.below bel)
    replace BB := Lib.hid (bt BB.out bel)
    have K10 := Lib.hid (Blk.new w5a (u8V (zeros 8)) 29)
    clear bel
    generalize w5a.alloc (.cells (u8V (zeros 8)) 29) = w5b at *
    generalize w5a.heap.size = g10 at *
    go_wp2_with ((with_reducible show wpList _ _ _ (⟨_, .store 29 _ _, _, _, _, none⟩ :: _) _ _); (with_reducible refine wpBlk_store (g := g10) (cs := u8V pr) agg_b8 ?_ ?_ K10 ?_ ?_ ?_ ?_); (· exact wanted0 rfl); (· exact ⟨rfl, rfl, rfl⟩); (· rw [u8V_size, zeros_len]); (· rw [u8V_size, RL.out]); (· exact u8V_one _); refine Marker.mk ?_)
    refine Marker.in ?_
    replace K4 := Lib.hid (K4.out.setRow_other g10 (u8V pr) (by omega))
    replace K5 := Lib.hid (K5.out.setRow_other g10 (u8V pr) (by omega))
    replace K9 := Lib.hid (K9.out.setRow_other g10 (u8V pr) (by omega))
    replace K10 := Lib.hid (K10.out.setRow (u8V pr))
    replace BB := Lib.hid (below_setRow (g := g10) BB.out (by omega) (u8V pr))
    generalize w5b.setRow g10 (u8V pr) = w5 at *
    have c0 := K5.out.cell 0
    have c1 := K5.out.cell 1
    rw [U0.out] at c0
    rw [U1.out] at c1
    go_wp2_with ((with_reducible show wpList _ _ _ (⟨_, .load 29 _, _, _, _, none⟩ :: _) _ _); (with_reducible refine wpBlk_mid (g := w.heap.size) (off := 2) (cs := u8V pa) agg_b8 ?_ ?_ K4 ?_ ?_ ?_); (· exact wanted0 rfl); (· exact ⟨rfl, rfl⟩); (· rw [u8V_size, PL.out]); (· exact TX.out))
    clear c0 c1
    ((with_reducible refine (CQ.out _ BB.out).mono ?_))
    rintro e w6a ⟨rfl, b3⟩
    replace K4 := Lib.hid (K4.out.below b3)
    replace K5 := Lib.hid (K5.out.below b3)
    replace K9 := Lib.hid (K9.out.below b3)
    replace K10 := Lib.hid (K10.out.below b3)
    replace BB := Lib.hid (bt BB.out b3)
    clear b3 CQ
    have lK11 := K10.out.lt
    go_wp2_with ((with_reducible show wpList _ _ _ (⟨_, .alloc 29, _, _, _, none⟩ :: _) _ _); (with_reducible refine wpRow_alloc zeroT_b8 ?_ ?_ ?_); (· exact wanted0 rfl); (· rfl); refine Marker.mk ?_)
    refine Marker.in ?_
    have bel := below_alloc1 w6a (.cells (u8V (zeros 8)) 29)
    replace K4 := Lib.hid (K4.out.below bel)
    replace K5 := Lib.hid (K5.out.below bel)
    replace K9 := Lib.hid (K9.out.below bel)
    replace K10 := Lib.hid (K10.out.below bel)
    replace BB := Lib.hid (bt BB.out bel)
    have K11 := Lib.hid (Blk.new w6a (u8V (zeros 8)) 29)
    clear bel
    generalize w6a.alloc (.cells (u8V (zeros 8)) 29) = w6b at *
    generalize w6a.heap.size = g11 at *
    go_wp2_with ((with_reducible show wpList _ _ _ (⟨_, .store 29 _ _, _, _, _, none⟩ :: _) _ _); (with_reducible refine wpBlk_store (g := g11) (cs := u8V ot) agg_b8 ?_ ?_ K11 ?_ ?_ ?_ ?_); (· exact wanted0 rfl); (· exact ⟨rfl, rfl, rfl⟩); (· rw [u8V_size, zeros_len]); (· rw [u8V_size, QL.out]); (· exact u8V_one _); refine Marker.mk ?_)
    refine Marker.in ?_
    replace K4 := Lib.hid (K4.out.setRow_other g11 (u8V ot) (by omega))
    replace K5 := Lib.hid (K5.out.setRow_other g11 (u8V ot) (by omega))
    replace K9 := Lib.hid (K9.out.setRow_other g11 (u8V ot) (by omega))
    replace K10 := Lib.hid (K10.out.setRow_other g11 (u8V ot) (by omega))
    replace K11 := Lib.hid (K11.out.setRow (u8V ot))
    replace BB := Lib.hid (below_setRow (g := g11) BB.out (by omega) (u8V ot))
    generalize w6b.setRow g11 (u8V ot) = w6 at *
    have c0 := K4.out.cell 0
    have c1 := K4.out.cell 1
    rw [T0.out] at c0
    rw [T1.out] at c1
    go_wp2_with (first | ((with_reducible show wpList _ _ _ (⟨_, .load 46 _, _, _, _, none⟩ :: _) _ _); (with_reducible refine wpBlk_load (g := g9) agg_door ?_ ?_ K9 ?_ ?_); (· exact wanted0 rfl); (· exact ⟨rfl, rfl⟩); (· exact DS.out)) | ((with_reducible show wpList _ _ _ (⟨_, .load 29 _, _, _, _, none⟩ :: _) _ _); (with_reducible refine wpBlk_load (g := g10) agg_b8 ?_ ?_ K10 ?_ ?_); (· exact wanted0 rfl); (· exact ⟨rfl, rfl⟩); (· rw [u8V_size, RL.out])))
    clear c0 c1
    ((with_reducible refine (CG.out _ BB.out).mono ?_))
    rintro e w7a ⟨rfl, b3⟩
    replace K4 := Lib.hid (K4.out.below b3)
    replace K5 := Lib.hid (K5.out.below b3)
    replace K9 := Lib.hid (K9.out.below b3)
    replace K10 := Lib.hid (K10.out.below b3)
    replace K11 := Lib.hid (K11.out.below b3)
    replace BB := Lib.hid (bt BB.out b3)
    clear b3 CG
    have lK12 := K11.out.lt
    go_wp2_with ((with_reducible show wpList _ _ _ (⟨_, .alloc 46, _, _, _, none⟩ :: _) _ _); (with_reducible refine wpRow_alloc zeroT_door ?_ ?_ ?_); (· exact wanted0 rfl); (· rfl); refine Marker.mk ?_)
    refine Marker.in ?_
    have bel := below_alloc1 w7a (.cells (doorV 0 false (zeros 8)) 46)
    replace K4 := Lib.hid (K4.out.below bel)
    replace K5 := Lib.hid (K5.out.below bel)
    replace K9 := Lib.hid (K9.out.below bel)
    replace K10 := Lib.hid (K10.out.below bel)
    replace K11 := Lib.hid (K11.out.below bel)
    replace BB := Lib.hid (bt BB.out bel)
    have K12 := Lib.hid (Blk.new w7a (doorV 0 false (zeros 8)) 46)
    clear bel
    generalize w7a.alloc (.cells (doorV 0 false (zeros 8)) 46) = w7b at *
    generalize w7a.heap.size = g12 at *
    have lK13 := K12.out.lt
    go_wp2_with ((with_reducible show wpList _ _ _ (⟨_, .alloc 22, _, _, _, none⟩ :: _) _ _); (with_reducible refine wpRow_alloc zeroT_b32 ?_ ?_ ?_); (· exact wanted0 rfl); (· rfl); refine Marker.mk ?_)
    refine Marker.in ?_
    have bel := below_alloc1 w7b (.cells (u8V (zeros 32)) 22)
    replace K4 := Lib.hid (K4.out.below bel)
    replace K5 := Lib.hid (K5.out.below bel)
    replace K9 := Lib.hid (K9.out.below bel)
    replace K10 := Lib.hid (K10.out.below bel)
    replace K11 := Lib.hid (K11.out.below bel)
    replace K12 := Lib.hid (K12.out.below bel)
    replace BB := Lib.hid (bt BB.out bel)
    have K13 := Lib.hid (Blk.new w7b (u8V (zeros 32)) 22)
    clear bel
    generalize w7b.alloc (.cells (u8V (zeros 32)) 22) = w7c at *
    generalize w7b.heap.size = g13 at *
    go_wp2_with ((with_reducible show wpList _ _ _ (⟨_, .store 46 _ _, _, _, _, none⟩ :: _) _ _); (with_reducible refine wpBlk_store (g := g12) (cs := cl) agg_door ?_ ?_ K12 ?_ ?_ ?_ ?_); (· exact wanted0 rfl); (· exact ⟨rfl, rfl, rfl⟩); (· exact doorV_size _ _ _ z8_len); (· exact ES.out); (· exact E1.out); refine Marker.mk ?_)
    refine Marker.in ?_
    replace K4 := Lib.hid (K4.out.setRow_other g12 cl (by omega))
    replace K5 := Lib.hid (K5.out.setRow_other g12 cl (by omega))
    replace K9 := Lib.hid (K9.out.setRow_other g12 cl (by omega))
    replace K10 := Lib.hid (K10.out.setRow_other g12 cl (by omega))
    replace K11 := Lib.hid (K11.out.setRow_other g12 cl (by omega))
    replace K13 := Lib.hid (K13.out.setRow_other g12 cl (by omega))
    replace K12 := Lib.hid (K12.out.setRow cl)
    replace BB := Lib.hid (below_setRow (g := g12) BB.out (by omega) cl)
    generalize w7c.setRow g12 cl = w7d at *
    go_wp2_with ((with_reducible show wpList _ _ _ (⟨_, .store 22 _ _, _, _, _, none⟩ :: _) _ _); (with_reducible refine wpBlk_store (g := g13) (cs := u8V ka) agg_b32 ?_ ?_ K13 ?_ ?_ ?_ ?_); (· exact wanted0 rfl); (· exact ⟨rfl, rfl, rfl⟩); (· rw [u8V_size, zeros_len]); (· rw [u8V_size, KA.out]); (· exact u8V_one _); refine Marker.mk ?_)
    refine Marker.in ?_
    replace K4 := Lib.hid (K4.out.setRow_other g13 (u8V ka) (by omega))
    replace K5 := Lib.hid (K5.out.setRow_other g13 (u8V ka) (by omega))
    replace K9 := Lib.hid (K9.out.setRow_other g13 (u8V ka) (by omega))
    replace K10 := Lib.hid (K10.out.setRow_other g13 (u8V ka) (by omega))
    replace K11 := Lib.hid (K11.out.setRow_other g13 (u8V ka) (by omega))
    replace K12 := Lib.hid (K12.out.setRow_other g13 (u8V ka) (by omega))
    replace K13 := Lib.hid (K13.out.setRow (u8V ka))
    replace BB := Lib.hid (below_setRow (g := g13) BB.out (by omega) (u8V ka))
    generalize w7d.setRow g13 (u8V ka) = w7 at *
    have c0 := K5.out.cell 0
    have c1 := K5.out.cell 1
    rw [U0.out] at c0
    rw [U1.out] at c1
    go_wp2_with (first | ((with_reducible show wpList _ _ _ (⟨_, .load 46 _, _, _, _, none⟩ :: _) _ _); (with_reducible refine wpBlk_load (g := g9) agg_door ?_ ?_ K9 ?_ ?_); (· exact wanted0 rfl); (· exact ⟨rfl, rfl⟩); (· exact DS.out)) | ((with_reducible show wpList _ _ _ (⟨_, .load 29 _, _, _, _, none⟩ :: _) _ _); (with_reducible refine wpBlk_load (g := g10) agg_b8 ?_ ?_ K10 ?_ ?_); (· exact wanted0 rfl); (· exact ⟨rfl, rfl⟩); (· rw [u8V_size, RL.out])))
    clear c0 c1
    ((with_reducible refine (CH.out _ BB.out).mono ?_))
    rintro e w8a ⟨rfl, b3⟩
    replace K4 := Lib.hid (K4.out.below b3)
    replace K5 := Lib.hid (K5.out.below b3)
    replace K9 := Lib.hid (K9.out.below b3)
    replace K10 := Lib.hid (K10.out.below b3)
    replace K11 := Lib.hid (K11.out.below b3)
    replace K12 := Lib.hid (K12.out.below b3)
    replace K13 := Lib.hid (K13.out.below b3)
    replace BB := Lib.hid (bt BB.out b3)
    clear b3 CH
    have lK15 := K13.out.lt
    go_wp2_with ((with_reducible show wpList _ _ _ (⟨_, .alloc 46, _, _, _, none⟩ :: _) _ _); (with_reducible refine wpRow_alloc zeroT_door ?_ ?_ ?_); (· exact wanted0 rfl); (· rfl); refine Marker.mk ?_)
    refine Marker.in ?_
    have bel := below_alloc1 w8a (.cells (doorV 0 false (zeros 8)) 46)
    replace K4 := Lib.hid (K4.out.below bel)
    replace K5 := Lib.hid (K5.out.below bel)
    replace K9 := Lib.hid (K9.out.below bel)
    replace K10 := Lib.hid (K10.out.below bel)
    replace K11 := Lib.hid (K11.out.below bel)
    replace K12 := Lib.hid (K12.out.below bel)
    replace K13 := Lib.hid (K13.out.below bel)
    replace BB := Lib.hid (bt BB.out bel)
    have K15 := Lib.hid (Blk.new w8a (doorV 0 false (zeros 8)) 46)
    clear bel
    generalize w8a.alloc (.cells (doorV 0 false (zeros 8)) 46) = w8b at *
    generalize w8a.heap.size = g15 at *
    have lK16 := K15.out.lt
    go_wp2_with ((with_reducible show wpList _ _ _ (⟨_, .alloc 22, _, _, _, none⟩ :: _) _ _); (with_reducible refine wpRow_alloc zeroT_b32 ?_ ?_ ?_); (· exact wanted0 rfl); (· rfl); refine Marker.mk ?_)
    refine Marker.in ?_
    have bel := below_alloc1 w8b (.cells (u8V (zeros 32)) 22)
    replace K4 := Lib.hid (K4.out.below bel)
    replace K5 := Lib.hid (K5.out.below bel)
    replace K9 := Lib.hid (K9.out.below bel)
    replace K10 := Lib.hid (K10.out.below bel)
    replace K11 := Lib.hid (K11.out.below bel)
    replace K12 := Lib.hid (K12.out.below bel)
    replace K13 := Lib.hid (K13.out.below bel)
    replace K15 := Lib.hid (K15.out.below bel)
    replace BB := Lib.hid (bt BB.out bel)
    have K16 := Lib.hid (Blk.new w8b (u8V (zeros 32)) 22)
    clear bel
    generalize w8b.alloc (.cells (u8V (zeros 32)) 22) = w8c at *
    generalize w8b.heap.size = g16 at *
    go_wp2_with ((with_reducible show wpList _ _ _ (⟨_, .store 46 _ _, _, _, _, none⟩ :: _) _ _); (with_reducible refine wpBlk_store (g := g15) (cs := cl) agg_door ?_ ?_ K15 ?_ ?_ ?_ ?_); (· exact wanted0 rfl); (· exact ⟨rfl, rfl, rfl⟩); (· exact doorV_size _ _ _ z8_len); (· exact ES.out); (· exact E1.out); refine Marker.mk ?_)
    refine Marker.in ?_
    replace K4 := Lib.hid (K4.out.setRow_other g15 cl (by omega))
    replace K5 := Lib.hid (K5.out.setRow_other g15 cl (by omega))
    replace K9 := Lib.hid (K9.out.setRow_other g15 cl (by omega))
    replace K10 := Lib.hid (K10.out.setRow_other g15 cl (by omega))
    replace K11 := Lib.hid (K11.out.setRow_other g15 cl (by omega))
    replace K12 := Lib.hid (K12.out.setRow_other g15 cl (by omega))
    replace K13 := Lib.hid (K13.out.setRow_other g15 cl (by omega))
    replace K16 := Lib.hid (K16.out.setRow_other g15 cl (by omega))
    replace K15 := Lib.hid (K15.out.setRow cl)
    replace BB := Lib.hid (below_setRow (g := g15) BB.out (by omega) cl)
    generalize w8c.setRow g15 cl = w8d at *
    go_wp2_with ((with_reducible show wpList _ _ _ (⟨_, .store 22 _ _, _, _, _, none⟩ :: _) _ _); (with_reducible refine wpBlk_store (g := g16) (cs := u8V kb) agg_b32 ?_ ?_ K16 ?_ ?_ ?_ ?_); (· exact wanted0 rfl); (· exact ⟨rfl, rfl, rfl⟩); (· rw [u8V_size, zeros_len]); (· rw [u8V_size, KB.out]); (· exact u8V_one _); refine Marker.mk ?_)
    refine Marker.in ?_
    replace K4 := Lib.hid (K4.out.setRow_other g16 (u8V kb) (by omega))
    replace K5 := Lib.hid (K5.out.setRow_other g16 (u8V kb) (by omega))
    replace K9 := Lib.hid (K9.out.setRow_other g16 (u8V kb) (by omega))
    replace K10 := Lib.hid (K10.out.setRow_other g16 (u8V kb) (by omega))
    replace K11 := Lib.hid (K11.out.setRow_other g16 (u8V kb) (by omega))
    replace K12 := Lib.hid (K12.out.setRow_other g16 (u8V kb) (by omega))
    replace K13 := Lib.hid (K13.out.setRow_other g16 (u8V kb) (by omega))
    replace K15 := Lib.hid (K15.out.setRow_other g16 (u8V kb) (by omega))
    replace K16 := Lib.hid (K16.out.setRow (u8V kb))
    replace BB := Lib.hid (below_setRow (g := g16) BB.out (by omega) (u8V kb))
    generalize w8d.setRow g16 (u8V kb) = w8 at *
    go_wp2_with (first | ((with_reducible show wpList _ _ _ (⟨_, .load 29 _, _, _, _, some _⟩ :: _) _ _); (with_reducible refine wpBlk_load (g := g11) agg_b8 ?_ ?_ K11 ?_ ?_); (· exact wantedY rfl rfl rfl); (· exact ⟨rfl, rfl⟩); (· rw [u8V_size, QL.out])) | ((with_reducible show wpList _ _ _ (⟨_, .load 29 _, _, _, _, some _⟩ :: _) _ _); (with_reducible refine wpBlk_load (g := g10) agg_b8 ?_ ?_ K10 ?_ ?_); (· exact wantedY rfl rfl rfl); (· exact ⟨rfl, rfl⟩); (· rw [u8V_size, RL.out])))
    go_ret
    exact ⟨rfl, BB.out⟩
  · rw [decide_eq_false same] at EQ
    replace CI := Lib.hid fun W hb => CI.out W hb (fun h => same h.symm)
    clear CH same
    go_enter Tryd.func6, Tryd.ntmps6
    go_wp2_with fail
    have K4 := Lib.hid ((Blk.new w ta 53).alloc (.cells tb 53))
    have K5 := Lib.hid (Blk.new' (w.alloc (.cells ta 53)) tb 53 (g := w.heap.size + 1) (by simp))
    have BB := Lib.hid (below_alloc2 w (.cells ta 53) (.cells tb 53))
    generalize (w.alloc (.cells ta 53)).alloc (.cells tb 53) = w1 at *
    have n5 : w.heap.size < w.heap.size + 1 := by omega
    generalize w.heap.size + 1 = g5 at *
    ((with_reducible refine (shown15 _ (RT.out.below BB.out)).mono ?_))
    rintro e w2 ⟨rfl, b2⟩
    replace K4 := Lib.hid (K4.out.below b2)
    replace K5 := Lib.hid (K5.out.below b2)
    replace BB := Lib.hid (bt BB.out b2)
    clear b2
    go_wp2_with fail
    ((with_reducible refine (HF.out _).mono ?_))
    rintro e w3 ⟨rfl, rfl⟩
    clear HF
    have l5 := K5.out.lt
    go_wp2_with (first | ((with_reducible show wpList _ _ _ (⟨_, .load 29 _, _, _, _, none⟩ :: _) _ _); (with_reducible refine wpBlk_mid (g := w.heap.size) (off := 2) (cs := u8V pa) agg_b8 ?_ ?_ K4 ?_ ?_ ?_); (· exact wanted0 rfl); (· exact ⟨rfl, rfl⟩); (· rw [u8V_size, PL.out]); (· exact TX.out)) | ((with_reducible show wpList _ _ _ (⟨some 23, _, _, _, _, _⟩ :: _) _ _); refine wpList_build' rfl 46 _ rfl dv BD.out ?_) | ((with_reducible show wpList _ _ _ (⟨_, .alloc 46, _, _, _, none⟩ :: _) _ _); (with_reducible refine wpRow_alloc zeroT_door ?_ ?_ ?_); (· exact wanted0 rfl); (· rfl); refine Marker.mk ?_))
    refine Marker.in ?_
    have bel := below_alloc1 w2 (.cells (doorV 0 false (zeros 8)) 46)
    replace K4 := Lib.hid (K4.out.below bel)
    replace K5 := Lib.hid (K5.out.below bel)
    replace BB := Lib.hid (bt BB.out bel)
    have K9 := Lib.hid (Blk.new w2 (doorV 0 false (zeros 8)) 46)
    clear bel
    generalize w2.alloc (.cells (doorV 0 false (zeros 8)) 46) = w3 at *
    generalize w2.heap.size = g9 at *
    go_wp2_with ((with_reducible show wpList _ _ _ (⟨_, .store 46 _ _, _, _, _, none⟩ :: _) _ _); (with_reducible refine wpBlk_store (g := g9) (cs := dv) agg_door ?_ ?_ K9 ?_ ?_ ?_ ?_); (· exact wanted0 rfl); (· exact ⟨rfl, rfl, rfl⟩); (· exact doorV_size _ _ _ z8_len); (· exact DS.out); (· exact D1.out); refine Marker.mk ?_)
    refine Marker.in ?_
    replace K4 := Lib.hid (K4.out.setRow_other g9 dv (by omega))
    replace K5 := Lib.hid (K5.out.setRow_other g9 dv (by omega))
    replace K9 := Lib.hid (K9.out.setRow dv)
    replace BB := Lib.hid (below_setRow (g := g9) BB.out (by omega) dv)
    generalize w3.setRow g9 dv = w4 at *
    have l9 := K9.out.lt
    have c0 := K4.out.cell 0
    have c1 := K4.out.cell 1
    rw [T0.out] at c0
    rw [T1.out] at c1
    go_wp2_with ((with_reducible show wpList _ _ _ (⟨_, .load 29 _, _, _, _, none⟩ :: _) _ _); (with_reducible refine wpBlk_mid (g := w.heap.size) (off := 2) (cs := u8V pa) agg_b8 ?_ ?_ K4 ?_ ?_ ?_); (· exact wanted0 rfl); (· exact ⟨rfl, rfl⟩); (· rw [u8V_size, PL.out]); (· exact TX.out))
    clear c0 c1
    ((with_reducible refine (CP.out _ BB.out).mono ?_))
    rintro e w5a ⟨rfl, b3⟩
    replace K4 := Lib.hid (K4.out.below b3)
    replace K5 := Lib.hid (K5.out.below b3)
    replace K9 := Lib.hid (K9.out.below b3)
    replace BB := Lib.hid (bt BB.out b3)
    clear b3 CP
    have lK10 := K9.out.lt
    go_wp2_with ((with_reducible show wpList _ _ _ (⟨_, .alloc 29, _, _, _, none⟩ :: _) _ _); (with_reducible refine wpRow_alloc zeroT_b8 ?_ ?_ ?_); (· exact wanted0 rfl); (· rfl); refine Marker.mk ?_)
    refine Marker.in ?_
    have bel := below_alloc1 w5a (.cells (u8V (zeros 8)) 29)
    replace K4 := Lib.hid (K4.out.below bel)
    replace K5 := Lib.hid (K5.out.below bel)
    replace K9 := Lib.hid (K9.out.below bel)
    replace BB := Lib.hid (bt BB.out bel)
    have K10 := Lib.hid (Blk.new w5a (u8V (zeros 8)) 29)
    clear bel
    generalize w5a.alloc (.cells (u8V (zeros 8)) 29) = w5b at *
    generalize w5a.heap.size = g10 at *
    go_wp2_with ((with_reducible show wpList _ _ _ (⟨_, .store 29 _ _, _, _, _, none⟩ :: _) _ _); (with_reducible refine wpBlk_store (g := g10) (cs := u8V pr) agg_b8 ?_ ?_ K10 ?_ ?_ ?_ ?_); (· exact wanted0 rfl); (· exact ⟨rfl, rfl, rfl⟩); (· rw [u8V_size, zeros_len]); (· rw [u8V_size, RL.out]); (· exact u8V_one _); refine Marker.mk ?_)
    refine Marker.in ?_
    replace K4 := Lib.hid (K4.out.setRow_other g10 (u8V pr) (by omega))
    replace K5 := Lib.hid (K5.out.setRow_other g10 (u8V pr) (by omega))
    replace K9 := Lib.hid (K9.out.setRow_other g10 (u8V pr) (by omega))
    replace K10 := Lib.hid (K10.out.setRow (u8V pr))
    replace BB := Lib.hid (below_setRow (g := g10) BB.out (by omega) (u8V pr))
    generalize w5b.setRow g10 (u8V pr) = w5 at *
    have c0 := K5.out.cell 0
    have c1 := K5.out.cell 1
    rw [U0.out] at c0
    rw [U1.out] at c1
    go_wp2_with ((with_reducible show wpList _ _ _ (⟨_, .load 29 _, _, _, _, none⟩ :: _) _ _); (with_reducible refine wpBlk_mid (g := w.heap.size) (off := 2) (cs := u8V pa) agg_b8 ?_ ?_ K4 ?_ ?_ ?_); (· exact wanted0 rfl); (· exact ⟨rfl, rfl⟩); (· rw [u8V_size, PL.out]); (· exact TX.out))
    clear c0 c1
    ((with_reducible refine (CQ.out _ BB.out).mono ?_))
    rintro e w6a ⟨rfl, b3⟩
    replace K4 := Lib.hid (K4.out.below b3)
    replace K5 := Lib.hid (K5.out.below b3)
    replace K9 := Lib.hid (K9.out.below b3)
    replace K10 := Lib.hid (K10.out.below b3)
    replace BB := Lib.hid (bt BB.out b3)
    clear b3 CQ
    have lK11 := K10.out.lt
    go_wp2_with ((with_reducible show wpList _ _ _ (⟨_, .alloc 29, _, _, _, none⟩ :: _) _ _); (with_reducible refine wpRow_alloc zeroT_b8 ?_ ?_ ?_); (· exact wanted0 rfl); (· rfl); refine Marker.mk ?_)
    refine Marker.in ?_
    have bel := below_alloc1 w6a (.cells (u8V (zeros 8)) 29)
    replace K4 := Lib.hid (K4.out.below bel)
    replace K5 := Lib.hid (K5.out.below bel)
    replace K9 := Lib.hid (K9.out.below bel)
    replace K10 := Lib.hid (K10.out.below bel)
    replace BB := Lib.hid (bt BB.out bel)
    have K11 := Lib.hid (Blk.new w6a (u8V (zeros 8)) 29)
    clear bel
    generalize w6a.alloc (.cells (u8V (zeros 8)) 29) = w6b at *
    generalize w6a.heap.size = g11 at *
    go_wp2_with ((with_reducible show wpList _ _ _ (⟨_, .store 29 _ _, _, _, _, none⟩ :: _) _ _); (with_reducible refine wpBlk_store (g := g11) (cs := u8V ot) agg_b8 ?_ ?_ K11 ?_ ?_ ?_ ?_); (· exact wanted0 rfl); (· exact ⟨rfl, rfl, rfl⟩); (· rw [u8V_size, zeros_len]); (· rw [u8V_size, QL.out]); (· exact u8V_one _); refine Marker.mk ?_)
    refine Marker.in ?_
    replace K4 := Lib.hid (K4.out.setRow_other g11 (u8V ot) (by omega))
    replace K5 := Lib.hid (K5.out.setRow_other g11 (u8V ot) (by omega))
    replace K9 := Lib.hid (K9.out.setRow_other g11 (u8V ot) (by omega))
    replace K10 := Lib.hid (K10.out.setRow_other g11 (u8V ot) (by omega))
    replace K11 := Lib.hid (K11.out.setRow (u8V ot))
    replace BB := Lib.hid (below_setRow (g := g11) BB.out (by omega) (u8V ot))
    generalize w6b.setRow g11 (u8V ot) = w6 at *
    have c0 := K4.out.cell 0
    have c1 := K4.out.cell 1
    rw [T0.out] at c0
    rw [T1.out] at c1
    go_wp2_with (first | ((with_reducible show wpList _ _ _ (⟨_, .load 46 _, _, _, _, none⟩ :: _) _ _); (with_reducible refine wpBlk_load (g := g9) agg_door ?_ ?_ K9 ?_ ?_); (· exact wanted0 rfl); (· exact ⟨rfl, rfl⟩); (· exact DS.out)) | ((with_reducible show wpList _ _ _ (⟨_, .load 29 _, _, _, _, none⟩ :: _) _ _); (with_reducible refine wpBlk_load (g := g10) agg_b8 ?_ ?_ K10 ?_ ?_); (· exact wanted0 rfl); (· exact ⟨rfl, rfl⟩); (· rw [u8V_size, RL.out])))
    clear c0 c1
    ((with_reducible refine (CG.out _ BB.out).mono ?_))
    rintro e w7a ⟨rfl, b3⟩
    replace K4 := Lib.hid (K4.out.below b3)
    replace K5 := Lib.hid (K5.out.below b3)
    replace K9 := Lib.hid (K9.out.below b3)
    replace K10 := Lib.hid (K10.out.below b3)
    replace K11 := Lib.hid (K11.out.below b3)
    replace BB := Lib.hid (bt BB.out b3)
    clear b3 CG
    have lK12 := K11.out.lt
    go_wp2_with ((with_reducible show wpList _ _ _ (⟨_, .alloc 46, _, _, _, none⟩ :: _) _ _); (with_reducible refine wpRow_alloc zeroT_door ?_ ?_ ?_); (· exact wanted0 rfl); (· rfl); refine Marker.mk ?_)
    refine Marker.in ?_
    have bel := below_alloc1 w7a (.cells (doorV 0 false (zeros 8)) 46)
    replace K4 := Lib.hid (K4.out.below bel)
    replace K5 := Lib.hid (K5.out.below bel)
    replace K9 := Lib.hid (K9.out.below bel)
    replace K10 := Lib.hid (K10.out.below bel)
    replace K11 := Lib.hid (K11.out.below bel)
    replace BB := Lib.hid (bt BB.out bel)
    have K12 := Lib.hid (Blk.new w7a (doorV 0 false (zeros 8)) 46)
    clear bel
    generalize w7a.alloc (.cells (doorV 0 false (zeros 8)) 46) = w7b at *
    generalize w7a.heap.size = g12 at *
    have lK13 := K12.out.lt
    go_wp2_with ((with_reducible show wpList _ _ _ (⟨_, .alloc 22, _, _, _, none⟩ :: _) _ _); (with_reducible refine wpRow_alloc zeroT_b32 ?_ ?_ ?_); (· exact wanted0 rfl); (· rfl); refine Marker.mk ?_)
    refine Marker.in ?_
    have bel := below_alloc1 w7b (.cells (u8V (zeros 32)) 22)
    replace K4 := Lib.hid (K4.out.below bel)
    replace K5 := Lib.hid (K5.out.below bel)
    replace K9 := Lib.hid (K9.out.below bel)
    replace K10 := Lib.hid (K10.out.below bel)
    replace K11 := Lib.hid (K11.out.below bel)
    replace K12 := Lib.hid (K12.out.below bel)
    replace BB := Lib.hid (bt BB.out bel)
    have K13 := Lib.hid (Blk.new w7b (u8V (zeros 32)) 22)
    clear bel
    generalize w7b.alloc (.cells (u8V (zeros 32)) 22) = w7c at *
    generalize w7b.heap.size = g13 at *
    go_wp2_with ((with_reducible show wpList _ _ _ (⟨_, .store 46 _ _, _, _, _, none⟩ :: _) _ _); (with_reducible refine wpBlk_store (g := g12) (cs := cl) agg_door ?_ ?_ K12 ?_ ?_ ?_ ?_); (· exact wanted0 rfl); (· exact ⟨rfl, rfl, rfl⟩); (· exact doorV_size _ _ _ z8_len); (· exact ES.out); (· exact E1.out); refine Marker.mk ?_)
    refine Marker.in ?_
    replace K4 := Lib.hid (K4.out.setRow_other g12 cl (by omega))
    replace K5 := Lib.hid (K5.out.setRow_other g12 cl (by omega))
    replace K9 := Lib.hid (K9.out.setRow_other g12 cl (by omega))
    replace K10 := Lib.hid (K10.out.setRow_other g12 cl (by omega))
    replace K11 := Lib.hid (K11.out.setRow_other g12 cl (by omega))
    replace K13 := Lib.hid (K13.out.setRow_other g12 cl (by omega))
    replace K12 := Lib.hid (K12.out.setRow cl)
    replace BB := Lib.hid (below_setRow (g := g12) BB.out (by omega) cl)
    generalize w7c.setRow g12 cl = w7d at *
    go_wp2_with ((with_reducible show wpList _ _ _ (⟨_, .store 22 _ _, _, _, _, none⟩ :: _) _ _); (with_reducible refine wpBlk_store (g := g13) (cs := u8V ka) agg_b32 ?_ ?_ K13 ?_ ?_ ?_ ?_); (· exact wanted0 rfl); (· exact ⟨rfl, rfl, rfl⟩); (· rw [u8V_size, zeros_len]); (· rw [u8V_size, KA.out]); (· exact u8V_one _); refine Marker.mk ?_)
    refine Marker.in ?_
    replace K4 := Lib.hid (K4.out.setRow_other g13 (u8V ka) (by omega))
    replace K5 := Lib.hid (K5.out.setRow_other g13 (u8V ka) (by omega))
    replace K9 := Lib.hid (K9.out.setRow_other g13 (u8V ka) (by omega))
    replace K10 := Lib.hid (K10.out.setRow_other g13 (u8V ka) (by omega))
    replace K11 := Lib.hid (K11.out.setRow_other g13 (u8V ka) (by omega))
    replace K12 := Lib.hid (K12.out.setRow_other g13 (u8V ka) (by omega))
    replace K13 := Lib.hid (K13.out.setRow (u8V ka))
    replace BB := Lib.hid (below_setRow (g := g13) BB.out (by omega) (u8V ka))
    generalize w7d.setRow g13 (u8V ka) = w7 at *
    have c0 := K5.out.cell 0
    have c1 := K5.out.cell 1
    rw [U0.out] at c0
    rw [U1.out] at c1
    go_wp2_with (first | ((with_reducible show wpList _ _ _ (⟨_, .load 46 _, _, _, _, none⟩ :: _) _ _); (with_reducible refine wpBlk_load (g := g9) agg_door ?_ ?_ K9 ?_ ?_); (· exact wanted0 rfl); (· exact ⟨rfl, rfl⟩); (· exact DS.out)) | ((with_reducible show wpList _ _ _ (⟨_, .load 29 _, _, _, _, none⟩ :: _) _ _); (with_reducible refine wpBlk_load (g := g10) agg_b8 ?_ ?_ K10 ?_ ?_); (· exact wanted0 rfl); (· exact ⟨rfl, rfl⟩); (· rw [u8V_size, RL.out])))
    clear c0 c1
    ((with_reducible refine (CI.out _ BB.out).mono ?_))
    rintro e w8a ⟨rfl, b3⟩
    replace K4 := Lib.hid (K4.out.below b3)
    replace K5 := Lib.hid (K5.out.below b3)
    replace K9 := Lib.hid (K9.out.below b3)
    replace K10 := Lib.hid (K10.out.below b3)
    replace K11 := Lib.hid (K11.out.below b3)
    replace K12 := Lib.hid (K12.out.below b3)
    replace K13 := Lib.hid (K13.out.below b3)
    replace BB := Lib.hid (bt BB.out b3)
    clear b3 CI
    have lK15 := K13.out.lt
    go_wp2_with ((with_reducible show wpList _ _ _ (⟨_, .alloc 46, _, _, _, none⟩ :: _) _ _); (with_reducible refine wpRow_alloc zeroT_door ?_ ?_ ?_); (· exact wanted0 rfl); (· rfl); refine Marker.mk ?_)
    refine Marker.in ?_
    have bel := below_alloc1 w8a (.cells (doorV 0 false (zeros 8)) 46)
    replace K4 := Lib.hid (K4.out.below bel)
    replace K5 := Lib.hid (K5.out.below bel)
    replace K9 := Lib.hid (K9.out.below bel)
    replace K10 := Lib.hid (K10.out.below bel)
    replace K11 := Lib.hid (K11.out.below bel)
    replace K12 := Lib.hid (K12.out.below bel)
    replace K13 := Lib.hid (K13.out.below bel)
    replace BB := Lib.hid (bt BB.out bel)
    have K15 := Lib.hid (Blk.new w8a (doorV 0 false (zeros 8)) 46)
    clear bel
    generalize w8a.alloc (.cells (doorV 0 false (zeros 8)) 46) = w8b at *
    generalize w8a.heap.size = g15 at *
    have lK16 := K15.out.lt
    go_wp2_with ((with_reducible show wpList _ _ _ (⟨_, .alloc 22, _, _, _, none⟩ :: _) _ _); (with_reducible refine wpRow_alloc zeroT_b32 ?_ ?_ ?_); (· exact wanted0 rfl); (· rfl); refine Marker.mk ?_)
    refine Marker.in ?_
    have bel := below_alloc1 w8b (.cells (u8V (zeros 32)) 22)
    replace K4 := Lib.hid (K4.out.below bel)
    replace K5 := Lib.hid (K5.out.below bel)
    replace K9 := Lib.hid (K9.out.below bel)
    replace K10 := Lib.hid (K10.out.below bel)
    replace K11 := Lib.hid (K11.out.below bel)
    replace K12 := Lib.hid (K12.out.below bel)
    replace K13 := Lib.hid (K13.out.below bel)
    replace K15 := Lib.hid (K15.out.below bel)
    replace BB := Lib.hid (bt BB.out bel)
    have K16 := Lib.hid (Blk.new w8b (u8V (zeros 32)) 22)
    clear bel
    generalize w8b.alloc (.cells (u8V (zeros 32)) 22) = w8c at *
    generalize w8b.heap.size = g16 at *
    go_wp2_with ((with_reducible show wpList _ _ _ (⟨_, .store 46 _ _, _, _, _, none⟩ :: _) _ _); (with_reducible refine wpBlk_store (g := g15) (cs := cl) agg_door ?_ ?_ K15 ?_ ?_ ?_ ?_); (· exact wanted0 rfl); (· exact ⟨rfl, rfl, rfl⟩); (· exact doorV_size _ _ _ z8_len); (· exact ES.out); (· exact E1.out); refine Marker.mk ?_)
    refine Marker.in ?_
    replace K4 := Lib.hid (K4.out.setRow_other g15 cl (by omega))
    replace K5 := Lib.hid (K5.out.setRow_other g15 cl (by omega))
    replace K9 := Lib.hid (K9.out.setRow_other g15 cl (by omega))
    replace K10 := Lib.hid (K10.out.setRow_other g15 cl (by omega))
    replace K11 := Lib.hid (K11.out.setRow_other g15 cl (by omega))
    replace K12 := Lib.hid (K12.out.setRow_other g15 cl (by omega))
    replace K13 := Lib.hid (K13.out.setRow_other g15 cl (by omega))
    replace K16 := Lib.hid (K16.out.setRow_other g15 cl (by omega))
    replace K15 := Lib.hid (K15.out.setRow cl)
    replace BB := Lib.hid (below_setRow (g := g15) BB.out (by omega) cl)
    generalize w8c.setRow g15 cl = w8d at *
    go_wp2_with ((with_reducible show wpList _ _ _ (⟨_, .store 22 _ _, _, _, _, none⟩ :: _) _ _); (with_reducible refine wpBlk_store (g := g16) (cs := u8V (zeros 32)) agg_b32 ?_ ?_ K16 ?_ ?_ ?_ ?_); (· exact wanted0 rfl); (· exact ⟨rfl, rfl, rfl⟩); (· rw [u8V_size, zeros_len]); (· rw [u8V_size, zeros_len]); (· exact u8V_one _); refine Marker.mk ?_)
    refine Marker.in ?_
    replace K4 := Lib.hid (K4.out.setRow_other g16 (u8V (zeros 32)) (by omega))
    replace K5 := Lib.hid (K5.out.setRow_other g16 (u8V (zeros 32)) (by omega))
    replace K9 := Lib.hid (K9.out.setRow_other g16 (u8V (zeros 32)) (by omega))
    replace K10 := Lib.hid (K10.out.setRow_other g16 (u8V (zeros 32)) (by omega))
    replace K11 := Lib.hid (K11.out.setRow_other g16 (u8V (zeros 32)) (by omega))
    replace K12 := Lib.hid (K12.out.setRow_other g16 (u8V (zeros 32)) (by omega))
    replace K13 := Lib.hid (K13.out.setRow_other g16 (u8V (zeros 32)) (by omega))
    replace K15 := Lib.hid (K15.out.setRow_other g16 (u8V (zeros 32)) (by omega))
    replace K16 := Lib.hid (K16.out.setRow (u8V (zeros 32)))
    replace BB := Lib.hid (below_setRow (g := g16) BB.out (by omega) (u8V (zeros 32)))
    generalize w8d.setRow g16 (u8V (zeros 32)) = w8 at *
    go_wp2_with (first | ((with_reducible show wpList _ _ _ (⟨_, .load 29 _, _, _, _, some _⟩ :: _) _ _); (with_reducible refine wpBlk_load (g := g11) agg_b8 ?_ ?_ K11 ?_ ?_); (· exact wantedY rfl rfl rfl); (· exact ⟨rfl, rfl⟩); (· rw [u8V_size, QL.out])) | ((with_reducible show wpList _ _ _ (⟨_, .load 29 _, _, _, _, some _⟩ :: _) _ _); (with_reducible refine wpBlk_load (g := g10) agg_b8 ?_ ?_ K10 ?_ ?_); (· exact wantedY rfl rfl rfl); (· exact ⟨rfl, rfl⟩); (· rw [u8V_size, RL.out])))
    go_ret
    exact ⟨rfl, BB.out⟩
end Go.Proofs.YtapednkmefbldaaDoor
