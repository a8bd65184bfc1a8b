/- The walk of MsgReplies. -/
import Derived.Test.YtakahkpogooepaaRepN
import Derived.Test.YtakahkpogooepaaRepO
import Derived.Test.YtakahkpogooepaaRepT
namespace Go.Proofs.Ytakahkpogooepaa
open Go.RowKit Go.WideShapes Go.ChangeShapes

set_option maxRecDepth 100000 in
set_option maxHeartbeats 6400000 in
theorem msgReplies (l1 l2 l3 : List Int) (hl1 : IsRepL l1) (hl2 : IsRepL l2) (hl3 : IsMsgL l3) (w : World) :
    Calls Try.prog 7 #[.agg (repV l1), .agg (repV l2), .agg (msgV l3)] w fun e' w' => e' = .returned (.bool true) ∧ Below w.heap.size w w' := by
  have FT1 := Lib.hid (fun W => fit_rep l1 hl1 W)
  have FT2 := Lib.hid (fun W => fit_rep l2 hl2 W)
  have FT3 := Lib.hid (fun W => fit_msg l3 hl3 W)
  obtain ⟨⟨p, hp⟩, hx⟩ := fitR_ok l1 hl1
  obtain ⟨⟨q, hq⟩, hy⟩ := fitR_ok l2 hl2
  obtain ⟨⟨o, ho⟩, hz⟩ := fit_ok l3 hl3
  generalize fitR l1 = x at *
  generalize fitR l2 = y at *
  generalize fitL l3 = z at *
  have T1 := Lib.hid (takeR8_put hx.1 hp)
  have T2 := Lib.hid (takeR8_msg ho)
  have T3 := Lib.hid (take8_rep hp)
  have B1 := szR_bound (x.getD 0 0)
  rw [← putR8_len hp] at B1
  have hpq : decide (p = q) = decide (x = y) := by
    rw [decide_eq_decide]
    constructor
    · rintro rfl; exact putR8_inj hx.1 hy.1 hp hq
    · rintro rfl; rw [hp] at hq; injection hq
  obtain ⟨n1, hn1⟩ : ∃ n, n = p.length := ⟨_, rfl⟩
  obtain ⟨n2, hn2⟩ : ∃ n, n = q.length := ⟨_, rfl⟩
  obtain ⟨n3, hn3⟩ : ∃ n, n = o.length := ⟨_, rfl⟩
  rw [← hn1] at B1
  obtain ⟨-, B1b⟩ := B1
  have HN1 := Lib.hid hn1
  have HN2 := Lib.hid hn2
  have HN3 := Lib.hid hn3
  have HPQ := Lib.hid hpq
  have HP := Lib.hid hp
  have HQ := Lib.hid hq
  have HO := Lib.hid ho
  have HX := Lib.hid hx
  have HY := Lib.hid hy
  have PM1 := Lib.hid (fun W => put_rep x W hx)
  have PM2 := Lib.hid (fun W => put_rep y W hy)
  have PM3 := Lib.hid (fun W => put_msg z W hz)
  clear hp hq ho hx hy hz hn1 hn2 hn3 hl1 hl2 hl3 hpq
  go_enter Try.func7, Try.ntmps7
  go_wp2_with fail
  have KM := Lib.hid (((Blk.new w (repV l1) 40).alloc (.cells (repV l2) 40)).alloc (.cells (msgV l3) 24))
  have KN := Lib.hid ((Blk.new' (w.alloc (.cells (repV l1) 40)) (repV l2) 40 (g := w.heap.size + 1) (by simp)).alloc (.cells (msgV l3) 24))
  have KO := Lib.hid (Blk.new' ((w.alloc (.cells (repV l1) 40)).alloc (.cells (repV l2) 40)) (msgV l3) 24 (g := w.heap.size + 1 + 1) (by simp))
  have BB := Lib.hid (below_alloc3 w (.cells (repV l1) 40) (.cells (repV l2) 40) (.cells (msgV l3) 24))
  generalize ((w.alloc (.cells (repV l1) 40)).alloc (.cells (repV l2) 40)).alloc (.cells (msgV l3) 24) = w0 at *
  generalize hgn : w.heap.size + 1 = gn at *
  generalize hgo : gn + 1 = go at *
  ((with_reducible refine (shown08 _).mono ?_))
  rintro e w1 ⟨rfl, b1⟩
  replace KM := Lib.hid (KM.out.below b1)
  replace KN := Lib.hid (KN.out.below b1)
  replace KO := Lib.hid (KO.out.below b1)
  replace BB := Lib.hid (bt BB.out b1)
  clear b1
  go_wp2_with ((with_reducible show wpList _ _ _ (⟨_, .load 40 _, _, _, _, none⟩ :: _) _ _); (with_reducible refine wpBlk_load (g := w.heap.size) agg_rep ?_ ?_ KM ?_ ?_); (· exact wanted0 rfl); (· exact ⟨rfl, rfl⟩); (· exact repV_size _))
  ((with_reducible refine (FT1.out _).mono ?_))
  rintro e w2 ⟨rfl, b2⟩
  replace KM := Lib.hid (KM.out.below b2)
  replace KN := Lib.hid (KN.out.below b2)
  replace KO := Lib.hid (KO.out.below b2)
  replace BB := Lib.hid (bt BB.out b2)
  clear b2
  have ltw2KN := KN.out.lt
  have ltw2KO := KO.out.lt
  have ltw2 := BB.out.size
  go_wp2_with ((with_reducible show wpList _ _ _ (⟨_, .alloc 40, _, _, _, none⟩ :: _) _ _); (with_reducible refine wpRow_alloc zeroT_repy ?_ ?_ ?_); (· exact wanted0 rfl); (· rfl); refine Marker.mk ?_)
  refine Marker.in ?_
  have BZ := Lib.hid (below_alloc1 w2 (.cells (repV (z14 0)) 40))
  have bel := below_alloc1 w2 (.cells (repV (z14 0)) 40)
  replace KN := Lib.hid (KN.out.below bel)
  replace KO := Lib.hid (KO.out.below bel)
  replace BB := Lib.hid (bt BB.out bel)
  have K8 := Lib.hid (Blk.new w2 (repV (z14 0)) 40)
  clear bel
  generalize w2.alloc (.cells (repV (z14 0)) 40) = w3 at *
  generalize hg : w2.heap.size = g8 at *
  go_wp2_with ((with_reducible show wpList _ _ _ (⟨_, .store 40 _ _, _, _, _, none⟩ :: _) _ _); (with_reducible refine wpBlk_store (g := g8) (cs := (repV x)) agg_rep ?_ ?_ K8 ?_ ?_ ?_ ?_); (· exact wanted0 rfl); (· exact ⟨rfl, rfl, rfl⟩); (· exact repV_size _); (· exact repV_size _); (· exact repV_one _); refine Marker.mk ?_)
  refine Marker.in ?_
  replace BZ := Lib.hid (below_setRow (g := g8) BZ.out (Nat.le_refl _) (repV x))
  replace KN := Lib.hid (KN.out.setRow_other g8 (repV x) (by omega))
  replace KO := Lib.hid (KO.out.setRow_other g8 (repV x) (by omega))
  replace K8 := Lib.hid (K8.out.setRow (repV x))
  replace BB := Lib.hid (below_setRow (g := g8) BB.out (by omega) (repV x))
  generalize w3.setRow g8 (repV x) = w4 at *
  clear BZ hg
  clear ltw2KN
  clear ltw2KO
  have lK8 := K8.out.lt
  go_wp2_with ((with_reducible show wpList _ _ _ (⟨_, .load 40 _, _, _, _, none⟩ :: _) _ _); (with_reducible refine wpBlk_load (g := gn) agg_rep ?_ ?_ KN ?_ ?_); (· exact wanted0 rfl); (· exact ⟨rfl, rfl⟩); (· exact repV_size _))
  ((with_reducible refine (FT2.out _).mono ?_))
  rintro e w5 ⟨rfl, b5⟩
  replace KN := Lib.hid (KN.out.below b5)
  replace KO := Lib.hid (KO.out.below b5)
  replace K8 := Lib.hid (K8.out.below b5)
  replace BB := Lib.hid (bt BB.out b5)
  clear b5
  have ltw5KO := KO.out.lt
  have ltw5K8 := K8.out.lt
  have ltw5 := BB.out.size
  go_wp2_with ((with_reducible show wpList _ _ _ (⟨_, .alloc 40, _, _, _, none⟩ :: _) _ _); (with_reducible refine wpRow_alloc zeroT_repy ?_ ?_ ?_); (· exact wanted0 rfl); (· rfl); refine Marker.mk ?_)
  refine Marker.in ?_
  have BZ := Lib.hid (below_alloc1 w5 (.cells (repV (z14 0)) 40))
  have bel := below_alloc1 w5 (.cells (repV (z14 0)) 40)
  replace KO := Lib.hid (KO.out.below bel)
  replace K8 := Lib.hid (K8.out.below bel)
  replace BB := Lib.hid (bt BB.out bel)
  have K9 := Lib.hid (Blk.new w5 (repV (z14 0)) 40)
  clear bel
  generalize w5.alloc (.cells (repV (z14 0)) 40) = w6 at *
  generalize hg : w5.heap.size = g9 at *
  go_wp2_with ((with_reducible show wpList _ _ _ (⟨_, .store 40 _ _, _, _, _, none⟩ :: _) _ _); (with_reducible refine wpBlk_store (g := g9) (cs := (repV y)) agg_rep ?_ ?_ K9 ?_ ?_ ?_ ?_); (· exact wanted0 rfl); (· exact ⟨rfl, rfl, rfl⟩); (· exact repV_size _); (· exact repV_size _); (· exact repV_one _); refine Marker.mk ?_)
  refine Marker.in ?_
  replace BZ := Lib.hid (below_setRow (g := g9) BZ.out (Nat.le_refl _) (repV y))
  replace KO := Lib.hid (KO.out.setRow_other g9 (repV y) (by omega))
  replace K8 := Lib.hid (K8.out.setRow_other g9 (repV y) (by omega))
  replace K9 := Lib.hid (K9.out.setRow (repV y))
  replace BB := Lib.hid (below_setRow (g := g9) BB.out (by omega) (repV y))
  generalize w6.setRow g9 (repV y) = w7 at *
  clear BZ hg
  clear ltw5KO
  clear ltw5K8
  have lK9 := K9.out.lt
  go_wp2_with ((with_reducible show wpList _ _ _ (⟨_, .load 40 _, _, _, _, none⟩ :: _) _ _); (with_reducible refine wpBlk_load (g := g8) agg_rep ?_ ?_ K8 ?_ ?_); (· exact wanted0 rfl); (· exact ⟨rfl, rfl⟩); (· exact repV_size _))
  ((with_reducible refine (PM1.out _).mono ?_))
  rintro e w8 ⟨hp8, b8⟩
  rw [HP.out] at hp8
  obtain ⟨A1, c1, base1, rfl, o1⟩ := hp8
  have O1 := Lib.hid o1
  clear o1
  replace KO := Lib.hid (KO.out.below b8)
  replace K8 := Lib.hid (K8.out.below b8)
  replace K9 := Lib.hid (K9.out.below b8)
  replace BB := Lib.hid (bt BB.out b8)
  clear b8
  rw [← HN1.out]
  go_wp2_with ((with_reducible show wpList _ _ _ (⟨_, .load 40 _, _, _, _, none⟩ :: _) _ _); (with_reducible refine wpBlk_load (g := g9) agg_rep ?_ ?_ K9 ?_ ?_); (· exact wanted0 rfl); (· exact ⟨rfl, rfl⟩); (· exact repV_size _))
  ((with_reducible refine (PM2.out _).mono ?_))
  rintro e w9 ⟨hp9, b9⟩
  rw [HQ.out] at hp9
  obtain ⟨A2, c2, base2, rfl, o2⟩ := hp9
  have O2 := Lib.hid o2
  clear o2
  replace O1 := Lib.hid (own_below O1.out b9)
  replace KO := Lib.hid (KO.out.below b9)
  replace K8 := Lib.hid (K8.out.below b9)
  replace K9 := Lib.hid (K9.out.below b9)
  replace BB := Lib.hid (bt BB.out b9)
  clear b9
  rw [← HN2.out]
  have TK1 := Lib.hid (fun W (h : Row W A1 p) => take_rep p A1 n1 c1 HN1.out.symm (by have := own_cap8 O1.out; rw [← HN1.out] at this; exact this.1) (own_cap8 O1.out).2 W h)
  have TK3 := Lib.hid (fun W (h : Row W A1 p) => take_msg p A1 n1 c1 HN1.out.symm (by have := own_cap8 O1.out; rw [← HN1.out] at this; exact this.1) (own_cap8 O1.out).2 W h)
  go_wp2_with fail
  ((with_reducible refine (TK1.out _ O1.out.row).mono ?_))
  rintro e w10 ⟨ht, b10⟩
  rw [T1.out] at ht
  obtain rfl := ht
  clear TK1
  replace O1 := Lib.hid (own_below O1.out b10)
  replace O2 := Lib.hid (own_below O2.out b10)
  replace KO := Lib.hid (KO.out.below b10)
  replace K8 := Lib.hid (K8.out.below b10)
  replace K9 := Lib.hid (K9.out.below b10)
  replace BB := Lib.hid (bt BB.out b10)
  clear b10
  have ltw10KO := KO.out.lt
  have ltw10K8 := K8.out.lt
  have ltw10K9 := K9.out.lt
  have ltw10 := BB.out.size
  go_wp2_with ((with_reducible show wpList _ _ _ (⟨_, .alloc 40, _, _, _, none⟩ :: _) _ _); (with_reducible refine wpRow_alloc zeroT_repy ?_ ?_ ?_); (· exact wanted0 rfl); (· rfl); refine Marker.mk ?_)
  refine Marker.in ?_
  have BZ := Lib.hid (below_alloc1 w10 (.cells (repV (z14 0)) 40))
  have bel := below_alloc1 w10 (.cells (repV (z14 0)) 40)
  replace KO := Lib.hid (KO.out.below bel)
  replace K8 := Lib.hid (K8.out.below bel)
  replace K9 := Lib.hid (K9.out.below bel)
  replace BB := Lib.hid (bt BB.out bel)
  have K14 := Lib.hid (Blk.new w10 (repV (z14 0)) 40)
  clear bel
  generalize w10.alloc (.cells (repV (z14 0)) 40) = w11 at *
  generalize hg : w10.heap.size = g14 at *
  go_wp2_with ((with_reducible show wpList _ _ _ (⟨_, .store 40 _ _, _, _, _, none⟩ :: _) _ _); (with_reducible refine wpBlk_store (g := g14) (cs := (repV x)) agg_rep ?_ ?_ K14 ?_ ?_ ?_ ?_); (· exact wanted0 rfl); (· exact ⟨rfl, rfl, rfl⟩); (· exact repV_size _); (· exact repV_size _); (· exact repV_one _); refine Marker.mk ?_)
  refine Marker.in ?_
  replace BZ := Lib.hid (below_setRow (g := g14) BZ.out (Nat.le_refl _) (repV x))
  replace KO := Lib.hid (KO.out.setRow_other g14 (repV x) (by omega))
  replace K8 := Lib.hid (K8.out.setRow_other g14 (repV x) (by omega))
  replace K9 := Lib.hid (K9.out.setRow_other g14 (repV x) (by omega))
  replace K14 := Lib.hid (K14.out.setRow (repV x))
  replace BB := Lib.hid (below_setRow (g := g14) BB.out (by omega) (repV x))
  generalize w11.setRow g14 (repV x) = w12 at *
  replace O1 := Lib.hid (own_below O1.out (by rw [hg]; exact BZ.out))
  replace O2 := Lib.hid (own_below O2.out (by rw [hg]; exact BZ.out))
  clear BZ hg
  clear ltw10KO
  clear ltw10K8
  clear ltw10K9
  have lK14 := K14.out.lt
  go_wp2_with ((with_reducible show wpList _ _ _ (⟨_, .load 24 _, _, _, _, none⟩ :: _) _ _); (with_reducible refine wpBlk_load (g := go) agg_msg ?_ ?_ KO ?_ ?_); (· exact wanted0 rfl); (· exact ⟨rfl, rfl⟩); (· exact msgV_size _))
  ((with_reducible refine (FT3.out _).mono ?_))
  rintro e w13 ⟨rfl, b13⟩
  replace O1 := Lib.hid (own_below O1.out b13)
  replace O2 := Lib.hid (own_below O2.out b13)
  replace KO := Lib.hid (KO.out.below b13)
  replace K8 := Lib.hid (K8.out.below b13)
  replace K9 := Lib.hid (K9.out.below b13)
  replace K14 := Lib.hid (K14.out.below b13)
  replace BB := Lib.hid (bt BB.out b13)
  clear b13
  go_wp2_with fail
  ((with_reducible refine (PM3.out _).mono ?_))
  rintro e w14 ⟨hp14, b14⟩
  rw [HO.out] at hp14
  obtain ⟨A3, c3, base3, rfl, o3⟩ := hp14
  have O3 := Lib.hid o3
  clear o3
  replace O1 := Lib.hid (own_below O1.out b14)
  replace O2 := Lib.hid (own_below O2.out b14)
  replace K8 := Lib.hid (K8.out.below b14)
  replace K9 := Lib.hid (K9.out.below b14)
  replace K14 := Lib.hid (K14.out.below b14)
  replace BB := Lib.hid (bt BB.out b14)
  clear b14
  rw [← HN3.out]
  have TK2 := Lib.hid (fun W (h : Row W A3 o) => take_rep o A3 n3 c3 HN3.out.symm (by have := own_cap8 O3.out; rw [← HN3.out] at this; exact this.1) (own_cap8 O3.out).2 W h)
  go_wp2_with fail
  ((with_reducible refine (TK2.out _ O3.out.row).mono ?_))
  rintro e w15 ⟨ht, b15⟩
  rw [T2.out] at ht
  obtain rfl := ht
  clear TK2
  replace O1 := Lib.hid (own_below O1.out b15)
  replace O2 := Lib.hid (own_below O2.out b15)
  replace O3 := Lib.hid (own_below O3.out b15)
  replace K8 := Lib.hid (K8.out.below b15)
  replace K9 := Lib.hid (K9.out.below b15)
  replace K14 := Lib.hid (K14.out.below b15)
  replace BB := Lib.hid (bt BB.out b15)
  clear b15
  have ltw15K8 := K8.out.lt
  have ltw15K9 := K9.out.lt
  have ltw15K14 := K14.out.lt
  have ltw15 := BB.out.size
  go_wp2_with ((with_reducible show wpList _ _ _ (⟨_, .alloc 40, _, _, _, none⟩ :: _) _ _); (with_reducible refine wpRow_alloc zeroT_repy ?_ ?_ ?_); (· exact wanted0 rfl); (· rfl); refine Marker.mk ?_)
  refine Marker.in ?_
  have BZ := Lib.hid (below_alloc1 w15 (.cells (repV (z14 0)) 40))
  have bel := below_alloc1 w15 (.cells (repV (z14 0)) 40)
  replace K8 := Lib.hid (K8.out.below bel)
  replace K9 := Lib.hid (K9.out.below bel)
  replace K14 := Lib.hid (K14.out.below bel)
  replace BB := Lib.hid (bt BB.out bel)
  have K18 := Lib.hid (Blk.new w15 (repV (z14 0)) 40)
  clear bel
  generalize w15.alloc (.cells (repV (z14 0)) 40) = w16 at *
  generalize hg : w15.heap.size = g18 at *
  go_wp2_with ((with_reducible show wpList _ _ _ (⟨_, .store 40 _ _, _, _, _, none⟩ :: _) _ _); (with_reducible refine wpBlk_store (g := g18) (cs := (repV (z14 0))) agg_rep ?_ ?_ K18 ?_ ?_ ?_ ?_); (· exact wanted0 rfl); (· exact ⟨rfl, rfl, rfl⟩); (· exact repV_size _); (· exact repV_size _); (· exact repV_one _); refine Marker.mk ?_)
  refine Marker.in ?_
  replace BZ := Lib.hid (below_setRow (g := g18) BZ.out (Nat.le_refl _) (repV (z14 0)))
  replace K8 := Lib.hid (K8.out.setRow_other g18 (repV (z14 0)) (by omega))
  replace K9 := Lib.hid (K9.out.setRow_other g18 (repV (z14 0)) (by omega))
  replace K14 := Lib.hid (K14.out.setRow_other g18 (repV (z14 0)) (by omega))
  replace K18 := Lib.hid (K18.out.setRow (repV (z14 0)))
  replace BB := Lib.hid (below_setRow (g := g18) BB.out (by omega) (repV (z14 0)))
  generalize w16.setRow g18 (repV (z14 0)) = w17 at *
  replace O1 := Lib.hid (own_below O1.out (by rw [hg]; exact BZ.out))
  replace O2 := Lib.hid (own_below O2.out (by rw [hg]; exact BZ.out))
  replace O3 := Lib.hid (own_below O3.out (by rw [hg]; exact BZ.out))
  clear BZ hg
  clear ltw15K8
  clear ltw15K9
  clear ltw15K14
  have lK18 := K18.out.lt
  go_wp2_with fail
  ((with_reducible refine (TK3.out _ O1.out.row).mono ?_))
  rintro e w18 ⟨ht, b18⟩
  rw [T3.out] at ht
  obtain rfl := ht
  clear TK3
  replace O1 := Lib.hid (own_below O1.out b18)
  replace O2 := Lib.hid (own_below O2.out b18)
  replace O3 := Lib.hid (own_below O3.out b18)
  replace K8 := Lib.hid (K8.out.below b18)
  replace K9 := Lib.hid (K9.out.below b18)
  replace K14 := Lib.hid (K14.out.below b18)
  replace K18 := Lib.hid (K18.out.below b18)
  replace BB := Lib.hid (bt BB.out b18)
  clear b18
  have ltw18K8 := K8.out.lt
  have ltw18K9 := K9.out.lt
  have ltw18K14 := K14.out.lt
  have ltw18K18 := K18.out.lt
  have ltw18 := BB.out.size
  go_wp2_with ((with_reducible show wpList _ _ _ (⟨_, .alloc 24, _, _, _, none⟩ :: _) _ _); (with_reducible refine wpRow_alloc zeroT_msgy ?_ ?_ ?_); (· exact wanted0 rfl); (· rfl); refine Marker.mk ?_)
  refine Marker.in ?_
  have BZ := Lib.hid (below_alloc1 w18 (.cells (msgV (z12 0)) 24))
  have bel := below_alloc1 w18 (.cells (msgV (z12 0)) 24)
  replace K8 := Lib.hid (K8.out.below bel)
  replace K9 := Lib.hid (K9.out.below bel)
  replace K14 := Lib.hid (K14.out.below bel)
  replace K18 := Lib.hid (K18.out.below bel)
  replace BB := Lib.hid (bt BB.out bel)
  have K20 := Lib.hid (Blk.new w18 (msgV (z12 0)) 24)
  clear bel
  generalize w18.alloc (.cells (msgV (z12 0)) 24) = w19 at *
  generalize hg : w18.heap.size = g20 at *
  go_wp2_with ((with_reducible show wpList _ _ _ (⟨_, .store 24 _ _, _, _, _, none⟩ :: _) _ _); (with_reducible refine wpBlk_store (g := g20) (cs := (msgV (z12 0))) agg_msg ?_ ?_ K20 ?_ ?_ ?_ ?_); (· exact wanted0 rfl); (· exact ⟨rfl, rfl, rfl⟩); (· exact msgV_size _); (· exact msgV_size _); (· exact msgV_one _); refine Marker.mk ?_)
  refine Marker.in ?_
  replace BZ := Lib.hid (below_setRow (g := g20) BZ.out (Nat.le_refl _) (msgV (z12 0)))
  replace K8 := Lib.hid (K8.out.setRow_other g20 (msgV (z12 0)) (by omega))
  replace K9 := Lib.hid (K9.out.setRow_other g20 (msgV (z12 0)) (by omega))
  replace K14 := Lib.hid (K14.out.setRow_other g20 (msgV (z12 0)) (by omega))
  replace K18 := Lib.hid (K18.out.setRow_other g20 (msgV (z12 0)) (by omega))
  replace K20 := Lib.hid (K20.out.setRow (msgV (z12 0)))
  replace BB := Lib.hid (below_setRow (g := g20) BB.out (by omega) (msgV (z12 0)))
  generalize w19.setRow g20 (msgV (z12 0)) = w20 at *
  replace O1 := Lib.hid (own_below O1.out (by rw [hg]; exact BZ.out))
  replace O2 := Lib.hid (own_below O2.out (by rw [hg]; exact BZ.out))
  replace O3 := Lib.hid (own_below O3.out (by rw [hg]; exact BZ.out))
  clear BZ hg
  clear ltw18K8
  clear ltw18K9
  clear ltw18K14
  clear ltw18K18
  have lK20 := K20.out.lt
  have EX := fun W => eql_rep x x HX.out HX.out W
  rw [decide_eq_true rfl] at EX
  have EY := fun W => eql_rep x y HX.out HY.out W
  have hs : ((strOfNums p).toList == (strOfNums q).toList) = decide (x = y) := by
    rw [str_beq O1.out.2 O2.out.2, HPQ.out]
  have v1 : ∀ y : Ext w20, (convert 27 9 (.slice A1 n1 c1)).run Try.prog (exw w20 y) = .ok (.string (strOfNums p)) (exw w20 y) := fun y => conv_row n1 c1 HN1.out.symm (row_below O1.out.row (exw_bel y))
  have v2 : ∀ y : Ext w20, (convert 27 9 (.slice A2 n2 c2)).run Try.prog (exw w20 y) = .ok (.string (strOfNums q)) (exw w20 y) := fun y => conv_row n2 c2 HN2.out.symm (row_below O2.out.row (exw_bel y))
  generalize decide (x = y) = bb at *
  generalize strOfNums p = s1 at *
  generalize strOfNums q = s2 at *
  have t9 : decide ((n1 : Int) ≤ 9) = true := decide_eq_true (by omega)
  go_wp2_with fail
  refine wp_region_ext (by kernel_rfl) (by kernel_rfl) ?_
  repeat (first
        | go_big_quiet_skip
        | (go_big_quiet_want
           first
             | (refine quiet_load_blk (T := 40) (g := g14) agg_rep _ rfl rfl K14 ?_ ?_; (· exact repV_size _); go_simp; go_big_quiet_on)
             | (refine quiet_load_blk (T := 40) (g := g8) agg_rep _ rfl rfl K8 ?_ ?_; (· exact repV_size _); go_simp; go_big_quiet_on)
             | (refine quiet_load_blk (T := 40) (g := g9) agg_rep _ rfl rfl K9 ?_ ?_; (· exact repV_size _); go_simp; go_big_quiet_on)
             | (go_big_quiet_op
                first
                  | go_big_quiet_on
                  | go_big_quiet_call ((fail)))))
  refine wpQuiet_nil ?_
  intro _ hw'
  obtain ⟨y9, rfl⟩ := hw'
  replace BB := Lib.hid (bt BB.out (exw_bel y9))
  generalize exw w20 y9 = w24 at *
  go_wp2_with fail
  go_ret
  exact ⟨rfl, BB.out⟩
theorem walk_MsgReplies (v0 v1 v2 : Value) (w : World) (q0 : ∃ base, Value.okWide Try.prog w .any base 40 v0) (q1 : ∃ base, Value.okWide Try.prog w .any base 40 v1) (q2 : ∃ base, Value.okWide Try.prog w .any base 24 v2) :
    Calls Try.prog 7 #[v0, v1, v2] w fun e w' => e = .returned (.bool true) ∧ Below w.heap.size w w' := by
  obtain ⟨base, q0⟩ := q0
  obtain ⟨base1, q1⟩ := q1
  obtain ⟨base2, q2⟩ := q2
  obtain ⟨l, hl, rfl⟩ := rep_of _ _ _ q0
  obtain ⟨l2, hl2, rfl⟩ := rep_of _ _ _ q1
  obtain ⟨l3, hl3, rfl⟩ := msg_of _ _ _ q2
  exact msgReplies l l2 l3 hl hl2 hl3 w
end Go.Proofs.Ytakahkpogooepaa
