/- The walk of MsgCuts. -/
import Derived.Test.YtakahkpogooepaaRepN
import Derived.Test.YtakahkpogooepaaRepO
import Derived.Test.YtakahkpogooepaaRepT
namespace Go.Proofs.Ytakahkpogooepaa
open Go.RowKit Go.WideShapes Go.ChangeShapes

set_option maxRecDepth 100000 in
set_option maxHeartbeats 6400000 in
theorem msgCuts (l1 l2 : List Int) (hl1 : IsMsgL l1) (hl2 : IsRepL l2) (n : Int) (hn0 : 0 ≤ n) (hn9 : n ≤ 255) (w : World) :
    Calls Try.prog 8 #[.agg (msgV l1), .agg (repV l2), .int .u8 n] w fun e' w' => e' = .returned (.bool true) ∧ Below w.heap.size w w' := by
  have FT1 := Lib.hid (fun W => fit_msg l1 hl1 W)
  have FT2 := Lib.hid (fun W => fit_rep l2 hl2 W)
  obtain ⟨⟨p, hp⟩, hx⟩ := fit_ok l1 hl1
  obtain ⟨⟨q, hq⟩, hy⟩ := fitR_ok l2 hl2
  generalize fitL l1 = x at *
  generalize fitR l2 = y at *
  have B1 := sz_bound (x.getD 0 0)
  rw [← put8_len hp] at B1
  have B2 := szR_bound (y.getD 0 0)
  rw [← putR8_len hq] at B2
  obtain ⟨m1, hm1⟩ : ∃ m : Nat, (m : Int) = n % (p.length : Int) := ⟨(n % (p.length : Int)).toNat, by have := Int.emod_nonneg n (b := (p.length : Int)) (by omega); omega⟩
  obtain ⟨m2, hm2⟩ : ∃ m : Nat, (m : Int) = n % (q.length : Int) := ⟨(n % (q.length : Int)).toNat, by have := Int.emod_nonneg n (b := (q.length : Int)) (by omega); omega⟩
  have r1 : m1 < p.length := by have := Int.emod_lt_of_pos n (b := (p.length : Int)) (by omega); omega
  have r2 : m2 < q.length := by have := Int.emod_lt_of_pos n (b := (q.length : Int)) (by omega); omega
  have T1 := Lib.hid (take8_cut hp m1 r1)
  have T2 := Lib.hid (takeR8_cut hq m2 r2)
  obtain ⟨n1, hn1⟩ : ∃ n, n = p.length := ⟨_, rfl⟩
  obtain ⟨n2, hn2⟩ : ∃ n, n = q.length := ⟨_, rfl⟩
  rw [← hn1] at B1 hm1 r1
  rw [← hn2] at B2 hm2 r2
  obtain ⟨B1a, B1b⟩ := B1
  obtain ⟨B2a, B2b⟩ := B2
  have HN1 := Lib.hid hn1
  have HN2 := Lib.hid hn2
  have HP := Lib.hid hp
  have HQ := Lib.hid hq
  have PM1 := Lib.hid (fun W => put_msg x W hx)
  have PM2 := Lib.hid (fun W => put_rep y W hy)
  have z1 : ((n1 : Int) == 0) = false := by simp; omega
  have z2 : ((n2 : Int) == 0) = false := by simp; omega
  replace hm1 := hm1.symm
  replace hm2 := hm2.symm
  clear hp hq hx hy hn1 hn2 hl1 hl2
  go_enter Try.func8, Try.ntmps8
  go_wp2_with fail
  have KM := Lib.hid ((Blk.new w (msgV l1) 24).alloc (.cells (repV l2) 40))
  have KN := Lib.hid (Blk.new' (w.alloc (.cells (msgV l1) 24)) (repV l2) 40 (g := w.heap.size + 1) (by simp))
  have BB := Lib.hid (below_alloc2 w (.cells (msgV l1) 24) (.cells (repV l2) 40))
  generalize (w.alloc (.cells (msgV l1) 24)).alloc (.cells (repV l2) 40) = w0 at *
  generalize hgn : w.heap.size + 1 = gn at *
  ((with_reducible refine (shown08 _).mono ?_))
  rintro e w1 ⟨rfl, b1⟩
  replace KM := Lib.hid (KM.out.below b1)
  replace KN := Lib.hid (KN.out.below b1)
  replace BB := Lib.hid (bt BB.out b1)
  clear b1
  go_wp2_with ((with_reducible show wpList _ _ _ (⟨_, .load 24 _, _, _, _, none⟩ :: _) _ _); (with_reducible refine wpBlk_load (g := w.heap.size) agg_msg ?_ ?_ KM ?_ ?_); (· exact wanted0 rfl); (· exact ⟨rfl, rfl⟩); (· exact msgV_size _))
  ((with_reducible refine (FT1.out _).mono ?_))
  rintro e w2 ⟨rfl, b2⟩
  replace KM := Lib.hid (KM.out.below b2)
  replace KN := Lib.hid (KN.out.below b2)
  replace BB := Lib.hid (bt BB.out b2)
  clear b2
  go_wp2_with fail
  ((with_reducible refine (PM1.out _).mono ?_))
  rintro e w3 ⟨hp3, b3⟩
  rw [HP.out] at hp3
  obtain ⟨A1, c1, base1, rfl, o1⟩ := hp3
  have O1 := Lib.hid o1
  clear o1
  replace KN := Lib.hid (KN.out.below b3)
  replace BB := Lib.hid (bt BB.out b3)
  clear b3
  rw [← HN1.out]
  go_wp2_with ((with_reducible show wpList _ _ _ (⟨_, .load 40 _, _, _, _, none⟩ :: _) _ _); (with_reducible refine wpBlk_load (g := gn) agg_rep ?_ ?_ KN ?_ ?_); (· exact wanted0 rfl); (· exact ⟨rfl, rfl⟩); (· exact repV_size _))
  ((with_reducible refine (FT2.out _).mono ?_))
  rintro e w4 ⟨rfl, b4⟩
  replace O1 := Lib.hid (own_below O1.out b4)
  replace KN := Lib.hid (KN.out.below b4)
  replace BB := Lib.hid (bt BB.out b4)
  clear b4
  go_wp2_with fail
  ((with_reducible refine (PM2.out _).mono ?_))
  rintro e w5 ⟨hp5, b5⟩
  rw [HQ.out] at hp5
  obtain ⟨A2, c2, base2, rfl, o2⟩ := hp5
  have O2 := Lib.hid o2
  clear o2
  replace O1 := Lib.hid (own_below O1.out b5)
  replace BB := Lib.hid (bt BB.out b5)
  clear b5
  rw [← HN2.out]
  have q1 : n1 ≤ c1 := by have := (own_cap8 O1.out).1; rw [← HN1.out] at this; exact this
  have q2 : n2 ≤ c2 := by have := (own_cap8 O2.out).1; rw [← HN2.out] at this; exact this
  have q3 := (own_cap8 O1.out).2
  have q4 := (own_cap8 O2.out).2
  have u1 : m1 ≤ c1 := by omega
  have u2 : m2 ≤ c2 := by omega
  have TK1 := Lib.hid (fun W (h : Row W A1 (p.take m1)) => take_msg (p.take m1) A1 m1 c1 (by rw [List.length_take, ← HN1.out]; omega) u1 q3 W h)
  have TK2 := Lib.hid (fun W (h : Row W A2 (q.take m2)) => take_rep (q.take m2) A2 m2 c2 (by rw [List.length_take, ← HN2.out]; omega) u2 q4 W h)
  go_wp2_with fail
  ((with_reducible refine (TK1.out _ (row_take8 O1.out.row m1)).mono ?_))
  rintro e w6 ⟨ht, b6⟩
  rw [T1.out] at ht
  obtain rfl := ht
  clear TK1
  replace O1 := Lib.hid (own_below O1.out b6)
  replace O2 := Lib.hid (own_below O2.out b6)
  replace BB := Lib.hid (bt BB.out b6)
  clear b6
  have ltw6 := BB.out.size
  go_wp2_with ((with_reducible show wpList _ _ _ (⟨_, .alloc 24, _, _, _, none⟩ :: _) _ _); (with_reducible refine wpRow_alloc zeroT_msgy ?_ ?_ ?_); (· exact wanted0 rfl); (· rfl); refine Marker.mk ?_)
  refine Marker.in ?_
  have BZ := Lib.hid (below_alloc1 w6 (.cells (msgV (z12 0)) 24))
  have bel := below_alloc1 w6 (.cells (msgV (z12 0)) 24)
  replace BB := Lib.hid (bt BB.out bel)
  have K12 := Lib.hid (Blk.new w6 (msgV (z12 0)) 24)
  clear bel
  generalize w6.alloc (.cells (msgV (z12 0)) 24) = w7 at *
  generalize hg : w6.heap.size = g12 at *
  go_wp2_with ((with_reducible show wpList _ _ _ (⟨_, .store 24 _ _, _, _, _, none⟩ :: _) _ _); (with_reducible refine wpBlk_store (g := g12) (cs := (msgV (z12 0))) agg_msg ?_ ?_ K12 ?_ ?_ ?_ ?_); (· exact wanted0 rfl); (· exact ⟨rfl, rfl, rfl⟩); (· exact msgV_size _); (· exact msgV_size _); (· exact msgV_one _); refine Marker.mk ?_)
  refine Marker.in ?_
  replace BZ := Lib.hid (below_setRow (g := g12) BZ.out (Nat.le_refl _) (msgV (z12 0)))
  replace K12 := Lib.hid (K12.out.setRow (msgV (z12 0)))
  replace BB := Lib.hid (below_setRow (g := g12) BB.out (by omega) (msgV (z12 0)))
  generalize w7.setRow g12 (msgV (z12 0)) = w8 at *
  replace O1 := Lib.hid (own_below O1.out (by rw [hg]; exact BZ.out))
  replace O2 := Lib.hid (own_below O2.out (by rw [hg]; exact BZ.out))
  clear BZ hg
  have lK12 := K12.out.lt
  go_wp2_with fail
  ((with_reducible refine (TK2.out _ (row_take8 O2.out.row m2)).mono ?_))
  rintro e w9 ⟨ht, b9⟩
  rw [T2.out] at ht
  obtain rfl := ht
  clear TK2
  replace O1 := Lib.hid (own_below O1.out b9)
  replace O2 := Lib.hid (own_below O2.out b9)
  replace K12 := Lib.hid (K12.out.below b9)
  replace BB := Lib.hid (bt BB.out b9)
  clear b9
  have ltw9K12 := K12.out.lt
  have ltw9 := BB.out.size
  go_wp2_with ((with_reducible show wpList _ _ _ (⟨_, .alloc 40, _, _, _, none⟩ :: _) _ _); (with_reducible refine wpRow_alloc zeroT_repy ?_ ?_ ?_); (· exact wanted0 rfl); (· rfl); refine Marker.mk ?_)
  refine Marker.in ?_
  have BZ := Lib.hid (below_alloc1 w9 (.cells (repV (z14 0)) 40))
  have bel := below_alloc1 w9 (.cells (repV (z14 0)) 40)
  replace K12 := Lib.hid (K12.out.below bel)
  replace BB := Lib.hid (bt BB.out bel)
  have K14 := Lib.hid (Blk.new w9 (repV (z14 0)) 40)
  clear bel
  generalize w9.alloc (.cells (repV (z14 0)) 40) = w10 at *
  generalize hg : w9.heap.size = g14 at *
  go_wp2_with ((with_reducible show wpList _ _ _ (⟨_, .store 40 _ _, _, _, _, none⟩ :: _) _ _); (with_reducible refine wpBlk_store (g := g14) (cs := (repV (z14 0))) agg_rep ?_ ?_ K14 ?_ ?_ ?_ ?_); (· exact wanted0 rfl); (· exact ⟨rfl, rfl, rfl⟩); (· exact repV_size _); (· exact repV_size _); (· exact repV_one _); refine Marker.mk ?_)
  refine Marker.in ?_
  replace BZ := Lib.hid (below_setRow (g := g14) BZ.out (Nat.le_refl _) (repV (z14 0)))
  replace K12 := Lib.hid (K12.out.setRow_other g14 (repV (z14 0)) (by omega))
  replace K14 := Lib.hid (K14.out.setRow (repV (z14 0)))
  replace BB := Lib.hid (below_setRow (g := g14) BB.out (by omega) (repV (z14 0)))
  generalize w10.setRow g14 (repV (z14 0)) = w11 at *
  replace O1 := Lib.hid (own_below O1.out (by rw [hg]; exact BZ.out))
  replace O2 := Lib.hid (own_below O2.out (by rw [hg]; exact BZ.out))
  clear BZ hg
  clear ltw9K12
  have lK14 := K14.out.lt
  have EZ0 := fun W => eql_msg (z12 0) (z12 0) ⟨rfl, .inl rfl⟩ ⟨rfl, .inl rfl⟩ W
  rw [decide_eq_true rfl] at EZ0
  have EZ : ∀ W, (binOp .eql 24 (.agg (msgV (z12 0))) (.agg #[.int .i64 0, .int .i64 0, .int .i64 0, .int .i64 0, .int .i64 0, .int .i64 0, .int .i64 0, .bool false, .int .i64 0, .int .i64 0, .int .i64 0, .int .i64 0])).run Try.prog W = .ok (.bool true) W := EZ0
  have ER0 := fun W => eql_rep (z14 0) (z14 0) (isRep_z14 0) (isRep_z14 0) W
  rw [decide_eq_true rfl] at ER0
  have ER : ∀ W, (binOp .eql 40 (.agg (repV (z14 0))) (.agg #[.int .i64 0, .int .i64 0, .int .i64 0, .int .i64 0, .int .i64 0, .int .i64 0, .int .u8 0, .int .u8 0, .int .u8 0, .int .u8 0, .int .u8 0, .int .u8 0, .int .u8 0, .int .u8 0])).run Try.prog W = .ok (.bool true) W := ER0
  clear EZ0 ER0
  go_wp2_with (first | ((with_reducible show wpList _ _ _ (⟨_, .load 24 _, _, _, _, some _⟩ :: _) _ _); (with_reducible refine wpBlk_load (g := g12) agg_msg ?_ ?_ K12 ?_ ?_); (· exact wantedY rfl rfl rfl); (· exact ⟨rfl, rfl⟩); (· exact msgV_size _)) | ((with_reducible show wpList _ _ _ (⟨_, .load 40 _, _, _, _, some _⟩ :: _) _ _); (with_reducible refine wpBlk_load (g := g14) agg_rep ?_ ?_ K14 ?_ ?_); (· exact wantedY rfl rfl rfl); (· exact ⟨rfl, rfl⟩); (· exact repV_size _)))
  go_ret
  exact ⟨rfl, BB.out⟩
theorem walk_MsgCuts (v0 v1 v2 : Value) (w : World) (q0 : ∃ base, Value.okWide Try.prog w .any base 24 v0) (q1 : ∃ base, Value.okWide Try.prog w .any base 40 v1) (q2 : ∃ n : Int, v2 = .int .u8 n ∧ 0 ≤ n ∧ n ≤ 255) :
    Calls Try.prog 8 #[v0, v1, v2] w fun e w' => e = .returned (.bool true) ∧ Below w.heap.size w w' := by
  obtain ⟨base, q0⟩ := q0
  obtain ⟨base1, q1⟩ := q1
  obtain ⟨n, rfl, h0, h9⟩ := q2
  obtain ⟨l, hl, rfl⟩ := msg_of _ _ _ q0
  obtain ⟨l2, hl2, rfl⟩ := rep_of _ _ _ q1
  exact msgCuts l l2 hl hl2 n h0 h9 w
end Go.Proofs.Ytakahkpogooepaa
