/- The walk of MsgSizes. -/
import Derived.Test.YtakahkpogooepaaMsgY
import Derived.Test.YtakahkpogooepaaMsgO
namespace Go.Proofs.Ytakahkpogooepaa
open Go.RowKit Go.WideShapes Go.ChangeShapes

set_option maxRecDepth 100000 in
set_option maxHeartbeats 3200000 in
theorem msgSizes (l1 l2 : List Int) (hl1 : IsMsgL l1) (hl2 : IsMsgL l2) (w : World) :
    Calls Try.prog 4 #[.agg (msgV l1), .agg (msgV l2)] w fun e' w' => e' = .returned (.bool true) ∧ Below w.heap.size w w' := by
  have FT1 := Lib.hid (fun W => fit_msg l1 hl1 W)
  have FT2 := Lib.hid (fun W => fit_msg l2 hl2 W)
  obtain ⟨⟨p, hp⟩, hx⟩ := fit_ok l1 hl1
  obtain ⟨⟨q, hq⟩, hy⟩ := fit_ok l2 hl2
  generalize fitL l1 = x at *
  generalize fitL l2 = y at *
  obtain ⟨-, k1, k11⟩ := put8_kind hp
  obtain ⟨ds, ps, -, -, -, hps⟩ := put8_some hp
  obtain ⟨k, hk⟩ : ∃ k : Nat, x.getD 0 0 = (k : Int) := ⟨(x.getD 0 0).toNat, by omega⟩
  rw [hk] at k1 k11 hps
  have PL := sizes_plain hx.1 hy.1 hp hq
  have L1 := put8_len hp
  have L2 := put8_len hq
  rw [hk] at L1
  have B1 := sz_bound (k : Int)
  have B2 := sz_bound (y.getD 0 0)
  rw [← L1] at B1
  rw [← L2] at B2
  obtain ⟨n1, hn1⟩ : ∃ n, n = p.length := ⟨_, rfl⟩
  obtain ⟨n2, hn2⟩ : ∃ n, n = q.length := ⟨_, rfl⟩
  rw [← hn1] at L1 B1
  rw [← hn2] at B2
  rw [← hn1, ← hn2] at PL
  obtain ⟨B1a, B1b⟩ := B1
  obtain ⟨B2a, B2b⟩ := B2
  have HP := Lib.hid hp
  have HQ := Lib.hid hq
  have HX := Lib.hid hx
  have HY := Lib.hid hy
  have HK := Lib.hid hk
  have HPS := Lib.hid hps
  have HN1 := Lib.hid hn1
  have HN2 := Lib.hid hn2
  have HL1 := Lib.hid L1
  have HPL := Lib.hid PL
  have PM1 := Lib.hid (fun W => put_msg x W hx)
  have PM2 := Lib.hid (fun W => put_msg y W hy)
  have k1n : 1 ≤ k := by omega
  have k11n : k ≤ 11 := by omega
  clear hp hq hx hy hk hps hn1 hn2 L1 L2 PL hl1 hl2 k1 k11
  go_enter Try.func4, Try.ntmps4
  go_wp2_with fail
  have KM := Lib.hid ((Blk.new w (msgV l1) 24).alloc (.cells (msgV l2) 24))
  have KN := Lib.hid (Blk.new' (w.alloc (.cells (msgV l1) 24)) (msgV l2) 24 (g := w.heap.size + 1) (by simp))
  have BB := Lib.hid (below_alloc2 w (.cells (msgV l1) 24) (.cells (msgV l2) 24))
  generalize (w.alloc (.cells (msgV l1) 24)).alloc (.cells (msgV l2) 24) = w0 at *
  ((with_reducible refine (shown08 _).mono ?_))
  rintro e w1 ⟨rfl, b1⟩
  replace KM := Lib.hid (KM.out.below b1)
  replace KN := Lib.hid (KN.out.below b1)
  replace BB := Lib.hid (bt BB.out b1)
  clear b1
  go_wp2_with ((with_reducible show wpList _ _ _ (⟨_, .load 24 _, _, _, _, none⟩ :: _) _ _); (with_reducible refine wpBlk_load (g := w.heap.size) agg_msg ?_ ?_ KM ?_ ?_); (· exact wanted0 rfl); (· exact ⟨rfl, rfl⟩); (· exact msgV_size _))
  ((with_reducible refine (FT1.out _).mono ?_))
  rintro e w2 ⟨rfl, b2⟩
  replace KM := Lib.hid (KM.out.below b2)
  replace KN := Lib.hid (KN.out.below b2)
  replace BB := Lib.hid (bt BB.out b2)
  clear b2 FT1
  have lm := KN.out.lt
  go_wp2_with ((with_reducible show wpList _ _ _ (⟨_, .alloc 24, _, _, _, none⟩ :: _) _ _); (with_reducible refine wpRow_alloc zeroT_msgy ?_ ?_ ?_); (· exact wanted0 rfl); (· rfl); refine Marker.mk ?_)
  refine Marker.in ?_
  have bel := below_alloc1 w2 (.cells (msgV (z12 0)) 24)
  replace KM := Lib.hid (KM.out.below bel)
  replace KN := Lib.hid (KN.out.below bel)
  replace BB := Lib.hid (bt BB.out bel)
  have K6 := Lib.hid (Blk.new w2 (msgV (z12 0)) 24)
  clear bel
  generalize w2.alloc (.cells (msgV (z12 0)) 24) = w3 at *
  generalize w2.heap.size = g6 at *
  go_wp2_with ((with_reducible show wpList _ _ _ (⟨_, .store 24 _ _, _, _, _, none⟩ :: _) _ _); (with_reducible refine wpBlk_store (g := g6) (cs := (msgV x)) agg_msg ?_ ?_ K6 ?_ ?_ ?_ ?_); (· exact wanted0 rfl); (· exact ⟨rfl, rfl, rfl⟩); (· exact msgV_size _); (· exact msgV_size _); (· exact msgV_one _); refine Marker.mk ?_)
  refine Marker.in ?_
  replace KM := Lib.hid (KM.out.setRow_other g6 (msgV x) (by omega))
  replace KN := Lib.hid (KN.out.setRow_other g6 (msgV x) (by omega))
  replace K6 := Lib.hid (K6.out.setRow (msgV x))
  replace BB := Lib.hid (below_setRow (g := g6) BB.out (by omega) (msgV x))
  generalize w3.setRow g6 (msgV x) = w4 at *
  have l6 := K6.out.lt
  go_wp2_with ((with_reducible show wpList _ _ _ (⟨_, .load 24 _, _, _, _, none⟩ :: _) _ _); (with_reducible refine wpBlk_load (g := (w.heap.size + 1)) agg_msg ?_ ?_ KN ?_ ?_); (· exact wanted0 rfl); (· exact ⟨rfl, rfl⟩); (· exact msgV_size _))
  ((with_reducible refine (FT2.out _).mono ?_))
  rintro e w5 ⟨rfl, b5⟩
  replace K6 := Lib.hid (K6.out.below b5)
  replace BB := Lib.hid (bt BB.out b5)
  clear b5 FT2
  have l5 := K6.out.lt
  go_wp2_with ((with_reducible show wpList _ _ _ (⟨_, .alloc 24, _, _, _, none⟩ :: _) _ _); (with_reducible refine wpRow_alloc zeroT_msgy ?_ ?_ ?_); (· exact wanted0 rfl); (· rfl); refine Marker.mk ?_)
  refine Marker.in ?_
  have bel := below_alloc1 w5 (.cells (msgV (z12 0)) 24)
  replace K6 := Lib.hid (K6.out.below bel)
  replace BB := Lib.hid (bt BB.out bel)
  have K7 := Lib.hid (Blk.new w5 (msgV (z12 0)) 24)
  clear bel
  generalize w5.alloc (.cells (msgV (z12 0)) 24) = w6 at *
  generalize w5.heap.size = g7 at *
  go_wp2_with ((with_reducible show wpList _ _ _ (⟨_, .store 24 _ _, _, _, _, none⟩ :: _) _ _); (with_reducible refine wpBlk_store (g := g7) (cs := (msgV y)) agg_msg ?_ ?_ K7 ?_ ?_ ?_ ?_); (· exact wanted0 rfl); (· exact ⟨rfl, rfl, rfl⟩); (· exact msgV_size _); (· exact msgV_size _); (· exact msgV_one _); refine Marker.mk ?_)
  refine Marker.in ?_
  replace K6 := Lib.hid (K6.out.setRow_other g7 (msgV y) (by omega))
  replace K7 := Lib.hid (K7.out.setRow (msgV y))
  replace BB := Lib.hid (below_setRow (g := g7) BB.out (by omega) (msgV y))
  generalize w6.setRow g7 (msgV y) = w7 at *
  go_wp2_with ((with_reducible show wpList _ _ _ (⟨_, .load 24 _, _, _, _, none⟩ :: _) _ _); (with_reducible refine wpBlk_load (g := g6) agg_msg ?_ ?_ K6 ?_ ?_); (· exact wanted0 rfl); (· exact ⟨rfl, rfl⟩); (· exact msgV_size _))
  ((with_reducible refine (PM1.out _).mono ?_))
  rintro e w8 ⟨hp8, b8⟩
  rw [HP.out] at hp8
  obtain ⟨A1, c1, base1, rfl, o1⟩ := hp8
  have O1 := Lib.hid o1
  clear o1
  replace K6 := Lib.hid (K6.out.below b8)
  replace K7 := Lib.hid (K7.out.below b8)
  replace BB := Lib.hid (bt BB.out b8)
  clear b8 PM1
  rw [← HN1.out]
  go_wp2_with ((with_reducible show wpList _ _ _ (⟨_, .load 24 _, _, _, _, none⟩ :: _) _ _); (with_reducible refine wpBlk_load (g := g7) agg_msg ?_ ?_ K7 ?_ ?_); (· exact wanted0 rfl); (· exact ⟨rfl, rfl⟩); (· exact msgV_size _))
  ((with_reducible refine (PM2.out _).mono ?_))
  rintro e w9 ⟨hp9, b9⟩
  rw [HQ.out] at hp9
  obtain ⟨A2, c2, base2, rfl, o2⟩ := hp9
  have O2 := Lib.hid o2
  replace O1 := Lib.hid (own_below O1.out b9)
  clear o2
  replace K6 := Lib.hid (K6.out.below b9)
  replace K7 := Lib.hid (K7.out.below b9)
  replace BB := Lib.hid (bt BB.out b9)
  clear b9 PM2
  rw [← HN2.out]
  have t1 : ((n1 : Int) == 0) = false := by simp; omega
  have t2 : ((n2 : Int) == 0) = false := by simp; omega
  obtain ⟨m, hm⟩ : ∃ m, m = min n1 n2 := ⟨_, rfl⟩
  have hmin : min (n1 : Int) (n2 : Int) = (m : Int) := by omega
  have m1 : m ≤ n1 := by omega
  have m2 : m ≤ n2 := by omega
  replace hm := Lib.hid hm
  replace hmin := Lib.hid hmin
  go_wp2_with ((with_reducible show wpList _ _ _ (⟨some 54, _, _, _, _, _⟩ :: _) _ _); (with_reducible refine wpList_min (.tmp 51) (.tmp 53) #[3, 3] ?_ ?_ ?_ ?_ hmin.out ?_); (· rfl); (· rfl); (· rfl); (· rfl))
  have K12 := Lib.hid (Blk.new w9 #[.int .i64 0, .int .i64 2, .int .i64 2, .int .i64 5, .int .i64 5, .int .i64 6, .int .i64 6, .int .i64 7, .int .i64 5, .int .i64 5, .int .i64 8, .int .i64 16] 32)
  have bel := below_alloc1 w9 (.cells #[.int .i64 0, .int .i64 2, .int .i64 2, .int .i64 5, .int .i64 5, .int .i64 6, .int .i64 6, .int .i64 7, .int .i64 5, .int .i64 5, .int .i64 8, .int .i64 16] 32)
  replace K6 := Lib.hid (K6.out.below bel)
  replace K7 := Lib.hid (K7.out.below bel)
  replace O1 := Lib.hid (own_below O1.out bel)
  replace O2 := Lib.hid (own_below O2.out bel)
  replace BB := Lib.hid (bt BB.out bel)
  clear bel t1 t2
  generalize w9.alloc (.cells #[.int .i64 0, .int .i64 2, .int .i64 2, .int .i64 5, .int .i64 5, .int .i64 6, .int .i64 6, .int .i64 7, .int .i64 5, .int .i64 5, .int .i64 8, .int .i64 16] 32) = w10 at *
  generalize w9.heap.size = g12 at *
  obtain ⟨q1, q2⟩ := own_cap8 O1.out
  obtain ⟨q3, q4⟩ := own_cap8 O2.out
  rw [← HN1.out] at q1
  rw [← HN2.out] at q3
  have r1 := O1.out.row
  have r2 := O2.out.row
  have c6 : ∀ y : Ext w10, (exw w10 y).cell? ⟨g6, 0, none⟩ = some (.int .i64 k) := fun y => by
    rw [(K6.out.below (exw_bel y)).cell 0, msgV_get _ _ (by omega), if_neg (by omega), HK.out]
  have cz : ∀ y : Ext w10, (exw w10 y).cell? ⟨g12, k, none⟩ = some (.int .i64 n1) := fun y => by
    rw [(K12.out.below (exw_bel y)).cell k]
    exact (sizes12_get k k1n k11n).trans (by rw [← HL1.out])
  have EM := fun W => eql_msg x y HX.out HY.out W
  obtain ⟨bb, hbb⟩ : ∃ b, b = decide (x = y) := ⟨_, rfl⟩
  rw [← hbb] at EM
  have v1 : ∀ y : Ext w10, (convert 27 9 (.slice A1 m c1)).run Try.prog (exw w10 y) = .ok (.string (strOfNums (p.take m))) (exw w10 y) := fun y => conv_row m c1 (by rw [List.length_take, ← HN1.out]; omega) (row_take8 (row_below r1 (exw_bel y)) m)
  have v2 : ∀ y : Ext w10, (convert 27 9 (.slice A2 m c2)).run Try.prog (exw w10 y) = .ok (.string (strOfNums (q.take m))) (exw w10 y) := fun y => conv_row m c2 (by rw [List.length_take, ← HN2.out]; omega) (row_take8 (row_below r2 (exw_bel y)) m)
  have hs : ((strOfNums (p.take m)).toList == (strOfNums (q.take m)).toList) = bb := by
    rw [str_beq (fun z hz => r1.2 z (List.mem_of_mem_take hz)) (fun z hz => r2.2 z (List.mem_of_mem_take hz)), hbb, decide_eq_decide, hm.out]
    exact HPL.out
  obtain ⟨s1, hs1⟩ : ∃ s, s = strOfNums (p.take m) := ⟨_, rfl⟩
  obtain ⟨s2, hs2⟩ : ∃ s, s = strOfNums (q.take m) := ⟨_, rfl⟩
  rw [← hs1] at v1 hs
  rw [← hs2] at v2 hs
  have cp : ∃ b off, A1 = some ⟨b, off, none⟩ ∧ ∀ y : Ext w10, (exw w10 y).cell? ⟨b, off, none⟩ = some (.int .u8 k) := by
    obtain ⟨h | ⟨b, off, h, hc⟩, -⟩ := r1
    · rw [HPS.out] at h; cases h
    · refine ⟨b, off, h, fun y => ?_⟩
      have h0 := hc 0 (by rw [HPS.out]; simp)
      rw [Nat.add_zero] at h0
      rw [(exw_bel y).cell (World.block_lt_of_cell? _ _ h0), h0]
      simp [HPS.out]
  obtain ⟨b0, off, rfl, cp⟩ := cp
  clear r1 r2 hs1 hs2 hbb
  refine wp_region_ext (by kernel_rfl) (by kernel_rfl) ?_
  repeat (first
        | go_big_quiet_skip
        | (go_big_quiet_want
           first
             | (refine quiet_load_blk (T := 24) (g := g6) agg_msg _ rfl rfl K6 ?_ ?_; (· exact msgV_size _); go_simp; go_big_quiet_on)
             | (refine quiet_load_blk (T := 24) (g := g7) agg_msg _ rfl rfl K7 ?_ ?_; (· exact msgV_size _); go_simp; go_big_quiet_on)
             | (go_big_quiet_op
                first
                  | go_big_quiet_on
                  | go_big_quiet_call ((fail)))))
  refine wpQuiet_nil ?_
  intro _ hw'
  obtain ⟨y9, rfl⟩ := hw'
  replace BB := Lib.hid (bt BB.out (exw_bel y9))
  generalize exw w10 y9 = w11 at *
  go_wp2_with fail
  go_ret
  exact ⟨rfl, BB.out⟩
theorem walk_MsgSizes (v0 v1 : Value) (w : World) (q0 : ∃ base, Value.okWide Try.prog w .any base 24 v0) (q1 : ∃ base, Value.okWide Try.prog w .any base 24 v1) :
    Calls Try.prog 4 #[v0, v1] w fun e w' => e = .returned (.bool true) ∧ Below w.heap.size w w' := by
  obtain ⟨base, q0⟩ := q0
  obtain ⟨base1, q1⟩ := q1
  obtain ⟨l, hl, rfl⟩ := msg_of _ _ _ q0
  obtain ⟨l2, hl2, rfl⟩ := msg_of _ _ _ q1
  exact msgSizes l l2 hl hl2 w
end Go.Proofs.Ytakahkpogooepaa
