/- The walk of MsgBack. -/
import Derived.Test.YtakahkpogooepaaMsgN
import Derived.Test.YtakahkpogooepaaMsgO
namespace Go.Proofs.Ytakahkpogooepaa
open Go.RowKit Go.WideShapes Go.ChangeShapes

theorem bytes_of_row {w : World} {v : Value} (h : IsRow .u8 w v) : IsBytes w v := by
  rcases h with rfl | ⟨x, len, cap, zs, rfl, hx, hl, hc, hz, hcell, hw⟩
  · exact ⟨none, [], 0, rfl, by simp, by simp, row_empty _ _, fun _ => rfl⟩
  · have hlen : (zs.take len).length = len := by rw [List.length_take]; omega
    refine ⟨some x, zs.take len, cap, by rw [hlen], by omega, by omega, ⟨?_, fun y hy => byte_of_wf (hw y (List.mem_of_mem_take hy))⟩, fun h => by cases h⟩
    rcases Nat.eq_zero_or_pos cap with h0 | h0
    · left
      exact List.eq_nil_of_length_eq_zero (by omega)
    · right
      obtain ⟨hb, hs⟩ := hx h0
      obtain ⟨b, off, spot⟩ := x
      simp at hs
      subst hs
      refine ⟨b, off, rfl, fun i hi => ?_⟩
      have hi' : i < len := by omega
      have := hcell i (by omega)
      rw [Addr.add_mid] at this
      rw [this]
      simp [List.getElem_take, List.getD, List.getElem?_eq_getElem (show i < zs.length by omega)]
theorem own_zero (w : World) : Own (w.alloc (.cells #[] 5)) w.heap.size (some ⟨w.heap.size, 0, none⟩) 0 [] :=
  ⟨⟨rfl, .inr ⟨w.heap.size, 0, _, rfl, Nat.le_refl _, heap_alloc_new w _, by simp, by unfold maxLen; omega, rfl, rfl⟩⟩, fun x hx => by cases hx⟩
set_option maxRecDepth 100000 in
set_option maxHeartbeats 400000 in
theorem few08 (A : Option Addr) (n c : Nat) (w : World) (h1 : n ≤ c) (h2 : c ≤ 9223372036854775807) :
    Calls Try.prog 13 #[.slice A n c] w fun e w' => e = .returned (.slice A (min n 40) c) ∧ w = w' := by
  by_cases h : n ≤ 40
  · have e : min n 40 = n := Nat.min_eq_left h
    have ei : min (n : Int) 40 = (n : Int) := by omega
    rw [e]
    clear e
    go_enter Try.func13, Try.ntmps13
    go_wp2_with fail
    go_ret
    exact ⟨rfl, rfl⟩
  · have e : min n 40 = 40 := Nat.min_eq_right (by omega)
    have ei : min (n : Int) 40 = 40 := by omega
    have hk : 40 ≤ c := by omega
    rw [e]
    clear e
    go_enter Try.func13, Try.ntmps13
    go_wp2_with fail
    go_ret
    exact ⟨rfl, rfl⟩
set_option maxRecDepth 100000 in
set_option maxHeartbeats 6400000 in
theorem msgBack (l1 l2 : List Int) (hl1 : IsMsgL l1) (hl2 : IsMsgL l2) (bs : List Int) (B : Option Addr) (n c : Nat) (hn : bs.length = n) (hnc : n ≤ c) (hc : c ≤ 9223372036854775807) (w : World) (hr : Row w B bs) :
    Calls Try.prog 5 #[.agg (msgV l1), .agg (msgV l2), .slice B n c] w fun e' w' => e' = .returned (.bool true) ∧ Below w.heap.size w w' := by
  have FT1 := Lib.hid (fun W => fit_msg l1 hl1 W)
  have FT2 := Lib.hid (fun W => fit_msg l2 hl2 W)
  obtain ⟨⟨p, hp⟩, hx⟩ := fit_ok l1 hl1
  obtain ⟨⟨q, hq⟩, hy⟩ := fit_ok l2 hl2
  generalize fitL l1 = x at *
  generalize fitL l2 = y at *
  have T1 := Lib.hid (take8_put hx.1 hp)
  have T2 := Lib.hid (take8_more hp)
  have B1 := sz_bound (x.getD 0 0)
  rw [← put8_len hp] at B1
  have hpq : decide (p = q) = decide (x = y) := by
    rw [decide_eq_decide]
    constructor
    · rintro rfl; exact put8_inj hx.1 hy.1 hp hq
    · rintro rfl; rw [hp] at hq; injection hq
  obtain ⟨n1, hn1⟩ : ∃ n, n = p.length := ⟨_, rfl⟩
  rw [← hn1] at B1
  obtain ⟨B1a, B1b⟩ := B1
  have HN1 := Lib.hid hn1
  have HPQ := Lib.hid hpq
  have HP := Lib.hid hp
  have HQ := Lib.hid hq
  have HX := Lib.hid hx
  have HY := Lib.hid hy
  have HN := Lib.hid hn
  have HR := Lib.hid hr
  have PM1 := Lib.hid (fun W => put_msg x W hx)
  have PM2 := Lib.hid (fun W => put_msg y W hy)
  have FW := Lib.hid (fun W => few08 B n c W hnc hc)
  obtain ⟨m, hm⟩ : ∃ m, m = min n 40 := ⟨_, rfl⟩
  rw [← hm] at FW
  have m1 : m ≤ n := by omega
  have hft : (bs.take m).length = m := by rw [List.length_take, hn]; omega
  have HFT := Lib.hid hft
  clear hp hq hx hy hn1 hl1 hl2 hpq hn hr hft hm
  go_enter Try.func5, Try.ntmps5
  go_wp2_with fail
  have KM := Lib.hid ((Blk.new w (msgV l1) 24).alloc (.cells (msgV l2) 24))
  have KN := Lib.hid (Blk.new' (w.alloc (.cells (msgV l1) 24)) (msgV l2) 24 (g := w.heap.size + 1) (by simp))
  have BB := Lib.hid (below_alloc2 w (.cells (msgV l1) 24) (.cells (msgV l2) 24))
  generalize (w.alloc (.cells (msgV l1) 24)).alloc (.cells (msgV l2) 24) = w0 at *
  ((with_reducible refine (shown08 _).mono ?_))
  rintro e w1 ⟨rfl, b1⟩
  replace KM := Lib.hid (KM.out.below b1)
  replace KN := Lib.hid (KN.out.below b1)
  replace BB := Lib.hid (bt BB.out b1)
  clear b1
  go_wp2_with ((with_reducible show wpList _ _ _ (⟨_, .load 24 _, _, _, _, none⟩ :: _) _ _); (with_reducible refine wpBlk_load (g := w.heap.size) agg_msg ?_ ?_ KM ?_ ?_); (· exact wanted0 rfl); (· exact ⟨rfl, rfl⟩); (· exact msgV_size _))
  ((with_reducible refine (FT1.out _).mono ?_))
  rintro e w2 ⟨rfl, b2⟩
  replace KM := Lib.hid (KM.out.below b2)
  replace KN := Lib.hid (KN.out.below b2)
  replace BB := Lib.hid (bt BB.out b2)
  clear b2 FT1
  have lm := KN.out.lt
  go_wp2_with ((with_reducible show wpList _ _ _ (⟨_, .alloc 24, _, _, _, none⟩ :: _) _ _); (with_reducible refine wpRow_alloc zeroT_msgy ?_ ?_ ?_); (· exact wanted0 rfl); (· rfl); refine Marker.mk ?_)
  refine Marker.in ?_
  have bel := below_alloc1 w2 (.cells (msgV (z12 0)) 24)
  replace KM := Lib.hid (KM.out.below bel)
  replace KN := Lib.hid (KN.out.below bel)
  replace BB := Lib.hid (bt BB.out bel)
  have K6 := Lib.hid (Blk.new w2 (msgV (z12 0)) 24)
  clear bel
  generalize w2.alloc (.cells (msgV (z12 0)) 24) = w3 at *
  generalize w2.heap.size = g6 at *
  go_wp2_with ((with_reducible show wpList _ _ _ (⟨_, .store 24 _ _, _, _, _, none⟩ :: _) _ _); (with_reducible refine wpBlk_store (g := g6) (cs := (msgV x)) agg_msg ?_ ?_ K6 ?_ ?_ ?_ ?_); (· exact wanted0 rfl); (· exact ⟨rfl, rfl, rfl⟩); (· exact msgV_size _); (· exact msgV_size _); (· exact msgV_one _); refine Marker.mk ?_)
  refine Marker.in ?_
  replace KM := Lib.hid (KM.out.setRow_other g6 (msgV x) (by omega))
  replace KN := Lib.hid (KN.out.setRow_other g6 (msgV x) (by omega))
  replace K6 := Lib.hid (K6.out.setRow (msgV x))
  replace BB := Lib.hid (below_setRow (g := g6) BB.out (by omega) (msgV x))
  generalize w3.setRow g6 (msgV x) = w4 at *
  have l6 := K6.out.lt
  go_wp2_with ((with_reducible show wpList _ _ _ (⟨_, .load 24 _, _, _, _, none⟩ :: _) _ _); (with_reducible refine wpBlk_load (g := (w.heap.size + 1)) agg_msg ?_ ?_ KN ?_ ?_); (· exact wanted0 rfl); (· exact ⟨rfl, rfl⟩); (· exact msgV_size _))
  ((with_reducible refine (FT2.out _).mono ?_))
  rintro e w5 ⟨rfl, b5⟩
  replace K6 := Lib.hid (K6.out.below b5)
  replace BB := Lib.hid (bt BB.out b5)
  clear b5 FT2
  have l5 := K6.out.lt
  go_wp2_with ((with_reducible show wpList _ _ _ (⟨_, .alloc 24, _, _, _, none⟩ :: _) _ _); (with_reducible refine wpRow_alloc zeroT_msgy ?_ ?_ ?_); (· exact wanted0 rfl); (· rfl); refine Marker.mk ?_)
  refine Marker.in ?_
  have bel := below_alloc1 w5 (.cells (msgV (z12 0)) 24)
  replace K6 := Lib.hid (K6.out.below bel)
  replace BB := Lib.hid (bt BB.out bel)
  have K7 := Lib.hid (Blk.new w5 (msgV (z12 0)) 24)
  clear bel
  generalize w5.alloc (.cells (msgV (z12 0)) 24) = w6 at *
  generalize w5.heap.size = g7 at *
  go_wp2_with ((with_reducible show wpList _ _ _ (⟨_, .store 24 _ _, _, _, _, none⟩ :: _) _ _); (with_reducible refine wpBlk_store (g := g7) (cs := (msgV y)) agg_msg ?_ ?_ K7 ?_ ?_ ?_ ?_); (· exact wanted0 rfl); (· exact ⟨rfl, rfl, rfl⟩); (· exact msgV_size _); (· exact msgV_size _); (· exact msgV_one _); refine Marker.mk ?_)
  refine Marker.in ?_
  replace K6 := Lib.hid (K6.out.setRow_other g7 (msgV y) (by omega))
  replace K7 := Lib.hid (K7.out.setRow (msgV y))
  replace BB := Lib.hid (below_setRow (g := g7) BB.out (by omega) (msgV y))
  generalize w6.setRow g7 (msgV y) = w7 at *
  go_wp2_with ((with_reducible show wpList _ _ _ (⟨_, .load 24 _, _, _, _, none⟩ :: _) _ _); (with_reducible refine wpBlk_load (g := g6) agg_msg ?_ ?_ K6 ?_ ?_); (· exact wanted0 rfl); (· exact ⟨rfl, rfl⟩); (· exact msgV_size _))
  ((with_reducible refine (PM1.out _).mono ?_))
  rintro e w8 ⟨hp8, b8⟩
  rw [HP.out] at hp8
  obtain ⟨A1, c1, base1, rfl, o1⟩ := hp8
  have O1 := Lib.hid o1
  clear o1
  replace K6 := Lib.hid (K6.out.below b8)
  replace K7 := Lib.hid (K7.out.below b8)
  replace BB := Lib.hid (bt BB.out b8)
  clear b8 PM1
  rw [← HN1.out]
  go_wp2_with ((with_reducible show wpList _ _ _ (⟨_, .load 24 _, _, _, _, none⟩ :: _) _ _); (with_reducible refine wpBlk_load (g := g7) agg_msg ?_ ?_ K7 ?_ ?_); (· exact wanted0 rfl); (· exact ⟨rfl, rfl⟩); (· exact msgV_size _))
  ((with_reducible refine (PM2.out _).mono ?_))
  rintro e w9 ⟨hp9, b9⟩
  rw [HQ.out] at hp9
  obtain ⟨A2, c2, base2, rfl, o2⟩ := hp9
  have O2 := Lib.hid o2
  replace O1 := Lib.hid (own_below O1.out b9)
  clear o2
  replace K6 := Lib.hid (K6.out.below b9)
  replace K7 := Lib.hid (K7.out.below b9)
  replace BB := Lib.hid (bt BB.out b9)
  clear b9 PM2
  generalize hn2 : q.length = n2 at *
  replace hn2 := Lib.hid hn2
  have TK1 := Lib.hid (fun W (h : Row W A1 p) => take_msg p A1 n1 c1 HN1.out.symm (by have := own_cap8 O1.out; rw [← HN1.out] at this; exact this.1) (own_cap8 O1.out).2 W h)
  have lk6 := K6.out.lt
  have lk7 := K7.out.lt
  go_wp2_with fail
  ((with_reducible refine (TK1.out _ O1.out.row).mono ?_))
  rintro e w10 ⟨ht, b10⟩
  rw [T1.out] at ht
  obtain rfl := ht
  clear TK1
  replace O1 := Lib.hid (own_below O1.out b10)
  replace O2 := Lib.hid (own_below O2.out b10)
  replace K6 := Lib.hid (K6.out.below b10)
  replace K7 := Lib.hid (K7.out.below b10)
  replace BB := Lib.hid (bt BB.out b10)
  clear b10
  have ltw10K6 := K6.out.lt
  have ltw10K7 := K7.out.lt
  have ltw10 := BB.out.size
  go_wp2_with ((with_reducible show wpList _ _ _ (⟨_, .alloc 24, _, _, _, none⟩ :: _) _ _); (with_reducible refine wpRow_alloc zeroT_msgy ?_ ?_ ?_); (· exact wanted0 rfl); (· rfl); refine Marker.mk ?_)
  refine Marker.in ?_
  have BZ := Lib.hid (below_alloc1 w10 (.cells (msgV (z12 0)) 24))
  have bel := below_alloc1 w10 (.cells (msgV (z12 0)) 24)
  replace K6 := Lib.hid (K6.out.below bel)
  replace K7 := Lib.hid (K7.out.below bel)
  replace BB := Lib.hid (bt BB.out bel)
  have K14 := Lib.hid (Blk.new w10 (msgV (z12 0)) 24)
  clear bel
  generalize w10.alloc (.cells (msgV (z12 0)) 24) = w11 at *
  generalize hg : w10.heap.size = g14 at *
  go_wp2_with ((with_reducible show wpList _ _ _ (⟨_, .store 24 _ _, _, _, _, none⟩ :: _) _ _); (with_reducible refine wpBlk_store (g := g14) (cs := (msgV x)) agg_msg ?_ ?_ K14 ?_ ?_ ?_ ?_); (· exact wanted0 rfl); (· exact ⟨rfl, rfl, rfl⟩); (· exact msgV_size _); (· exact msgV_size _); (· exact msgV_one _); refine Marker.mk ?_)
  refine Marker.in ?_
  replace BZ := Lib.hid (below_setRow (g := g14) BZ.out (Nat.le_refl _) (msgV x))
  replace K6 := Lib.hid (K6.out.setRow_other g14 (msgV x) (by omega))
  replace K7 := Lib.hid (K7.out.setRow_other g14 (msgV x) (by omega))
  replace K14 := Lib.hid (K14.out.setRow (msgV x))
  replace BB := Lib.hid (below_setRow (g := g14) BB.out (by omega) (msgV x))
  generalize w11.setRow g14 (msgV x) = w12 at *
  replace O1 := Lib.hid (own_below O1.out (by rw [hg]; exact BZ.out))
  replace O2 := Lib.hid (own_below O2.out (by rw [hg]; exact BZ.out))
  clear BZ hg
  have lK14 := K14.out.lt
  have RB := Lib.hid (row_below HR.out BB.out)
  go_wp2_with fail
  ((with_reducible refine (FW.out _).mono ?_))
  rintro e w13 ⟨rfl, rfl⟩
  have TK2 := Lib.hid (take_msg (bs.take m) B m c HFT.out (by omega) hc w12 (row_take8 RB.out m))
  go_wp2_with fail
  ((with_reducible refine (TK2.out).mono ?_))
  rintro e w13 ⟨ht, b13⟩
  clear TK2 RB
  replace O1 := Lib.hid (own_below O1.out b13)
  replace O2 := Lib.hid (own_below O2.out b13)
  replace K6 := Lib.hid (K6.out.below b13)
  replace K7 := Lib.hid (K7.out.below b13)
  replace K14 := Lib.hid (K14.out.below b13)
  replace BB := Lib.hid (bt BB.out b13)
  clear b13
  cases htk : take8 (bs.take m) with
  | none =>
    rw [htk] at ht
    obtain rfl := ht
    have PZ := Lib.hid (fun W => put_msg (z12 0) W ⟨rfl, .inl rfl⟩)
    have p0 : put8 (z12 0) = none := by decide
    have P0 := Lib.hid p0
    clear htk p0
    have ltw13K6 := K6.out.lt
    have ltw13K7 := K7.out.lt
    have ltw13K14 := K14.out.lt
    have ltw13 := BB.out.size
    go_wp2_with ((with_reducible show wpList _ _ _ (⟨_, .alloc 24, _, _, _, none⟩ :: _) _ _); (with_reducible refine wpRow_alloc zeroT_msgy ?_ ?_ ?_); (· exact wanted0 rfl); (· rfl); refine Marker.mk ?_)
    refine Marker.in ?_
    have BZ := Lib.hid (below_alloc1 w13 (.cells (msgV (z12 0)) 24))
    have bel := below_alloc1 w13 (.cells (msgV (z12 0)) 24)
    replace K6 := Lib.hid (K6.out.below bel)
    replace K7 := Lib.hid (K7.out.below bel)
    replace K14 := Lib.hid (K14.out.below bel)
    replace BB := Lib.hid (bt BB.out bel)
    have K16 := Lib.hid (Blk.new w13 (msgV (z12 0)) 24)
    clear bel
    generalize w13.alloc (.cells (msgV (z12 0)) 24) = w14 at *
    generalize hg : w13.heap.size = g16 at *
    go_wp2_with ((with_reducible show wpList _ _ _ (⟨_, .store 24 _ _, _, _, _, none⟩ :: _) _ _); (with_reducible refine wpBlk_store (g := g16) (cs := (msgV (z12 0))) agg_msg ?_ ?_ K16 ?_ ?_ ?_ ?_); (· exact wanted0 rfl); (· exact ⟨rfl, rfl, rfl⟩); (· exact msgV_size _); (· exact msgV_size _); (· exact msgV_one _); refine Marker.mk ?_)
    refine Marker.in ?_
    replace BZ := Lib.hid (below_setRow (g := g16) BZ.out (Nat.le_refl _) (msgV (z12 0)))
    replace K6 := Lib.hid (K6.out.setRow_other g16 (msgV (z12 0)) (by omega))
    replace K7 := Lib.hid (K7.out.setRow_other g16 (msgV (z12 0)) (by omega))
    replace K14 := Lib.hid (K14.out.setRow_other g16 (msgV (z12 0)) (by omega))
    replace K16 := Lib.hid (K16.out.setRow (msgV (z12 0)))
    replace BB := Lib.hid (below_setRow (g := g16) BB.out (by omega) (msgV (z12 0)))
    generalize w14.setRow g16 (msgV (z12 0)) = w15 at *
    replace O1 := Lib.hid (own_below O1.out (by rw [hg]; exact BZ.out))
    replace O2 := Lib.hid (own_below O2.out (by rw [hg]; exact BZ.out))
    clear BZ hg
    have lK16 := K16.out.lt
    go_wp2_with ((with_reducible show wpList _ _ _ (⟨_, .load 24 _, _, _, _, none⟩ :: _) _ _); (with_reducible refine wpBlk_load (g := g16) agg_msg ?_ ?_ K16 ?_ ?_); (· exact wanted0 rfl); (· exact ⟨rfl, rfl⟩); (· exact msgV_size _))
    ((with_reducible refine (PZ.out _).mono ?_))
    rintro e w16 ⟨ht, b16⟩
    rw [P0.out] at ht
    clear PZ
    obtain rfl := ht
    replace O1 := Lib.hid (own_below O1.out b16)
    replace O2 := Lib.hid (own_below O2.out b16)
    replace K6 := Lib.hid (K6.out.below b16)
    replace K7 := Lib.hid (K7.out.below b16)
    replace K14 := Lib.hid (K14.out.below b16)
    replace K16 := Lib.hid (K16.out.below b16)
    replace BB := Lib.hid (bt BB.out b16)
    clear b16
    go_wp2_with ((with_reducible show wpList _ _ _ (⟨some 56, _, _, _, _, _⟩ :: _) _ _); refine Marker.mk ?_)
    refine Marker.in ?_
    have OZ := Lib.hid (own_zero w16)
    have bA := Lib.hid (below_alloc1 w16 (.cells #[] 5))
    have R1 := Lib.hid (row_below O1.out.row bA.out)
    generalize w16.alloc (.cells #[] 5) = w17 at *
    have lz : w16.heap.size ≤ w17.heap.size := bA.out.size
    refine wpList_append_bytes _ rfl (.tmp 54) (.tmp 55) rfl w16.heap.size (some ⟨w16.heap.size, 0, none⟩) 0 0 [] rfl rfl OZ.out A1 c1 n1 p HN1.out.symm rfl R1.out (by omega) lz ?_
    intro A4 c4 w18 o4 b4
    have bB := Lib.hid (bA.out.trans b4)
    rw [List.nil_append, Nat.zero_add] at *
    have O4 := Lib.hid o4
    clear o4 b4 bA R1 OZ
    go_wp2_with ((with_reducible show wpList _ _ _ (⟨some 58, _, _, _, _, _⟩ :: _) _ _); refine Marker.mk ?_)
    refine Marker.in ?_
    have R0 := Lib.hid (own_one w18 0 (by omega) (by omega)).row
    have l18 := bB.out.size
    replace O4 := Lib.hid (own_below O4.out (below_alloc1 w18 (.cells #[.int .u8 0] 5)))
    have bC := Lib.hid (bB.out.trans ((below_alloc1 w18 (.cells #[.int .u8 0] 5)).mono l18))
    generalize w18.alloc (.cells #[.int .u8 0] 5) = w19 at *
    have l19 := bC.out.size
    refine wpList_append_bytes _ rfl (.tmp 56) (.tmp 57) rfl w16.heap.size A4 c4 n1 p HN1.out.symm rfl O4.out (some ⟨w18.heap.size, 0, none⟩) 1 1 [0] rfl rfl R0.out (by omega) l19 ?_
    intro A5 c5 w20 o5 b5
    have bD := Lib.hid (bC.out.trans b5)
    have O5 := Lib.hid o5
    clear o5 b5 bC bB R0 O4
    replace O1 := Lib.hid (own_below O1.out bD.out)
    replace O2 := Lib.hid (own_below O2.out bD.out)
    replace K6 := Lib.hid (K6.out.below bD.out)
    replace K7 := Lib.hid (K7.out.below bD.out)
    replace K14 := Lib.hid (K14.out.below bD.out)
    replace K16 := Lib.hid (K16.out.below bD.out)
    replace BB := Lib.hid (bt BB.out bD.out)
    clear bD
    have TK3 := Lib.hid (take_msg (p ++ [0]) A5 (n1 + 1) c5 (by rw [List.length_append, ← HN1.out]; rfl) (by have := own_cap8 O5.out; rw [List.length_append, ← HN1.out] at this; exact this.1) (own_cap8 O5.out).2 w20 O5.out.row)
    go_wp2_with fail
    ((with_reducible refine (TK3.out).mono ?_))
    rintro e w21 ⟨ht, b21⟩
    rw [T2.out] at ht
    obtain rfl := ht
    clear TK3 O5
    replace O1 := Lib.hid (own_below O1.out b21)
    replace O2 := Lib.hid (own_below O2.out b21)
    replace K6 := Lib.hid (K6.out.below b21)
    replace K7 := Lib.hid (K7.out.below b21)
    replace K14 := Lib.hid (K14.out.below b21)
    replace K16 := Lib.hid (K16.out.below b21)
    replace BB := Lib.hid (bt BB.out b21)
    clear b21
    have ltw21K6 := K6.out.lt
    have ltw21K7 := K7.out.lt
    have ltw21K14 := K14.out.lt
    have ltw21K16 := K16.out.lt
    have ltw21 := BB.out.size
    go_wp2_with ((with_reducible show wpList _ _ _ (⟨_, .alloc 24, _, _, _, none⟩ :: _) _ _); (with_reducible refine wpRow_alloc zeroT_msgy ?_ ?_ ?_); (· exact wanted0 rfl); (· rfl); refine Marker.mk ?_)
    refine Marker.in ?_
    have BZ := Lib.hid (below_alloc1 w21 (.cells (msgV (z12 0)) 24))
    have bel := below_alloc1 w21 (.cells (msgV (z12 0)) 24)
    replace K6 := Lib.hid (K6.out.below bel)
    replace K7 := Lib.hid (K7.out.below bel)
    replace K14 := Lib.hid (K14.out.below bel)
    replace K16 := Lib.hid (K16.out.below bel)
    replace BB := Lib.hid (bt BB.out bel)
    have K20 := Lib.hid (Blk.new w21 (msgV (z12 0)) 24)
    clear bel
    generalize w21.alloc (.cells (msgV (z12 0)) 24) = w22 at *
    generalize hg : w21.heap.size = g20 at *
    go_wp2_with ((with_reducible show wpList _ _ _ (⟨_, .store 24 _ _, _, _, _, none⟩ :: _) _ _); (with_reducible refine wpBlk_store (g := g20) (cs := (msgV (z12 0))) agg_msg ?_ ?_ K20 ?_ ?_ ?_ ?_); (· exact wanted0 rfl); (· exact ⟨rfl, rfl, rfl⟩); (· exact msgV_size _); (· exact msgV_size _); (· exact msgV_one _); refine Marker.mk ?_)
    refine Marker.in ?_
    replace BZ := Lib.hid (below_setRow (g := g20) BZ.out (Nat.le_refl _) (msgV (z12 0)))
    replace K6 := Lib.hid (K6.out.setRow_other g20 (msgV (z12 0)) (by omega))
    replace K7 := Lib.hid (K7.out.setRow_other g20 (msgV (z12 0)) (by omega))
    replace K14 := Lib.hid (K14.out.setRow_other g20 (msgV (z12 0)) (by omega))
    replace K16 := Lib.hid (K16.out.setRow_other g20 (msgV (z12 0)) (by omega))
    replace K20 := Lib.hid (K20.out.setRow (msgV (z12 0)))
    replace BB := Lib.hid (below_setRow (g := g20) BB.out (by omega) (msgV (z12 0)))
    generalize w22.setRow g20 (msgV (z12 0)) = w23 at *
    replace O1 := Lib.hid (own_below O1.out (by rw [hg]; exact BZ.out))
    replace O2 := Lib.hid (own_below O2.out (by rw [hg]; exact BZ.out))
    clear BZ hg
    have lK20 := K20.out.lt
    have EX := fun W => eql_msg x x HX.out HX.out W
    rw [decide_eq_true rfl] at EX
    have EY := fun W => eql_msg x y HX.out HY.out W
    have hs : ((strOfNums p).toList == (strOfNums q).toList) = decide (x = y) := by
      rw [str_beq O1.out.2 O2.out.2, HPQ.out]
    have v1 : ∀ y : Ext w23, (convert 27 9 (.slice A1 n1 c1)).run Try.prog (exw w23 y) = .ok (.string (strOfNums p)) (exw w23 y) := fun y => conv_row n1 c1 HN1.out.symm (row_below O1.out.row (exw_bel y))
    have v2 : ∀ y : Ext w23, (convert 27 9 (.slice A2 n2 c2)).run Try.prog (exw w23 y) = .ok (.string (strOfNums q)) (exw w23 y) := fun y => conv_row n2 c2 hn2.out (row_below O2.out.row (exw_bel y))
    generalize decide (x = y) = bb at *
    generalize strOfNums p = s1 at *
    generalize strOfNums q = s2 at *
    have t16 : decide ((n1 : Int) ≤ 16) = true := decide_eq_true (by omega)
    have EZ0 := fun W => eql_msg (z12 0) (z12 0) ⟨rfl, .inl rfl⟩ ⟨rfl, .inl rfl⟩ W
    rw [decide_eq_true rfl] at EZ0
    have EZ : ∀ W, (binOp .eql 24 (.agg (msgV (z12 0))) (.agg #[.int .i64 0, .int .i64 0, .int .i64 0, .int .i64 0, .int .i64 0, .int .i64 0, .int .i64 0, .bool false, .int .i64 0, .int .i64 0, .int .i64 0, .int .i64 0])).run Try.prog W = .ok (.bool true) W := EZ0
    clear EZ0
    have FB := Lib.hid (fun W => (FW.out W).mono fun e w' (h : e = .returned (.slice B m c) ∧ W = w') => (show e = .returned (.slice B m c) ∧ Below W.heap.size W w' from ⟨h.1, by rw [← h.2]; exact Below.refl _ _⟩))
    go_wp2_with fail
    simp only [List.append_eq, List.cons_append, List.nil_append]
    refine wp_region_ext (by kernel_rfl) (by kernel_rfl) ?_
    repeat (first
          | go_big_quiet_skip
          | (go_big_quiet_want
             first
               | (refine quiet_load_blk (T := 24) (g := g14) agg_msg _ rfl rfl K14 ?_ ?_; (· exact msgV_size _); go_simp; go_big_quiet_on)
               | (refine quiet_load_blk (T := 24) (g := g6) agg_msg _ rfl rfl K6 ?_ ?_; (· exact msgV_size _); go_simp; go_big_quiet_on)
               | (refine quiet_load_blk (T := 24) (g := g7) agg_msg _ rfl rfl K7 ?_ ?_; (· exact msgV_size _); go_simp; go_big_quiet_on)
               | (refine quiet_load_blk (T := 24) (g := g16) agg_msg _ rfl rfl K16 ?_ ?_; (· exact msgV_size _); go_simp; go_big_quiet_on)
               | (go_big_quiet_op
                  first
                    | go_big_quiet_on
                    | go_big_quiet_call (((with_reducible refine ext_of (FB.out _)))))))
    refine wpQuiet_nil ?_
    intro _ hw'
    obtain ⟨y9, rfl⟩ := hw'
    replace BB := Lib.hid (bt BB.out (exw_bel y9))
    generalize exw w23 y9 = w24 at *
    go_wp2_with fail
    go_ret
    exact ⟨rfl, BB.out⟩
  | some zz =>
    rw [htk] at ht
    obtain rfl := ht
    obtain ⟨pz, mz⟩ := put8_take (fun z hz => HR.out.2 z (List.mem_of_mem_take hz)) htk
    have PZ := Lib.hid (fun W => put_msg zz W mz)
    have P0 := Lib.hid pz
    clear htk pz mz
    have ltw13K6 := K6.out.lt
    have ltw13K7 := K7.out.lt
    have ltw13K14 := K14.out.lt
    have ltw13 := BB.out.size
    go_wp2_with ((with_reducible show wpList _ _ _ (⟨_, .alloc 24, _, _, _, none⟩ :: _) _ _); (with_reducible refine wpRow_alloc zeroT_msgy ?_ ?_ ?_); (· exact wanted0 rfl); (· rfl); refine Marker.mk ?_)
    refine Marker.in ?_
    have BZ := Lib.hid (below_alloc1 w13 (.cells (msgV (z12 0)) 24))
    have bel := below_alloc1 w13 (.cells (msgV (z12 0)) 24)
    replace K6 := Lib.hid (K6.out.below bel)
    replace K7 := Lib.hid (K7.out.below bel)
    replace K14 := Lib.hid (K14.out.below bel)
    replace BB := Lib.hid (bt BB.out bel)
    have K16 := Lib.hid (Blk.new w13 (msgV (z12 0)) 24)
    clear bel
    generalize w13.alloc (.cells (msgV (z12 0)) 24) = w14 at *
    generalize hg : w13.heap.size = g16 at *
    go_wp2_with ((with_reducible show wpList _ _ _ (⟨_, .store 24 _ _, _, _, _, none⟩ :: _) _ _); (with_reducible refine wpBlk_store (g := g16) (cs := (msgV (zz))) agg_msg ?_ ?_ K16 ?_ ?_ ?_ ?_); (· exact wanted0 rfl); (· exact ⟨rfl, rfl, rfl⟩); (· exact msgV_size _); (· exact msgV_size _); (· exact msgV_one _); refine Marker.mk ?_)
    refine Marker.in ?_
    replace BZ := Lib.hid (below_setRow (g := g16) BZ.out (Nat.le_refl _) (msgV (zz)))
    replace K6 := Lib.hid (K6.out.setRow_other g16 (msgV (zz)) (by omega))
    replace K7 := Lib.hid (K7.out.setRow_other g16 (msgV (zz)) (by omega))
    replace K14 := Lib.hid (K14.out.setRow_other g16 (msgV (zz)) (by omega))
    replace K16 := Lib.hid (K16.out.setRow (msgV (zz)))
    replace BB := Lib.hid (below_setRow (g := g16) BB.out (by omega) (msgV (zz)))
    generalize w14.setRow g16 (msgV (zz)) = w15 at *
    replace O1 := Lib.hid (own_below O1.out (by rw [hg]; exact BZ.out))
    replace O2 := Lib.hid (own_below O2.out (by rw [hg]; exact BZ.out))
    clear BZ hg
    have lK16 := K16.out.lt
    go_wp2_with ((with_reducible show wpList _ _ _ (⟨_, .load 24 _, _, _, _, none⟩ :: _) _ _); (with_reducible refine wpBlk_load (g := g16) agg_msg ?_ ?_ K16 ?_ ?_); (· exact wanted0 rfl); (· exact ⟨rfl, rfl⟩); (· exact msgV_size _))
    ((with_reducible refine (PZ.out _).mono ?_))
    rintro e w16 ⟨ht, b16⟩
    rw [P0.out] at ht
    clear PZ
    obtain ⟨A3, c3, base3, rfl, o3⟩ := ht
    have O3 := Lib.hid o3
    clear o3
    rw [HFT.out]
    replace O1 := Lib.hid (own_below O1.out b16)
    replace O2 := Lib.hid (own_below O2.out b16)
    replace K6 := Lib.hid (K6.out.below b16)
    replace K7 := Lib.hid (K7.out.below b16)
    replace K14 := Lib.hid (K14.out.below b16)
    replace K16 := Lib.hid (K16.out.below b16)
    replace BB := Lib.hid (bt BB.out b16)
    clear b16
    go_wp2_with ((with_reducible show wpList _ _ _ (⟨some 56, _, _, _, _, _⟩ :: _) _ _); refine Marker.mk ?_)
    refine Marker.in ?_
    have OZ := Lib.hid (own_zero w16)
    have bA := Lib.hid (below_alloc1 w16 (.cells #[] 5))
    have R1 := Lib.hid (row_below O1.out.row bA.out)
    generalize w16.alloc (.cells #[] 5) = w17 at *
    have lz : w16.heap.size ≤ w17.heap.size := bA.out.size
    refine wpList_append_bytes _ rfl (.tmp 54) (.tmp 55) rfl w16.heap.size (some ⟨w16.heap.size, 0, none⟩) 0 0 [] rfl rfl OZ.out A1 c1 n1 p HN1.out.symm rfl R1.out (by omega) lz ?_
    intro A4 c4 w18 o4 b4
    have bB := Lib.hid (bA.out.trans b4)
    rw [List.nil_append, Nat.zero_add] at *
    have O4 := Lib.hid o4
    clear o4 b4 bA R1 OZ
    go_wp2_with ((with_reducible show wpList _ _ _ (⟨some 58, _, _, _, _, _⟩ :: _) _ _); refine Marker.mk ?_)
    refine Marker.in ?_
    have R0 := Lib.hid (own_one w18 0 (by omega) (by omega)).row
    have l18 := bB.out.size
    replace O4 := Lib.hid (own_below O4.out (below_alloc1 w18 (.cells #[.int .u8 0] 5)))
    have bC := Lib.hid (bB.out.trans ((below_alloc1 w18 (.cells #[.int .u8 0] 5)).mono l18))
    generalize w18.alloc (.cells #[.int .u8 0] 5) = w19 at *
    have l19 := bC.out.size
    refine wpList_append_bytes _ rfl (.tmp 56) (.tmp 57) rfl w16.heap.size A4 c4 n1 p HN1.out.symm rfl O4.out (some ⟨w18.heap.size, 0, none⟩) 1 1 [0] rfl rfl R0.out (by omega) l19 ?_
    intro A5 c5 w20 o5 b5
    have bD := Lib.hid (bC.out.trans b5)
    have O5 := Lib.hid o5
    clear o5 b5 bC bB R0 O4
    replace O1 := Lib.hid (own_below O1.out bD.out)
    replace O2 := Lib.hid (own_below O2.out bD.out)
    replace O3 := Lib.hid (own_below O3.out bD.out)
    replace K6 := Lib.hid (K6.out.below bD.out)
    replace K7 := Lib.hid (K7.out.below bD.out)
    replace K14 := Lib.hid (K14.out.below bD.out)
    replace K16 := Lib.hid (K16.out.below bD.out)
    replace BB := Lib.hid (bt BB.out bD.out)
    clear bD
    have TK3 := Lib.hid (take_msg (p ++ [0]) A5 (n1 + 1) c5 (by rw [List.length_append, ← HN1.out]; rfl) (by have := own_cap8 O5.out; rw [List.length_append, ← HN1.out] at this; exact this.1) (own_cap8 O5.out).2 w20 O5.out.row)
    go_wp2_with fail
    ((with_reducible refine (TK3.out).mono ?_))
    rintro e w21 ⟨ht, b21⟩
    rw [T2.out] at ht
    obtain rfl := ht
    clear TK3 O5
    replace O1 := Lib.hid (own_below O1.out b21)
    replace O2 := Lib.hid (own_below O2.out b21)
    replace O3 := Lib.hid (own_below O3.out b21)
    replace K6 := Lib.hid (K6.out.below b21)
    replace K7 := Lib.hid (K7.out.below b21)
    replace K14 := Lib.hid (K14.out.below b21)
    replace K16 := Lib.hid (K16.out.below b21)
    replace BB := Lib.hid (bt BB.out b21)
    clear b21
    have ltw21K6 := K6.out.lt
    have ltw21K7 := K7.out.lt
    have ltw21K14 := K14.out.lt
    have ltw21K16 := K16.out.lt
    have ltw21 := BB.out.size
    go_wp2_with ((with_reducible show wpList _ _ _ (⟨_, .alloc 24, _, _, _, none⟩ :: _) _ _); (with_reducible refine wpRow_alloc zeroT_msgy ?_ ?_ ?_); (· exact wanted0 rfl); (· rfl); refine Marker.mk ?_)
    refine Marker.in ?_
    have BZ := Lib.hid (below_alloc1 w21 (.cells (msgV (z12 0)) 24))
    have bel := below_alloc1 w21 (.cells (msgV (z12 0)) 24)
    replace K6 := Lib.hid (K6.out.below bel)
    replace K7 := Lib.hid (K7.out.below bel)
    replace K14 := Lib.hid (K14.out.below bel)
    replace K16 := Lib.hid (K16.out.below bel)
    replace BB := Lib.hid (bt BB.out bel)
    have K20 := Lib.hid (Blk.new w21 (msgV (z12 0)) 24)
    clear bel
    generalize w21.alloc (.cells (msgV (z12 0)) 24) = w22 at *
    generalize hg : w21.heap.size = g20 at *
    go_wp2_with ((with_reducible show wpList _ _ _ (⟨_, .store 24 _ _, _, _, _, none⟩ :: _) _ _); (with_reducible refine wpBlk_store (g := g20) (cs := (msgV (z12 0))) agg_msg ?_ ?_ K20 ?_ ?_ ?_ ?_); (· exact wanted0 rfl); (· exact ⟨rfl, rfl, rfl⟩); (· exact msgV_size _); (· exact msgV_size _); (· exact msgV_one _); refine Marker.mk ?_)
    refine Marker.in ?_
    replace BZ := Lib.hid (below_setRow (g := g20) BZ.out (Nat.le_refl _) (msgV (z12 0)))
    replace K6 := Lib.hid (K6.out.setRow_other g20 (msgV (z12 0)) (by omega))
    replace K7 := Lib.hid (K7.out.setRow_other g20 (msgV (z12 0)) (by omega))
    replace K14 := Lib.hid (K14.out.setRow_other g20 (msgV (z12 0)) (by omega))
    replace K16 := Lib.hid (K16.out.setRow_other g20 (msgV (z12 0)) (by omega))
    replace K20 := Lib.hid (K20.out.setRow (msgV (z12 0)))
    replace BB := Lib.hid (below_setRow (g := g20) BB.out (by omega) (msgV (z12 0)))
    generalize w22.setRow g20 (msgV (z12 0)) = w23 at *
    replace O1 := Lib.hid (own_below O1.out (by rw [hg]; exact BZ.out))
    replace O2 := Lib.hid (own_below O2.out (by rw [hg]; exact BZ.out))
    replace O3 := Lib.hid (own_below O3.out (by rw [hg]; exact BZ.out))
    clear BZ hg
    have lK20 := K20.out.lt
    have EX := fun W => eql_msg x x HX.out HX.out W
    rw [decide_eq_true rfl] at EX
    have EY := fun W => eql_msg x y HX.out HY.out W
    have hs : ((strOfNums p).toList == (strOfNums q).toList) = decide (x = y) := by
      rw [str_beq O1.out.2 O2.out.2, HPQ.out]
    have v1 : ∀ y : Ext w23, (convert 27 9 (.slice A1 n1 c1)).run Try.prog (exw w23 y) = .ok (.string (strOfNums p)) (exw w23 y) := fun y => conv_row n1 c1 HN1.out.symm (row_below O1.out.row (exw_bel y))
    have v2 : ∀ y : Ext w23, (convert 27 9 (.slice A2 n2 c2)).run Try.prog (exw w23 y) = .ok (.string (strOfNums q)) (exw w23 y) := fun y => conv_row n2 c2 hn2.out (row_below O2.out.row (exw_bel y))
    generalize decide (x = y) = bb at *
    generalize strOfNums p = s1 at *
    generalize strOfNums q = s2 at *
    have t16 : decide ((n1 : Int) ≤ 16) = true := decide_eq_true (by omega)
    have v3 : ∀ y : Ext w23, (convert 27 9 (.slice A3 m c3)).run Try.prog (exw w23 y) = .ok (.string (strOfNums (bs.take m))) (exw w23 y) := fun y => conv_row m c3 HFT.out (row_below O3.out.row (exw_bel y))
    have v4 : ∀ y : Ext w23, (convert 27 9 (.slice B m c)).run Try.prog (exw w23 y) = .ok (.string (strOfNums (bs.take m))) (exw w23 y) := fun y => conv_row m c HFT.out (row_take8 (row_below (row_below HR.out BB.out) (exw_bel y)) m)
    generalize strOfNums (bs.take m) = s3 at *
    have FB := Lib.hid (fun W => (FW.out W).mono fun e w' (h : e = .returned (.slice B m c) ∧ W = w') => (show e = .returned (.slice B m c) ∧ Below W.heap.size W w' from ⟨h.1, by rw [← h.2]; exact Below.refl _ _⟩))
    go_wp2_with fail
    simp only [List.append_eq, List.cons_append, List.nil_append]
    refine wp_region_ext (by kernel_rfl) (by kernel_rfl) ?_
    repeat (first
          | go_big_quiet_skip
          | (go_big_quiet_want
             first
               | (refine quiet_load_blk (T := 24) (g := g14) agg_msg _ rfl rfl K14 ?_ ?_; (· exact msgV_size _); go_simp; go_big_quiet_on)
               | (refine quiet_load_blk (T := 24) (g := g6) agg_msg _ rfl rfl K6 ?_ ?_; (· exact msgV_size _); go_simp; go_big_quiet_on)
               | (refine quiet_load_blk (T := 24) (g := g7) agg_msg _ rfl rfl K7 ?_ ?_; (· exact msgV_size _); go_simp; go_big_quiet_on)
               | (refine quiet_load_blk (T := 24) (g := g16) agg_msg _ rfl rfl K16 ?_ ?_; (· exact msgV_size _); go_simp; go_big_quiet_on)
               | (go_big_quiet_op
                  first
                    | go_big_quiet_on
                    | go_big_quiet_call (((with_reducible refine ext_of (FB.out _)))))))
    refine wpQuiet_nil ?_
    intro _ hw'
    obtain ⟨y9, rfl⟩ := hw'
    replace BB := Lib.hid (bt BB.out (exw_bel y9))
    generalize exw w23 y9 = w24 at *
    go_wp2_with fail
    go_ret
    exact ⟨rfl, BB.out⟩
theorem walk_MsgBack (v0 v1 v2 : Value) (w : World) (q0 : ∃ base, Value.okWide Try.prog w .any base 24 v0) (q1 : ∃ base, Value.okWide Try.prog w .any base 24 v1) (q2 : IsRow .u8 w v2) :
    Calls Try.prog 5 #[v0, v1, v2] w fun e w' => e = .returned (.bool true) ∧ Below w.heap.size w w' := by
  obtain ⟨base, q0⟩ := q0
  obtain ⟨base1, q1⟩ := q1
  obtain ⟨B, xs, c, rfl, h1, h2, h3, -⟩ := bytes_of_row q2
  obtain ⟨l, hl, rfl⟩ := msg_of _ _ _ q0
  obtain ⟨l2, hl2, rfl⟩ := msg_of _ _ _ q1
  exact msgBack l l2 hl hl2 xs B _ c rfl h1 h2 w h3
end Go.Proofs.Ytakahkpogooepaa
