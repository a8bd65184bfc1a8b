/- The walk of MsgFields. -/
import Derived.Test.YtakahkpogooepaaMsgW
import Derived.Test.YtakahkpogooepaaMsgX
import Derived.Test.YtakahkpogooepaaOpen
namespace Go.Proofs.Ytakahkpogooepaa
open Go.RowKit Go.WideShapes Go.ChangeShapes

theorem flat_msg (v : Value) (w : World) (base : Nat) (h : Value.okWide Try.prog w .any base 24 v) : ∃ (n0 : Int) (n1 : Int) (n2 : Int) (n3 : Int) (n4 : Int) (n5 : Int) (n6 : Int) (n7 : Bool) (n8 : Int) (n9 : Int) (n10 : Int) (n11 : Int), v = .agg #[.int .i64 n0, .int .i64 n1, .int .i64 n2, .int .i64 n3, .int .i64 n4, .int .i64 n5, .int .i64 n6, .bool n7, .int .i64 n8, .int .i64 n9, .int .i64 n10, .int .i64 n11] ∧ (-9223372036854775808 ≤ n0 ∧ n0 ≤ 9223372036854775807) ∧ (-9223372036854775808 ≤ n1 ∧ n1 ≤ 9223372036854775807) ∧ (-9223372036854775808 ≤ n2 ∧ n2 ≤ 9223372036854775807) ∧ (-9223372036854775808 ≤ n3 ∧ n3 ≤ 9223372036854775807) ∧ (-9223372036854775808 ≤ n4 ∧ n4 ≤ 9223372036854775807) ∧ (-9223372036854775808 ≤ n5 ∧ n5 ≤ 9223372036854775807) ∧ (-9223372036854775808 ≤ n6 ∧ n6 ≤ 9223372036854775807) ∧ (-9223372036854775808 ≤ n8 ∧ n8 ≤ 9223372036854775807) ∧ (-9223372036854775808 ≤ n9 ∧ n9 ≤ 9223372036854775807) ∧ (-9223372036854775808 ≤ n10 ∧ n10 ≤ 9223372036854775807) ∧ (-9223372036854775808 ≤ n11 ∧ n11 ≤ 9223372036854775807) := by
  obtain ⟨cs, rfl, hs, hc⟩ := flat (ts := [3, 3, 3, 3, 3, 3, 3, 4, 3, 3, 3, 3]) (.inl ⟨_, Try.underlying24⟩) (by kernel_rfl) (by kernel_rfl) h
  obtain ⟨l⟩ := cs
  match l, hs with
  | [x0, x1, x2, x3, x4, x5, x6, x7, x8, x9, x10, x11], _ =>
    obtain ⟨n0, rfl, a0, b0⟩ := opn_i64 Try.underlying3 (hc 0 _ x0 rfl rfl)
    obtain ⟨n1, rfl, a1, b1⟩ := opn_i64 Try.underlying3 (hc 1 _ x1 rfl rfl)
    obtain ⟨n2, rfl, a2, b2⟩ := opn_i64 Try.underlying3 (hc 2 _ x2 rfl rfl)
    obtain ⟨n3, rfl, a3, b3⟩ := opn_i64 Try.underlying3 (hc 3 _ x3 rfl rfl)
    obtain ⟨n4, rfl, a4, b4⟩ := opn_i64 Try.underlying3 (hc 4 _ x4 rfl rfl)
    obtain ⟨n5, rfl, a5, b5⟩ := opn_i64 Try.underlying3 (hc 5 _ x5 rfl rfl)
    obtain ⟨n6, rfl, a6, b6⟩ := opn_i64 Try.underlying3 (hc 6 _ x6 rfl rfl)
    obtain ⟨n7, rfl⟩ := cell_bool Try.underlying4 (hc 7 _ x7 rfl rfl)
    obtain ⟨n8, rfl, a8, b8⟩ := opn_i64 Try.underlying3 (hc 8 _ x8 rfl rfl)
    obtain ⟨n9, rfl, a9, b9⟩ := opn_i64 Try.underlying3 (hc 9 _ x9 rfl rfl)
    obtain ⟨n10, rfl, a10, b10⟩ := opn_i64 Try.underlying3 (hc 10 _ x10 rfl rfl)
    obtain ⟨n11, rfl, a11, b11⟩ := opn_i64 Try.underlying3 (hc 11 _ x11 rfl rfl)
    exact ⟨n0, n1, n2, n3, n4, n5, n6, n7, n8, n9, n10, n11, rfl, ⟨a0, b0⟩, ⟨a1, b1⟩, ⟨a2, b2⟩, ⟨a3, b3⟩, ⟨a4, b4⟩, ⟨a5, b5⟩, ⟨a6, b6⟩, ⟨a8, b8⟩, ⟨a9, b9⟩, ⟨a10, b10⟩, ⟨a11, b11⟩⟩

theorem msg_of (v : Value) (w : World) (base : Nat) (h : Value.okWide Try.prog w .any base 24 v) : ∃ l, IsMsgL l ∧ v = .agg (msgV l) := by
  obtain ⟨n0, n1, n2, n3, n4, n5, n6, n7, n8, n9, n10, n11, rfl, -⟩ := flat_msg v w base h
  refine ⟨[n0, n1, n2, n3, n4, n5, n6, if n7 then 1 else 0, n8, n9, n10, n11], ⟨rfl, ?_⟩, ?_⟩
  · cases n7
    · exact .inl rfl
    · exact .inr rfl
  · cases n7 <;> rfl
theorem zeroT_msgz : ZeroT Try.prog 24 (msgV (z12 0)) := zeroT_msg
theorem isMsg_set {l : List Int} (h : IsMsgL l) (o : Nat) (v : Int) (ho : o ≠ 7) : IsMsgL (l.set o v) := by
  refine ⟨by rw [List.length_set]; exact h.1, ?_⟩
  have e : (l.set o v).getD 7 0 = l.getD 7 0 := by simp [List.getD_eq_getElem?_getD, List.getElem?_set_ne ho]
  rw [e]
  exact h.2
theorem blk_setMsg {w : World} {g : Nat} {l : List Int} (h : Blk w g (msgV l) 24) (hl : l.length = 12) (o : Nat) (ho : o < 12) (h7 : o ≠ 7) (v : Int) : Blk (w.setCell ⟨g, o, none⟩ (.int .i64 v)) g (msgV (l.set o v)) 24 := by
  have h1 := h.set o (.int .i64 v)
  have h2 := msgV_set l hl o ho v
  rw [if_neg h7] at h2
  rw [h2] at h1
  exact h1
theorem cell_msg {w : World} {g : Nat} {l : List Int} (h : Blk w g (msgV l) 24) (o : Nat) (ho : o < 12) (h7 : o ≠ 7) : w.cell? ⟨g, o, none⟩ = some (.int .i64 (l.getD o 0)) := by
  rw [h.cell o, msgV_get _ _ ho, if_neg h7]
set_option maxRecDepth 100000 in
set_option maxHeartbeats 1600000 in
theorem msgFields_0 (l : List Int) (hl : IsMsgL l) (wh : Int) (w : World) (y0 : 0 ≤ wh) (y1 : wh ≤ 255) (hk : wh % 7 = 0) :
    Calls Try.prog 3 #[.agg (msgV l), .int .u8 wh] w fun e' w' => e' = .returned (.bool true) ∧ Below w.heap.size w w' := by
  have FT := Lib.hid (fun W => fit_msg l hl W)
  obtain ⟨⟨bs, hbs⟩, hx⟩ := fit_ok l hl
  have hkk := put8_kind hbs
  generalize fitL l = x at *
  obtain ⟨k, hk0⟩ : ∃ k, k = x.getD 0 0 := ⟨_, rfl⟩
  rw [← hk0] at hkk
  have HK := Lib.hid hk0
  have HX := Lib.hid hx
  have N1 := Lib.hid (put8_great x hx.1 1 (by omega) (by omega) 4294967296 (by omega) (by decide))
  have PM1 := Lib.hid (fun W => put_msg (x.set 1 4294967296) W (isMsg_set hx 1 4294967296 (by omega)))
  clear hbs hkk hk0 hx hl
  go_enter Try.func3, Try.ntmps3
  go_wp2_with fail
  have KM := Lib.hid (Blk.new w (msgV l) 24)
  have BB := Lib.hid (below_alloc1 w (.cells (msgV l) 24))
  generalize w.alloc (.cells (msgV l) 24) = w0 at *
  ((with_reducible refine (shown08 _).mono ?_))
  rintro e w1 ⟨rfl, b1⟩
  replace KM := Lib.hid (KM.out.below b1)
  replace BB := Lib.hid (bt BB.out b1)
  clear b1
  go_wp2_with ((with_reducible show wpList _ _ _ (⟨_, .load 24 _, _, _, _, none⟩ :: _) _ _); (with_reducible refine wpBlk_load (g := w.heap.size) agg_msg ?_ ?_ KM ?_ ?_); (· exact wanted0 rfl); (· exact ⟨rfl, rfl⟩); (· exact msgV_size _))
  ((with_reducible refine (FT.out _).mono ?_))
  rintro e w2 ⟨rfl, b2⟩
  replace KM := Lib.hid (KM.out.below b2)
  replace BB := Lib.hid (bt BB.out b2)
  clear b2 FT
  have lm := BB.out.size
  go_wp2_with ((with_reducible show wpList _ _ _ (⟨_, .alloc 24, _, _, _, none⟩ :: _) _ _); (with_reducible refine wpRow_alloc zeroT_msgz ?_ ?_ ?_); (· exact wanted0 rfl); (· rfl); refine Marker.mk ?_)
  refine Marker.in ?_
  have bel := below_alloc1 w2 (.cells (msgV (z12 0)) 24)
  replace BB := Lib.hid (bt BB.out bel)
  have K6 := Lib.hid (Blk.new w2 (msgV (z12 0)) 24)
  clear bel
  generalize w2.alloc (.cells (msgV (z12 0)) 24) = w3 at *
  generalize w2.heap.size = g6 at *
  go_wp2_with ((with_reducible show wpList _ _ _ (⟨_, .store 24 _ _, _, _, _, none⟩ :: _) _ _); (with_reducible refine wpBlk_store (g := g6) (cs := (msgV x)) agg_msg ?_ ?_ K6 ?_ ?_ ?_ ?_); (· exact wanted0 rfl); (· exact ⟨rfl, rfl, rfl⟩); (· exact msgV_size _); (· exact msgV_size _); (· exact msgV_one _); refine Marker.mk ?_)
  refine Marker.in ?_
  replace K6 := Lib.hid (K6.out.setRow (msgV x))
  replace BB := Lib.hid (below_setRow (g := g6) BB.out (by omega) (msgV x))
  generalize w3.setRow g6 (msgV x) = w4 at *
  have l6 := K6.out.lt
  go_wp2_with (first | ((with_reducible show wpList _ _ _ (⟨_, .load 24 _, _, _, _, none⟩ :: _) _ _); (with_reducible refine wpBlk_load (g := g6) agg_msg ?_ ?_ K6 ?_ ?_); (· exact wanted0 rfl); (· exact ⟨rfl, rfl⟩); (· exact msgV_size _)) | ((with_reducible show wpList _ _ _ (⟨_, .alloc 24, _, _, _, none⟩ :: _) _ _); (with_reducible refine wpRow_alloc zeroT_msgz ?_ ?_ ?_); (· exact wanted0 rfl); (· rfl); refine Marker.mk ?_))
  refine Marker.in ?_
  have bel := below_alloc1 w4 (.cells (msgV (z12 0)) 24)
  replace K6 := Lib.hid (K6.out.below bel)
  replace BB := Lib.hid (bt BB.out bel)
  have K7 := Lib.hid (Blk.new w4 (msgV (z12 0)) 24)
  clear bel
  generalize w4.alloc (.cells (msgV (z12 0)) 24) = w5 at *
  generalize w4.heap.size = g7 at *
  go_wp2_with ((with_reducible show wpList _ _ _ (⟨_, .store 24 _ _, _, _, _, none⟩ :: _) _ _); (with_reducible refine wpBlk_store (g := g7) (cs := (msgV x)) agg_msg ?_ ?_ K7 ?_ ?_ ?_ ?_); (· exact wanted0 rfl); (· exact ⟨rfl, rfl, rfl⟩); (· exact msgV_size _); (· exact msgV_size _); (· exact msgV_one _); refine Marker.mk ?_)
  refine Marker.in ?_
  replace K6 := Lib.hid (K6.out.setRow_other g7 (msgV x) (by omega))
  replace K7 := Lib.hid (K7.out.setRow (msgV x))
  replace BB := Lib.hid (below_setRow (g := g7) BB.out (by omega) (msgV x))
  generalize w5.setRow g7 (msgV x) = w6 at *
  have l7 := K7.out.lt
  have cb := cell_msg K7.out 1 (by omega) (by omega)
  have fb := K7.out.frozen 1
  go_wp2_with ((with_reducible show wpList _ _ _ (⟨some 43, .load 24 _, _, _, _, none⟩ :: _) _ _); refine Marker.mk ?_)
  refine Marker.in ?_
  clear cb fb
  replace K6 := Lib.hid (K6.out.other g7 1 (.int .i64 4294967296) (by omega))
  replace K7 := Lib.hid (blk_setMsg K7.out HX.out.1 1 (by omega) (by omega) 4294967296)
  replace BB := Lib.hid (BB.out.setCell (p := ⟨g7, 1, none⟩) (by simp only; omega) (.int .i64 4294967296))
  generalize w6.setCell ⟨g7, 1, none⟩ (.int .i64 4294967296) = w7 at *
  go_wp2_with ((with_reducible show wpList _ _ _ (⟨_, .load 24 _, _, _, _, none⟩ :: _) _ _); (with_reducible refine wpBlk_load (g := g7) agg_msg ?_ ?_ K7 ?_ ?_); (· exact wanted0 rfl); (· exact ⟨rfl, rfl⟩); (· exact msgV_size _))
  ((with_reducible refine (PM1.out _).mono ?_))
  rintro e w8 ⟨hp, b8⟩
  rw [N1.out] at hp
  obtain rfl := hp
  replace K6 := Lib.hid (K6.out.below b8)
  replace BB := Lib.hid (bt BB.out b8)
  clear b8 PM1 K7
  have l8 := K6.out.lt
  go_wp2_with (first | ((with_reducible show wpList _ _ _ (⟨_, .load 24 _, _, _, _, none⟩ :: _) _ _); (with_reducible refine wpBlk_load (g := g6) agg_msg ?_ ?_ K6 ?_ ?_); (· exact wanted0 rfl); (· exact ⟨rfl, rfl⟩); (· exact msgV_size _)) | ((with_reducible show wpList _ _ _ (⟨_, .alloc 24, _, _, _, none⟩ :: _) _ _); (with_reducible refine wpRow_alloc zeroT_msgz ?_ ?_ ?_); (· exact wanted0 rfl); (· rfl); refine Marker.mk ?_))
  refine Marker.in ?_
  have bel := below_alloc1 w8 (.cells (msgV (z12 0)) 24)
  replace K6 := Lib.hid (K6.out.below bel)
  replace BB := Lib.hid (bt BB.out bel)
  have K10 := Lib.hid (Blk.new w8 (msgV (z12 0)) 24)
  clear bel
  generalize w8.alloc (.cells (msgV (z12 0)) 24) = w9 at *
  generalize w8.heap.size = g10 at *
  go_wp2_with ((with_reducible show wpList _ _ _ (⟨_, .store 24 _ _, _, _, _, none⟩ :: _) _ _); (with_reducible refine wpBlk_store (g := g10) (cs := (msgV x)) agg_msg ?_ ?_ K10 ?_ ?_ ?_ ?_); (· exact wanted0 rfl); (· exact ⟨rfl, rfl, rfl⟩); (· exact msgV_size _); (· exact msgV_size _); (· exact msgV_one _); refine Marker.mk ?_)
  refine Marker.in ?_
  replace K6 := Lib.hid (K6.out.setRow_other g10 (msgV x) (by omega))
  replace K10 := Lib.hid (K10.out.setRow (msgV x))
  replace BB := Lib.hid (below_setRow (g := g10) BB.out (by omega) (msgV x))
  generalize w9.setRow g10 (msgV x) = w10 at *
  have l10 := K10.out.lt
  have c0 := cell_msg K6.out 0 (by omega) (by omega)
  rw [← HK.out] at c0
  have hh : (k = 1 ∨ k = 2) ∨ ¬ (k = 1 ∨ k = 2) := Classical.em _
  rcases hh with (h1 | h1) | h1
  · have N2 := Lib.hid (put8_seq x HX.out.1 (by rw [← HK.out]; exact .inl h1))
    have PM2 := Lib.hid (fun W => put_msg (x.set 1 1) W (isMsg_set HX.out 1 1 (by omega)))
    have q1 : (k == 1) = true := by simp [h1]
    clear h1
    have cb := cell_msg K10.out 1 (by omega) (by omega)
    have fb := K10.out.frozen 1
    go_wp2_with ((with_reducible show wpList _ _ _ (⟨some 60, .load 24 _, _, _, _, none⟩ :: _) _ _); refine Marker.mk ?_)
    refine Marker.in ?_
    clear cb fb c0
    replace K10 := Lib.hid (blk_setMsg K10.out HX.out.1 1 (by omega) (by omega) 1)
    replace BB := Lib.hid (BB.out.setCell (p := ⟨g10, 1, none⟩) (by simp only; omega) (.int .i64 1))
    generalize w10.setCell ⟨g10, 1, none⟩ (.int .i64 1) = w11 at *
    go_wp2_with ((with_reducible show wpList _ _ _ (⟨_, .load 24 _, _, _, _, none⟩ :: _) _ _); (with_reducible refine wpBlk_load (g := g10) agg_msg ?_ ?_ K10 ?_ ?_); (· exact wanted0 rfl); (· exact ⟨rfl, rfl⟩); (· exact msgV_size _))
    ((with_reducible refine (PM2.out _).mono ?_))
    rintro e w12 ⟨hp, b12⟩
    rw [N2.out] at hp
    obtain rfl := hp
    replace BB := Lib.hid (bt BB.out b12)
    clear b12 PM2
    go_wp2_with fail
    go_ret
    exact ⟨rfl, BB.out⟩
  · have N2 := Lib.hid (put8_seq x HX.out.1 (by rw [← HK.out]; exact .inr h1))
    have PM2 := Lib.hid (fun W => put_msg (x.set 1 1) W (isMsg_set HX.out 1 1 (by omega)))
    have q1 : (k == 1) = false := by simp [h1]
    have q2 : (k == 2) = true := by simp [h1]
    clear h1
    have cb := cell_msg K10.out 1 (by omega) (by omega)
    have fb := K10.out.frozen 1
    go_wp2_with ((with_reducible show wpList _ _ _ (⟨some 60, .load 24 _, _, _, _, none⟩ :: _) _ _); refine Marker.mk ?_)
    refine Marker.in ?_
    clear cb fb c0
    replace K10 := Lib.hid (blk_setMsg K10.out HX.out.1 1 (by omega) (by omega) 1)
    replace BB := Lib.hid (BB.out.setCell (p := ⟨g10, 1, none⟩) (by simp only; omega) (.int .i64 1))
    generalize w10.setCell ⟨g10, 1, none⟩ (.int .i64 1) = w11 at *
    go_wp2_with ((with_reducible show wpList _ _ _ (⟨_, .load 24 _, _, _, _, none⟩ :: _) _ _); (with_reducible refine wpBlk_load (g := g10) agg_msg ?_ ?_ K10 ?_ ?_); (· exact wanted0 rfl); (· exact ⟨rfl, rfl⟩); (· exact msgV_size _))
    ((with_reducible refine (PM2.out _).mono ?_))
    rintro e w12 ⟨hp, b12⟩
    rw [N2.out] at hp
    obtain rfl := hp
    replace BB := Lib.hid (bt BB.out b12)
    clear b12 PM2
    go_wp2_with fail
    go_ret
    exact ⟨rfl, BB.out⟩
  · have N2 := Lib.hid (put8_role x HX.out.1 (by rw [← HK.out]; exact h1))
    have PM2 := Lib.hid (fun W => put_msg (x.set 2 1) W (isMsg_set HX.out 2 1 (by omega)))
    have q1 : (k == 1) = false := by simp; omega
    have q2 : (k == 2) = false := by simp; omega
    clear h1
    have cb := cell_msg K10.out 2 (by omega) (by omega)
    have fb := K10.out.frozen 2
    go_wp2_with ((with_reducible show wpList _ _ _ (⟨some 60, .load 24 _, _, _, _, none⟩ :: _) _ _); refine Marker.mk ?_)
    refine Marker.in ?_
    clear cb fb c0
    replace K10 := Lib.hid (blk_setMsg K10.out HX.out.1 2 (by omega) (by omega) 1)
    replace BB := Lib.hid (BB.out.setCell (p := ⟨g10, 2, none⟩) (by simp only; omega) (.int .i64 1))
    generalize w10.setCell ⟨g10, 2, none⟩ (.int .i64 1) = w11 at *
    go_wp2_with ((with_reducible show wpList _ _ _ (⟨_, .load 24 _, _, _, _, none⟩ :: _) _ _); (with_reducible refine wpBlk_load (g := g10) agg_msg ?_ ?_ K10 ?_ ?_); (· exact wanted0 rfl); (· exact ⟨rfl, rfl⟩); (· exact msgV_size _))
    ((with_reducible refine (PM2.out _).mono ?_))
    rintro e w12 ⟨hp, b12⟩
    rw [N2.out] at hp
    obtain rfl := hp
    replace BB := Lib.hid (bt BB.out b12)
    clear b12 PM2
    go_wp2_with fail
    go_ret
    exact ⟨rfl, BB.out⟩
set_option maxRecDepth 100000 in
set_option maxHeartbeats 1600000 in
theorem msgFields_1 (l : List Int) (hl : IsMsgL l) (wh : Int) (w : World) (y0 : 0 ≤ wh) (y1 : wh ≤ 255) (hk : wh % 7 = 1) :
    Calls Try.prog 3 #[.agg (msgV l), .int .u8 wh] w fun e' w' => e' = .returned (.bool true) ∧ Below w.heap.size w w' := by
  have FT := Lib.hid (fun W => fit_msg l hl W)
  obtain ⟨⟨bs, hbs⟩, hx⟩ := fit_ok l hl
  have hkk := put8_kind hbs
  generalize fitL l = x at *
  obtain ⟨k, hk0⟩ : ∃ k, k = x.getD 0 0 := ⟨_, rfl⟩
  rw [← hk0] at hkk
  have HK := Lib.hid hk0
  have HX := Lib.hid hx
  have N1 := Lib.hid (put8_great x hx.1 2 (by omega) (by omega) 4 (by omega) (by decide))
  have PM1 := Lib.hid (fun W => put_msg (x.set 2 4) W (isMsg_set hx 2 4 (by omega)))
  clear hbs hkk hk0 hx hl
  go_enter Try.func3, Try.ntmps3
  go_wp2_with fail
  have KM := Lib.hid (Blk.new w (msgV l) 24)
  have BB := Lib.hid (below_alloc1 w (.cells (msgV l) 24))
  generalize w.alloc (.cells (msgV l) 24) = w0 at *
  ((with_reducible refine (shown08 _).mono ?_))
  rintro e w1 ⟨rfl, b1⟩
  replace KM := Lib.hid (KM.out.below b1)
  replace BB := Lib.hid (bt BB.out b1)
  clear b1
  go_wp2_with ((with_reducible show wpList _ _ _ (⟨_, .load 24 _, _, _, _, none⟩ :: _) _ _); (with_reducible refine wpBlk_load (g := w.heap.size) agg_msg ?_ ?_ KM ?_ ?_); (· exact wanted0 rfl); (· exact ⟨rfl, rfl⟩); (· exact msgV_size _))
  ((with_reducible refine (FT.out _).mono ?_))
  rintro e w2 ⟨rfl, b2⟩
  replace KM := Lib.hid (KM.out.below b2)
  replace BB := Lib.hid (bt BB.out b2)
  clear b2 FT
  have lm := BB.out.size
  go_wp2_with ((with_reducible show wpList _ _ _ (⟨_, .alloc 24, _, _, _, none⟩ :: _) _ _); (with_reducible refine wpRow_alloc zeroT_msgz ?_ ?_ ?_); (· exact wanted0 rfl); (· rfl); refine Marker.mk ?_)
  refine Marker.in ?_
  have bel := below_alloc1 w2 (.cells (msgV (z12 0)) 24)
  replace BB := Lib.hid (bt BB.out bel)
  have K6 := Lib.hid (Blk.new w2 (msgV (z12 0)) 24)
  clear bel
  generalize w2.alloc (.cells (msgV (z12 0)) 24) = w3 at *
  generalize w2.heap.size = g6 at *
  go_wp2_with ((with_reducible show wpList _ _ _ (⟨_, .store 24 _ _, _, _, _, none⟩ :: _) _ _); (with_reducible refine wpBlk_store (g := g6) (cs := (msgV x)) agg_msg ?_ ?_ K6 ?_ ?_ ?_ ?_); (· exact wanted0 rfl); (· exact ⟨rfl, rfl, rfl⟩); (· exact msgV_size _); (· exact msgV_size _); (· exact msgV_one _); refine Marker.mk ?_)
  refine Marker.in ?_
  replace K6 := Lib.hid (K6.out.setRow (msgV x))
  replace BB := Lib.hid (below_setRow (g := g6) BB.out (by omega) (msgV x))
  generalize w3.setRow g6 (msgV x) = w4 at *
  have l6 := K6.out.lt
  go_wp2_with (first | ((with_reducible show wpList _ _ _ (⟨_, .load 24 _, _, _, _, none⟩ :: _) _ _); (with_reducible refine wpBlk_load (g := g6) agg_msg ?_ ?_ K6 ?_ ?_); (· exact wanted0 rfl); (· exact ⟨rfl, rfl⟩); (· exact msgV_size _)) | ((with_reducible show wpList _ _ _ (⟨_, .alloc 24, _, _, _, none⟩ :: _) _ _); (with_reducible refine wpRow_alloc zeroT_msgz ?_ ?_ ?_); (· exact wanted0 rfl); (· rfl); refine Marker.mk ?_))
  refine Marker.in ?_
  have bel := below_alloc1 w4 (.cells (msgV (z12 0)) 24)
  replace K6 := Lib.hid (K6.out.below bel)
  replace BB := Lib.hid (bt BB.out bel)
  have K7 := Lib.hid (Blk.new w4 (msgV (z12 0)) 24)
  clear bel
  generalize w4.alloc (.cells (msgV (z12 0)) 24) = w5 at *
  generalize w4.heap.size = g7 at *
  go_wp2_with ((with_reducible show wpList _ _ _ (⟨_, .store 24 _ _, _, _, _, none⟩ :: _) _ _); (with_reducible refine wpBlk_store (g := g7) (cs := (msgV x)) agg_msg ?_ ?_ K7 ?_ ?_ ?_ ?_); (· exact wanted0 rfl); (· exact ⟨rfl, rfl, rfl⟩); (· exact msgV_size _); (· exact msgV_size _); (· exact msgV_one _); refine Marker.mk ?_)
  refine Marker.in ?_
  replace K6 := Lib.hid (K6.out.setRow_other g7 (msgV x) (by omega))
  replace K7 := Lib.hid (K7.out.setRow (msgV x))
  replace BB := Lib.hid (below_setRow (g := g7) BB.out (by omega) (msgV x))
  generalize w5.setRow g7 (msgV x) = w6 at *
  have l7 := K7.out.lt
  have cb := cell_msg K7.out 2 (by omega) (by omega)
  have fb := K7.out.frozen 2
  go_wp2_with ((with_reducible show wpList _ _ _ (⟨some 43, .load 24 _, _, _, _, none⟩ :: _) _ _); refine Marker.mk ?_)
  refine Marker.in ?_
  clear cb fb
  replace K6 := Lib.hid (K6.out.other g7 2 (.int .i64 4) (by omega))
  replace K7 := Lib.hid (blk_setMsg K7.out HX.out.1 2 (by omega) (by omega) 4)
  replace BB := Lib.hid (BB.out.setCell (p := ⟨g7, 2, none⟩) (by simp only; omega) (.int .i64 4))
  generalize w6.setCell ⟨g7, 2, none⟩ (.int .i64 4) = w7 at *
  go_wp2_with ((with_reducible show wpList _ _ _ (⟨_, .load 24 _, _, _, _, none⟩ :: _) _ _); (with_reducible refine wpBlk_load (g := g7) agg_msg ?_ ?_ K7 ?_ ?_); (· exact wanted0 rfl); (· exact ⟨rfl, rfl⟩); (· exact msgV_size _))
  ((with_reducible refine (PM1.out _).mono ?_))
  rintro e w8 ⟨hp, b8⟩
  rw [N1.out] at hp
  obtain rfl := hp
  replace K6 := Lib.hid (K6.out.below b8)
  replace BB := Lib.hid (bt BB.out b8)
  clear b8 PM1 K7
  have l8 := K6.out.lt
  go_wp2_with (first | ((with_reducible show wpList _ _ _ (⟨_, .load 24 _, _, _, _, none⟩ :: _) _ _); (with_reducible refine wpBlk_load (g := g6) agg_msg ?_ ?_ K6 ?_ ?_); (· exact wanted0 rfl); (· exact ⟨rfl, rfl⟩); (· exact msgV_size _)) | ((with_reducible show wpList _ _ _ (⟨_, .alloc 24, _, _, _, none⟩ :: _) _ _); (with_reducible refine wpRow_alloc zeroT_msgz ?_ ?_ ?_); (· exact wanted0 rfl); (· rfl); refine Marker.mk ?_))
  refine Marker.in ?_
  have bel := below_alloc1 w8 (.cells (msgV (z12 0)) 24)
  replace K6 := Lib.hid (K6.out.below bel)
  replace BB := Lib.hid (bt BB.out bel)
  have K10 := Lib.hid (Blk.new w8 (msgV (z12 0)) 24)
  clear bel
  generalize w8.alloc (.cells (msgV (z12 0)) 24) = w9 at *
  generalize w8.heap.size = g10 at *
  go_wp2_with ((with_reducible show wpList _ _ _ (⟨_, .store 24 _ _, _, _, _, none⟩ :: _) _ _); (with_reducible refine wpBlk_store (g := g10) (cs := (msgV x)) agg_msg ?_ ?_ K10 ?_ ?_ ?_ ?_); (· exact wanted0 rfl); (· exact ⟨rfl, rfl, rfl⟩); (· exact msgV_size _); (· exact msgV_size _); (· exact msgV_one _); refine Marker.mk ?_)
  refine Marker.in ?_
  replace K6 := Lib.hid (K6.out.setRow_other g10 (msgV x) (by omega))
  replace K10 := Lib.hid (K10.out.setRow (msgV x))
  replace BB := Lib.hid (below_setRow (g := g10) BB.out (by omega) (msgV x))
  generalize w9.setRow g10 (msgV x) = w10 at *
  have l10 := K10.out.lt
  have c0 := cell_msg K6.out 0 (by omega) (by omega)
  rw [← HK.out] at c0
  have hh : (k = 1 ∨ k = 2) ∨ ¬ (k = 1 ∨ k = 2) := Classical.em _
  rcases hh with (h1 | h1) | h1
  · have N2 := Lib.hid (put8_seq x HX.out.1 (by rw [← HK.out]; exact .inl h1))
    have PM2 := Lib.hid (fun W => put_msg (x.set 1 1) W (isMsg_set HX.out 1 1 (by omega)))
    have q1 : (k == 1) = true := by simp [h1]
    clear h1
    have cb := cell_msg K10.out 1 (by omega) (by omega)
    have fb := K10.out.frozen 1
    go_wp2_with ((with_reducible show wpList _ _ _ (⟨some 60, .load 24 _, _, _, _, none⟩ :: _) _ _); refine Marker.mk ?_)
    refine Marker.in ?_
    clear cb fb c0
    replace K10 := Lib.hid (blk_setMsg K10.out HX.out.1 1 (by omega) (by omega) 1)
    replace BB := Lib.hid (BB.out.setCell (p := ⟨g10, 1, none⟩) (by simp only; omega) (.int .i64 1))
    generalize w10.setCell ⟨g10, 1, none⟩ (.int .i64 1) = w11 at *
    go_wp2_with ((with_reducible show wpList _ _ _ (⟨_, .load 24 _, _, _, _, none⟩ :: _) _ _); (with_reducible refine wpBlk_load (g := g10) agg_msg ?_ ?_ K10 ?_ ?_); (· exact wanted0 rfl); (· exact ⟨rfl, rfl⟩); (· exact msgV_size _))
    ((with_reducible refine (PM2.out _).mono ?_))
    rintro e w12 ⟨hp, b12⟩
    rw [N2.out] at hp
    obtain rfl := hp
    replace BB := Lib.hid (bt BB.out b12)
    clear b12 PM2
    go_wp2_with fail
    go_ret
    exact ⟨rfl, BB.out⟩
  · have N2 := Lib.hid (put8_seq x HX.out.1 (by rw [← HK.out]; exact .inr h1))
    have PM2 := Lib.hid (fun W => put_msg (x.set 1 1) W (isMsg_set HX.out 1 1 (by omega)))
    have q1 : (k == 1) = false := by simp [h1]
    have q2 : (k == 2) = true := by simp [h1]
    clear h1
    have cb := cell_msg K10.out 1 (by omega) (by omega)
    have fb := K10.out.frozen 1
    go_wp2_with ((with_reducible show wpList _ _ _ (⟨some 60, .load 24 _, _, _, _, none⟩ :: _) _ _); refine Marker.mk ?_)
    refine Marker.in ?_
    clear cb fb c0
    replace K10 := Lib.hid (blk_setMsg K10.out HX.out.1 1 (by omega) (by omega) 1)
    replace BB := Lib.hid (BB.out.setCell (p := ⟨g10, 1, none⟩) (by simp only; omega) (.int .i64 1))
    generalize w10.setCell ⟨g10, 1, none⟩ (.int .i64 1) = w11 at *
    go_wp2_with ((with_reducible show wpList _ _ _ (⟨_, .load 24 _, _, _, _, none⟩ :: _) _ _); (with_reducible refine wpBlk_load (g := g10) agg_msg ?_ ?_ K10 ?_ ?_); (· exact wanted0 rfl); (· exact ⟨rfl, rfl⟩); (· exact msgV_size _))
    ((with_reducible refine (PM2.out _).mono ?_))
    rintro e w12 ⟨hp, b12⟩
    rw [N2.out] at hp
    obtain rfl := hp
    replace BB := Lib.hid (bt BB.out b12)
    clear b12 PM2
    go_wp2_with fail
    go_ret
    exact ⟨rfl, BB.out⟩
  · have N2 := Lib.hid (put8_role x HX.out.1 (by rw [← HK.out]; exact h1))
    have PM2 := Lib.hid (fun W => put_msg (x.set 2 1) W (isMsg_set HX.out 2 1 (by omega)))
    have q1 : (k == 1) = false := by simp; omega
    have q2 : (k == 2) = false := by simp; omega
    clear h1
    have cb := cell_msg K10.out 2 (by omega) (by omega)
    have fb := K10.out.frozen 2
    go_wp2_with ((with_reducible show wpList _ _ _ (⟨some 60, .load 24 _, _, _, _, none⟩ :: _) _ _); refine Marker.mk ?_)
    refine Marker.in ?_
    clear cb fb c0
    replace K10 := Lib.hid (blk_setMsg K10.out HX.out.1 2 (by omega) (by omega) 1)
    replace BB := Lib.hid (BB.out.setCell (p := ⟨g10, 2, none⟩) (by simp only; omega) (.int .i64 1))
    generalize w10.setCell ⟨g10, 2, none⟩ (.int .i64 1) = w11 at *
    go_wp2_with ((with_reducible show wpList _ _ _ (⟨_, .load 24 _, _, _, _, none⟩ :: _) _ _); (with_reducible refine wpBlk_load (g := g10) agg_msg ?_ ?_ K10 ?_ ?_); (· exact wanted0 rfl); (· exact ⟨rfl, rfl⟩); (· exact msgV_size _))
    ((with_reducible refine (PM2.out _).mono ?_))
    rintro e w12 ⟨hp, b12⟩
    rw [N2.out] at hp
    obtain rfl := hp
    replace BB := Lib.hid (bt BB.out b12)
    clear b12 PM2
    go_wp2_with fail
    go_ret
    exact ⟨rfl, BB.out⟩
set_option maxRecDepth 100000 in
set_option maxHeartbeats 1600000 in
theorem msgFields_2 (l : List Int) (hl : IsMsgL l) (wh : Int) (w : World) (y0 : 0 ≤ wh) (y1 : wh ≤ 255) (hk : wh % 7 = 2) :
    Calls Try.prog 3 #[.agg (msgV l), .int .u8 wh] w fun e' w' => e' = .returned (.bool true) ∧ Below w.heap.size w w' := by
  have FT := Lib.hid (fun W => fit_msg l hl W)
  obtain ⟨⟨bs, hbs⟩, hx⟩ := fit_ok l hl
  have hkk := put8_kind hbs
  generalize fitL l = x at *
  obtain ⟨k, hk0⟩ : ∃ k, k = x.getD 0 0 := ⟨_, rfl⟩
  rw [← hk0] at hkk
  have HK := Lib.hid hk0
  have HX := Lib.hid hx
  have N1 := Lib.hid (put8_great x hx.1 3 (by omega) (by omega) 5 (by omega) (by decide))
  have PM1 := Lib.hid (fun W => put_msg (x.set 3 5) W (isMsg_set hx 3 5 (by omega)))
  clear hbs hkk hk0 hx hl
  go_enter Try.func3, Try.ntmps3
  go_wp2_with fail
  have KM := Lib.hid (Blk.new w (msgV l) 24)
  have BB := Lib.hid (below_alloc1 w (.cells (msgV l) 24))
  generalize w.alloc (.cells (msgV l) 24) = w0 at *
  ((with_reducible refine (shown08 _).mono ?_))
  rintro e w1 ⟨rfl, b1⟩
  replace KM := Lib.hid (KM.out.below b1)
  replace BB := Lib.hid (bt BB.out b1)
  clear b1
  go_wp2_with ((with_reducible show wpList _ _ _ (⟨_, .load 24 _, _, _, _, none⟩ :: _) _ _); (with_reducible refine wpBlk_load (g := w.heap.size) agg_msg ?_ ?_ KM ?_ ?_); (· exact wanted0 rfl); (· exact ⟨rfl, rfl⟩); (· exact msgV_size _))
  ((with_reducible refine (FT.out _).mono ?_))
  rintro e w2 ⟨rfl, b2⟩
  replace KM := Lib.hid (KM.out.below b2)
  replace BB := Lib.hid (bt BB.out b2)
  clear b2 FT
  have lm := BB.out.size
  go_wp2_with ((with_reducible show wpList _ _ _ (⟨_, .alloc 24, _, _, _, none⟩ :: _) _ _); (with_reducible refine wpRow_alloc zeroT_msgz ?_ ?_ ?_); (· exact wanted0 rfl); (· rfl); refine Marker.mk ?_)
  refine Marker.in ?_
  have bel := below_alloc1 w2 (.cells (msgV (z12 0)) 24)
  replace BB := Lib.hid (bt BB.out bel)
  have K6 := Lib.hid (Blk.new w2 (msgV (z12 0)) 24)
  clear bel
  generalize w2.alloc (.cells (msgV (z12 0)) 24) = w3 at *
  generalize w2.heap.size = g6 at *
  go_wp2_with ((with_reducible show wpList _ _ _ (⟨_, .store 24 _ _, _, _, _, none⟩ :: _) _ _); (with_reducible refine wpBlk_store (g := g6) (cs := (msgV x)) agg_msg ?_ ?_ K6 ?_ ?_ ?_ ?_); (· exact wanted0 rfl); (· exact ⟨rfl, rfl, rfl⟩); (· exact msgV_size _); (· exact msgV_size _); (· exact msgV_one _); refine Marker.mk ?_)
  refine Marker.in ?_
  replace K6 := Lib.hid (K6.out.setRow (msgV x))
  replace BB := Lib.hid (below_setRow (g := g6) BB.out (by omega) (msgV x))
  generalize w3.setRow g6 (msgV x) = w4 at *
  have l6 := K6.out.lt
  go_wp2_with (first | ((with_reducible show wpList _ _ _ (⟨_, .load 24 _, _, _, _, none⟩ :: _) _ _); (with_reducible refine wpBlk_load (g := g6) agg_msg ?_ ?_ K6 ?_ ?_); (· exact wanted0 rfl); (· exact ⟨rfl, rfl⟩); (· exact msgV_size _)) | ((with_reducible show wpList _ _ _ (⟨_, .alloc 24, _, _, _, none⟩ :: _) _ _); (with_reducible refine wpRow_alloc zeroT_msgz ?_ ?_ ?_); (· exact wanted0 rfl); (· rfl); refine Marker.mk ?_))
  refine Marker.in ?_
  have bel := below_alloc1 w4 (.cells (msgV (z12 0)) 24)
  replace K6 := Lib.hid (K6.out.below bel)
  replace BB := Lib.hid (bt BB.out bel)
  have K7 := Lib.hid (Blk.new w4 (msgV (z12 0)) 24)
  clear bel
  generalize w4.alloc (.cells (msgV (z12 0)) 24) = w5 at *
  generalize w4.heap.size = g7 at *
  go_wp2_with ((with_reducible show wpList _ _ _ (⟨_, .store 24 _ _, _, _, _, none⟩ :: _) _ _); (with_reducible refine wpBlk_store (g := g7) (cs := (msgV x)) agg_msg ?_ ?_ K7 ?_ ?_ ?_ ?_); (· exact wanted0 rfl); (· exact ⟨rfl, rfl, rfl⟩); (· exact msgV_size _); (· exact msgV_size _); (· exact msgV_one _); refine Marker.mk ?_)
  refine Marker.in ?_
  replace K6 := Lib.hid (K6.out.setRow_other g7 (msgV x) (by omega))
  replace K7 := Lib.hid (K7.out.setRow (msgV x))
  replace BB := Lib.hid (below_setRow (g := g7) BB.out (by omega) (msgV x))
  generalize w5.setRow g7 (msgV x) = w6 at *
  have l7 := K7.out.lt
  have cb := cell_msg K7.out 3 (by omega) (by omega)
  have fb := K7.out.frozen 3
  go_wp2_with ((with_reducible show wpList _ _ _ (⟨some 43, .load 24 _, _, _, _, none⟩ :: _) _ _); refine Marker.mk ?_)
  refine Marker.in ?_
  clear cb fb
  replace K6 := Lib.hid (K6.out.other g7 3 (.int .i64 5) (by omega))
  replace K7 := Lib.hid (blk_setMsg K7.out HX.out.1 3 (by omega) (by omega) 5)
  replace BB := Lib.hid (BB.out.setCell (p := ⟨g7, 3, none⟩) (by simp only; omega) (.int .i64 5))
  generalize w6.setCell ⟨g7, 3, none⟩ (.int .i64 5) = w7 at *
  go_wp2_with ((with_reducible show wpList _ _ _ (⟨_, .load 24 _, _, _, _, none⟩ :: _) _ _); (with_reducible refine wpBlk_load (g := g7) agg_msg ?_ ?_ K7 ?_ ?_); (· exact wanted0 rfl); (· exact ⟨rfl, rfl⟩); (· exact msgV_size _))
  ((with_reducible refine (PM1.out _).mono ?_))
  rintro e w8 ⟨hp, b8⟩
  rw [N1.out] at hp
  obtain rfl := hp
  replace K6 := Lib.hid (K6.out.below b8)
  replace BB := Lib.hid (bt BB.out b8)
  clear b8 PM1 K7
  have l8 := K6.out.lt
  go_wp2_with (first | ((with_reducible show wpList _ _ _ (⟨_, .load 24 _, _, _, _, none⟩ :: _) _ _); (with_reducible refine wpBlk_load (g := g6) agg_msg ?_ ?_ K6 ?_ ?_); (· exact wanted0 rfl); (· exact ⟨rfl, rfl⟩); (· exact msgV_size _)) | ((with_reducible show wpList _ _ _ (⟨_, .alloc 24, _, _, _, none⟩ :: _) _ _); (with_reducible refine wpRow_alloc zeroT_msgz ?_ ?_ ?_); (· exact wanted0 rfl); (· rfl); refine Marker.mk ?_))
  refine Marker.in ?_
  have bel := below_alloc1 w8 (.cells (msgV (z12 0)) 24)
  replace K6 := Lib.hid (K6.out.below bel)
  replace BB := Lib.hid (bt BB.out bel)
  have K10 := Lib.hid (Blk.new w8 (msgV (z12 0)) 24)
  clear bel
  generalize w8.alloc (.cells (msgV (z12 0)) 24) = w9 at *
  generalize w8.heap.size = g10 at *
  go_wp2_with ((with_reducible show wpList _ _ _ (⟨_, .store 24 _ _, _, _, _, none⟩ :: _) _ _); (with_reducible refine wpBlk_store (g := g10) (cs := (msgV x)) agg_msg ?_ ?_ K10 ?_ ?_ ?_ ?_); (· exact wanted0 rfl); (· exact ⟨rfl, rfl, rfl⟩); (· exact msgV_size _); (· exact msgV_size _); (· exact msgV_one _); refine Marker.mk ?_)
  refine Marker.in ?_
  replace K6 := Lib.hid (K6.out.setRow_other g10 (msgV x) (by omega))
  replace K10 := Lib.hid (K10.out.setRow (msgV x))
  replace BB := Lib.hid (below_setRow (g := g10) BB.out (by omega) (msgV x))
  generalize w9.setRow g10 (msgV x) = w10 at *
  have l10 := K10.out.lt
  have c0 := cell_msg K6.out 0 (by omega) (by omega)
  rw [← HK.out] at c0
  have hh : (k = 1 ∨ k = 2) ∨ ¬ (k = 1 ∨ k = 2) := Classical.em _
  rcases hh with (h1 | h1) | h1
  · have N2 := Lib.hid (put8_seq x HX.out.1 (by rw [← HK.out]; exact .inl h1))
    have PM2 := Lib.hid (fun W => put_msg (x.set 1 1) W (isMsg_set HX.out 1 1 (by omega)))
    have q1 : (k == 1) = true := by simp [h1]
    clear h1
    have cb := cell_msg K10.out 1 (by omega) (by omega)
    have fb := K10.out.frozen 1
    go_wp2_with ((with_reducible show wpList _ _ _ (⟨some 60, .load 24 _, _, _, _, none⟩ :: _) _ _); refine Marker.mk ?_)
    refine Marker.in ?_
    clear cb fb c0
    replace K10 := Lib.hid (blk_setMsg K10.out HX.out.1 1 (by omega) (by omega) 1)
    replace BB := Lib.hid (BB.out.setCell (p := ⟨g10, 1, none⟩) (by simp only; omega) (.int .i64 1))
    generalize w10.setCell ⟨g10, 1, none⟩ (.int .i64 1) = w11 at *
    go_wp2_with ((with_reducible show wpList _ _ _ (⟨_, .load 24 _, _, _, _, none⟩ :: _) _ _); (with_reducible refine wpBlk_load (g := g10) agg_msg ?_ ?_ K10 ?_ ?_); (· exact wanted0 rfl); (· exact ⟨rfl, rfl⟩); (· exact msgV_size _))
    ((with_reducible refine (PM2.out _).mono ?_))
    rintro e w12 ⟨hp, b12⟩
    rw [N2.out] at hp
    obtain rfl := hp
    replace BB := Lib.hid (bt BB.out b12)
    clear b12 PM2
    go_wp2_with fail
    go_ret
    exact ⟨rfl, BB.out⟩
  · have N2 := Lib.hid (put8_seq x HX.out.1 (by rw [← HK.out]; exact .inr h1))
    have PM2 := Lib.hid (fun W => put_msg (x.set 1 1) W (isMsg_set HX.out 1 1 (by omega)))
    have q1 : (k == 1) = false := by simp [h1]
    have q2 : (k == 2) = true := by simp [h1]
    clear h1
    have cb := cell_msg K10.out 1 (by omega) (by omega)
    have fb := K10.out.frozen 1
    go_wp2_with ((with_reducible show wpList _ _ _ (⟨some 60, .load 24 _, _, _, _, none⟩ :: _) _ _); refine Marker.mk ?_)
    refine Marker.in ?_
    clear cb fb c0
    replace K10 := Lib.hid (blk_setMsg K10.out HX.out.1 1 (by omega) (by omega) 1)
    replace BB := Lib.hid (BB.out.setCell (p := ⟨g10, 1, none⟩) (by simp only; omega) (.int .i64 1))
    generalize w10.setCell ⟨g10, 1, none⟩ (.int .i64 1) = w11 at *
    go_wp2_with ((with_reducible show wpList _ _ _ (⟨_, .load 24 _, _, _, _, none⟩ :: _) _ _); (with_reducible refine wpBlk_load (g := g10) agg_msg ?_ ?_ K10 ?_ ?_); (· exact wanted0 rfl); (· exact ⟨rfl, rfl⟩); (· exact msgV_size _))
    ((with_reducible refine (PM2.out _).mono ?_))
    rintro e w12 ⟨hp, b12⟩
    rw [N2.out] at hp
    obtain rfl := hp
    replace BB := Lib.hid (bt BB.out b12)
    clear b12 PM2
    go_wp2_with fail
    go_ret
    exact ⟨rfl, BB.out⟩
  · have N2 := Lib.hid (put8_role x HX.out.1 (by rw [← HK.out]; exact h1))
    have PM2 := Lib.hid (fun W => put_msg (x.set 2 1) W (isMsg_set HX.out 2 1 (by omega)))
    have q1 : (k == 1) = false := by simp; omega
    have q2 : (k == 2) = false := by simp; omega
    clear h1
    have cb := cell_msg K10.out 2 (by omega) (by omega)
    have fb := K10.out.frozen 2
    go_wp2_with ((with_reducible show wpList _ _ _ (⟨some 60, .load 24 _, _, _, _, none⟩ :: _) _ _); refine Marker.mk ?_)
    refine Marker.in ?_
    clear cb fb c0
    replace K10 := Lib.hid (blk_setMsg K10.out HX.out.1 2 (by omega) (by omega) 1)
    replace BB := Lib.hid (BB.out.setCell (p := ⟨g10, 2, none⟩) (by simp only; omega) (.int .i64 1))
    generalize w10.setCell ⟨g10, 2, none⟩ (.int .i64 1) = w11 at *
    go_wp2_with ((with_reducible show wpList _ _ _ (⟨_, .load 24 _, _, _, _, none⟩ :: _) _ _); (with_reducible refine wpBlk_load (g := g10) agg_msg ?_ ?_ K10 ?_ ?_); (· exact wanted0 rfl); (· exact ⟨rfl, rfl⟩); (· exact msgV_size _))
    ((with_reducible refine (PM2.out _).mono ?_))
    rintro e w12 ⟨hp, b12⟩
    rw [N2.out] at hp
    obtain rfl := hp
    replace BB := Lib.hid (bt BB.out b12)
    clear b12 PM2
    go_wp2_with fail
    go_ret
    exact ⟨rfl, BB.out⟩
set_option maxRecDepth 100000 in
set_option maxHeartbeats 1600000 in
theorem msgFields_3 (l : List Int) (hl : IsMsgL l) (wh : Int) (w : World) (y0 : 0 ≤ wh) (y1 : wh ≤ 255) (hk : wh % 7 = 3) :
    Calls Try.prog 3 #[.agg (msgV l), .int .u8 wh] w fun e' w' => e' = .returned (.bool true) ∧ Below w.heap.size w w' := by
  have FT := Lib.hid (fun W => fit_msg l hl W)
  obtain ⟨⟨bs, hbs⟩, hx⟩ := fit_ok l hl
  have hkk := put8_kind hbs
  generalize fitL l = x at *
  obtain ⟨k, hk0⟩ : ∃ k, k = x.getD 0 0 := ⟨_, rfl⟩
  rw [← hk0] at hkk
  have HK := Lib.hid hk0
  have HX := Lib.hid hx
  have N1 := Lib.hid (put8_great x hx.1 4 (by omega) (by omega) 65536 (by omega) (by decide))
  have PM1 := Lib.hid (fun W => put_msg (x.set 4 65536) W (isMsg_set hx 4 65536 (by omega)))
  clear hbs hkk hk0 hx hl
  go_enter Try.func3, Try.ntmps3
  go_wp2_with fail
  have KM := Lib.hid (Blk.new w (msgV l) 24)
  have BB := Lib.hid (below_alloc1 w (.cells (msgV l) 24))
  generalize w.alloc (.cells (msgV l) 24) = w0 at *
  ((with_reducible refine (shown08 _).mono ?_))
  rintro e w1 ⟨rfl, b1⟩
  replace KM := Lib.hid (KM.out.below b1)
  replace BB := Lib.hid (bt BB.out b1)
  clear b1
  go_wp2_with ((with_reducible show wpList _ _ _ (⟨_, .load 24 _, _, _, _, none⟩ :: _) _ _); (with_reducible refine wpBlk_load (g := w.heap.size) agg_msg ?_ ?_ KM ?_ ?_); (· exact wanted0 rfl); (· exact ⟨rfl, rfl⟩); (· exact msgV_size _))
  ((with_reducible refine (FT.out _).mono ?_))
  rintro e w2 ⟨rfl, b2⟩
  replace KM := Lib.hid (KM.out.below b2)
  replace BB := Lib.hid (bt BB.out b2)
  clear b2 FT
  have lm := BB.out.size
  go_wp2_with ((with_reducible show wpList _ _ _ (⟨_, .alloc 24, _, _, _, none⟩ :: _) _ _); (with_reducible refine wpRow_alloc zeroT_msgz ?_ ?_ ?_); (· exact wanted0 rfl); (· rfl); refine Marker.mk ?_)
  refine Marker.in ?_
  have bel := below_alloc1 w2 (.cells (msgV (z12 0)) 24)
  replace BB := Lib.hid (bt BB.out bel)
  have K6 := Lib.hid (Blk.new w2 (msgV (z12 0)) 24)
  clear bel
  generalize w2.alloc (.cells (msgV (z12 0)) 24) = w3 at *
  generalize w2.heap.size = g6 at *
  go_wp2_with ((with_reducible show wpList _ _ _ (⟨_, .store 24 _ _, _, _, _, none⟩ :: _) _ _); (with_reducible refine wpBlk_store (g := g6) (cs := (msgV x)) agg_msg ?_ ?_ K6 ?_ ?_ ?_ ?_); (· exact wanted0 rfl); (· exact ⟨rfl, rfl, rfl⟩); (· exact msgV_size _); (· exact msgV_size _); (· exact msgV_one _); refine Marker.mk ?_)
  refine Marker.in ?_
  replace K6 := Lib.hid (K6.out.setRow (msgV x))
  replace BB := Lib.hid (below_setRow (g := g6) BB.out (by omega) (msgV x))
  generalize w3.setRow g6 (msgV x) = w4 at *
  have l6 := K6.out.lt
  go_wp2_with (first | ((with_reducible show wpList _ _ _ (⟨_, .load 24 _, _, _, _, none⟩ :: _) _ _); (with_reducible refine wpBlk_load (g := g6) agg_msg ?_ ?_ K6 ?_ ?_); (· exact wanted0 rfl); (· exact ⟨rfl, rfl⟩); (· exact msgV_size _)) | ((with_reducible show wpList _ _ _ (⟨_, .alloc 24, _, _, _, none⟩ :: _) _ _); (with_reducible refine wpRow_alloc zeroT_msgz ?_ ?_ ?_); (· exact wanted0 rfl); (· rfl); refine Marker.mk ?_))
  refine Marker.in ?_
  have bel := below_alloc1 w4 (.cells (msgV (z12 0)) 24)
  replace K6 := Lib.hid (K6.out.below bel)
  replace BB := Lib.hid (bt BB.out bel)
  have K7 := Lib.hid (Blk.new w4 (msgV (z12 0)) 24)
  clear bel
  generalize w4.alloc (.cells (msgV (z12 0)) 24) = w5 at *
  generalize w4.heap.size = g7 at *
  go_wp2_with ((with_reducible show wpList _ _ _ (⟨_, .store 24 _ _, _, _, _, none⟩ :: _) _ _); (with_reducible refine wpBlk_store (g := g7) (cs := (msgV x)) agg_msg ?_ ?_ K7 ?_ ?_ ?_ ?_); (· exact wanted0 rfl); (· exact ⟨rfl, rfl, rfl⟩); (· exact msgV_size _); (· exact msgV_size _); (· exact msgV_one _); refine Marker.mk ?_)
  refine Marker.in ?_
  replace K6 := Lib.hid (K6.out.setRow_other g7 (msgV x) (by omega))
  replace K7 := Lib.hid (K7.out.setRow (msgV x))
  replace BB := Lib.hid (below_setRow (g := g7) BB.out (by omega) (msgV x))
  generalize w5.setRow g7 (msgV x) = w6 at *
  have l7 := K7.out.lt
  have cb := cell_msg K7.out 4 (by omega) (by omega)
  have fb := K7.out.frozen 4
  go_wp2_with ((with_reducible show wpList _ _ _ (⟨some 43, .load 24 _, _, _, _, none⟩ :: _) _ _); refine Marker.mk ?_)
  refine Marker.in ?_
  clear cb fb
  replace K6 := Lib.hid (K6.out.other g7 4 (.int .i64 65536) (by omega))
  replace K7 := Lib.hid (blk_setMsg K7.out HX.out.1 4 (by omega) (by omega) 65536)
  replace BB := Lib.hid (BB.out.setCell (p := ⟨g7, 4, none⟩) (by simp only; omega) (.int .i64 65536))
  generalize w6.setCell ⟨g7, 4, none⟩ (.int .i64 65536) = w7 at *
  go_wp2_with ((with_reducible show wpList _ _ _ (⟨_, .load 24 _, _, _, _, none⟩ :: _) _ _); (with_reducible refine wpBlk_load (g := g7) agg_msg ?_ ?_ K7 ?_ ?_); (· exact wanted0 rfl); (· exact ⟨rfl, rfl⟩); (· exact msgV_size _))
  ((with_reducible refine (PM1.out _).mono ?_))
  rintro e w8 ⟨hp, b8⟩
  rw [N1.out] at hp
  obtain rfl := hp
  replace K6 := Lib.hid (K6.out.below b8)
  replace BB := Lib.hid (bt BB.out b8)
  clear b8 PM1 K7
  have l8 := K6.out.lt
  go_wp2_with (first | ((with_reducible show wpList _ _ _ (⟨_, .load 24 _, _, _, _, none⟩ :: _) _ _); (with_reducible refine wpBlk_load (g := g6) agg_msg ?_ ?_ K6 ?_ ?_); (· exact wanted0 rfl); (· exact ⟨rfl, rfl⟩); (· exact msgV_size _)) | ((with_reducible show wpList _ _ _ (⟨_, .alloc 24, _, _, _, none⟩ :: _) _ _); (with_reducible refine wpRow_alloc zeroT_msgz ?_ ?_ ?_); (· exact wanted0 rfl); (· rfl); refine Marker.mk ?_))
  refine Marker.in ?_
  have bel := below_alloc1 w8 (.cells (msgV (z12 0)) 24)
  replace K6 := Lib.hid (K6.out.below bel)
  replace BB := Lib.hid (bt BB.out bel)
  have K10 := Lib.hid (Blk.new w8 (msgV (z12 0)) 24)
  clear bel
  generalize w8.alloc (.cells (msgV (z12 0)) 24) = w9 at *
  generalize w8.heap.size = g10 at *
  go_wp2_with ((with_reducible show wpList _ _ _ (⟨_, .store 24 _ _, _, _, _, none⟩ :: _) _ _); (with_reducible refine wpBlk_store (g := g10) (cs := (msgV x)) agg_msg ?_ ?_ K10 ?_ ?_ ?_ ?_); (· exact wanted0 rfl); (· exact ⟨rfl, rfl, rfl⟩); (· exact msgV_size _); (· exact msgV_size _); (· exact msgV_one _); refine Marker.mk ?_)
  refine Marker.in ?_
  replace K6 := Lib.hid (K6.out.setRow_other g10 (msgV x) (by omega))
  replace K10 := Lib.hid (K10.out.setRow (msgV x))
  replace BB := Lib.hid (below_setRow (g := g10) BB.out (by omega) (msgV x))
  generalize w9.setRow g10 (msgV x) = w10 at *
  have l10 := K10.out.lt
  have c0 := cell_msg K6.out 0 (by omega) (by omega)
  rw [← HK.out] at c0
  have hh : (k = 1 ∨ k = 2) ∨ ¬ (k = 1 ∨ k = 2) := Classical.em _
  rcases hh with (h1 | h1) | h1
  · have N2 := Lib.hid (put8_seq x HX.out.1 (by rw [← HK.out]; exact .inl h1))
    have PM2 := Lib.hid (fun W => put_msg (x.set 1 1) W (isMsg_set HX.out 1 1 (by omega)))
    have q1 : (k == 1) = true := by simp [h1]
    clear h1
    have cb := cell_msg K10.out 1 (by omega) (by omega)
    have fb := K10.out.frozen 1
    go_wp2_with ((with_reducible show wpList _ _ _ (⟨some 60, .load 24 _, _, _, _, none⟩ :: _) _ _); refine Marker.mk ?_)
    refine Marker.in ?_
    clear cb fb c0
    replace K10 := Lib.hid (blk_setMsg K10.out HX.out.1 1 (by omega) (by omega) 1)
    replace BB := Lib.hid (BB.out.setCell (p := ⟨g10, 1, none⟩) (by simp only; omega) (.int .i64 1))
    generalize w10.setCell ⟨g10, 1, none⟩ (.int .i64 1) = w11 at *
    go_wp2_with ((with_reducible show wpList _ _ _ (⟨_, .load 24 _, _, _, _, none⟩ :: _) _ _); (with_reducible refine wpBlk_load (g := g10) agg_msg ?_ ?_ K10 ?_ ?_); (· exact wanted0 rfl); (· exact ⟨rfl, rfl⟩); (· exact msgV_size _))
    ((with_reducible refine (PM2.out _).mono ?_))
    rintro e w12 ⟨hp, b12⟩
    rw [N2.out] at hp
    obtain rfl := hp
    replace BB := Lib.hid (bt BB.out b12)
    clear b12 PM2
    go_wp2_with fail
    go_ret
    exact ⟨rfl, BB.out⟩
  · have N2 := Lib.hid (put8_seq x HX.out.1 (by rw [← HK.out]; exact .inr h1))
    have PM2 := Lib.hid (fun W => put_msg (x.set 1 1) W (isMsg_set HX.out 1 1 (by omega)))
    have q1 : (k == 1) = false := by simp [h1]
    have q2 : (k == 2) = true := by simp [h1]
    clear h1
    have cb := cell_msg K10.out 1 (by omega) (by omega)
    have fb := K10.out.frozen 1
    go_wp2_with ((with_reducible show wpList _ _ _ (⟨some 60, .load 24 _, _, _, _, none⟩ :: _) _ _); refine Marker.mk ?_)
    refine Marker.in ?_
    clear cb fb c0
    replace K10 := Lib.hid (blk_setMsg K10.out HX.out.1 1 (by omega) (by omega) 1)
    replace BB := Lib.hid (BB.out.setCell (p := ⟨g10, 1, none⟩) (by simp only; omega) (.int .i64 1))
    generalize w10.setCell ⟨g10, 1, none⟩ (.int .i64 1) = w11 at *
    go_wp2_with ((with_reducible show wpList _ _ _ (⟨_, .load 24 _, _, _, _, none⟩ :: _) _ _); (with_reducible refine wpBlk_load (g := g10) agg_msg ?_ ?_ K10 ?_ ?_); (· exact wanted0 rfl); (· exact ⟨rfl, rfl⟩); (· exact msgV_size _))
    ((with_reducible refine (PM2.out _).mono ?_))
    rintro e w12 ⟨hp, b12⟩
    rw [N2.out] at hp
    obtain rfl := hp
    replace BB := Lib.hid (bt BB.out b12)
    clear b12 PM2
    go_wp2_with fail
    go_ret
    exact ⟨rfl, BB.out⟩
  · have N2 := Lib.hid (put8_role x HX.out.1 (by rw [← HK.out]; exact h1))
    have PM2 := Lib.hid (fun W => put_msg (x.set 2 1) W (isMsg_set HX.out 2 1 (by omega)))
    have q1 : (k == 1) = false := by simp; omega
    have q2 : (k == 2) = false := by simp; omega
    clear h1
    have cb := cell_msg K10.out 2 (by omega) (by omega)
    have fb := K10.out.frozen 2
    go_wp2_with ((with_reducible show wpList _ _ _ (⟨some 60, .load 24 _, _, _, _, none⟩ :: _) _ _); refine Marker.mk ?_)
    refine Marker.in ?_
    clear cb fb c0
    replace K10 := Lib.hid (blk_setMsg K10.out HX.out.1 2 (by omega) (by omega) 1)
    replace BB := Lib.hid (BB.out.setCell (p := ⟨g10, 2, none⟩) (by simp only; omega) (.int .i64 1))
    generalize w10.setCell ⟨g10, 2, none⟩ (.int .i64 1) = w11 at *
    go_wp2_with ((with_reducible show wpList _ _ _ (⟨_, .load 24 _, _, _, _, none⟩ :: _) _ _); (with_reducible refine wpBlk_load (g := g10) agg_msg ?_ ?_ K10 ?_ ?_); (· exact wanted0 rfl); (· exact ⟨rfl, rfl⟩); (· exact msgV_size _))
    ((with_reducible refine (PM2.out _).mono ?_))
    rintro e w12 ⟨hp, b12⟩
    rw [N2.out] at hp
    obtain rfl := hp
    replace BB := Lib.hid (bt BB.out b12)
    clear b12 PM2
    go_wp2_with fail
    go_ret
    exact ⟨rfl, BB.out⟩
set_option maxRecDepth 100000 in
set_option maxHeartbeats 1600000 in
theorem msgFields_4 (l : List Int) (hl : IsMsgL l) (wh : Int) (w : World) (y0 : 0 ≤ wh) (y1 : wh ≤ 255) (hk : wh % 7 = 4) :
    Calls Try.prog 3 #[.agg (msgV l), .int .u8 wh] w fun e' w' => e' = .returned (.bool true) ∧ Below w.heap.size w w' := by
  have FT := Lib.hid (fun W => fit_msg l hl W)
  obtain ⟨⟨bs, hbs⟩, hx⟩ := fit_ok l hl
  have hkk := put8_kind hbs
  generalize fitL l = x at *
  obtain ⟨k, hk0⟩ : ∃ k, k = x.getD 0 0 := ⟨_, rfl⟩
  rw [← hk0] at hkk
  have HK := Lib.hid hk0
  have HX := Lib.hid hx
  have N1 := Lib.hid (put8_great x hx.1 5 (by omega) (by omega) 5 (by omega) (by decide))
  have PM1 := Lib.hid (fun W => put_msg (x.set 5 5) W (isMsg_set hx 5 5 (by omega)))
  clear hbs hkk hk0 hx hl
  go_enter Try.func3, Try.ntmps3
  go_wp2_with fail
  have KM := Lib.hid (Blk.new w (msgV l) 24)
  have BB := Lib.hid (below_alloc1 w (.cells (msgV l) 24))
  generalize w.alloc (.cells (msgV l) 24) = w0 at *
  ((with_reducible refine (shown08 _).mono ?_))
  rintro e w1 ⟨rfl, b1⟩
  replace KM := Lib.hid (KM.out.below b1)
  replace BB := Lib.hid (bt BB.out b1)
  clear b1
  go_wp2_with ((with_reducible show wpList _ _ _ (⟨_, .load 24 _, _, _, _, none⟩ :: _) _ _); (with_reducible refine wpBlk_load (g := w.heap.size) agg_msg ?_ ?_ KM ?_ ?_); (· exact wanted0 rfl); (· exact ⟨rfl, rfl⟩); (· exact msgV_size _))
  ((with_reducible refine (FT.out _).mono ?_))
  rintro e w2 ⟨rfl, b2⟩
  replace KM := Lib.hid (KM.out.below b2)
  replace BB := Lib.hid (bt BB.out b2)
  clear b2 FT
  have lm := BB.out.size
  go_wp2_with ((with_reducible show wpList _ _ _ (⟨_, .alloc 24, _, _, _, none⟩ :: _) _ _); (with_reducible refine wpRow_alloc zeroT_msgz ?_ ?_ ?_); (· exact wanted0 rfl); (· rfl); refine Marker.mk ?_)
  refine Marker.in ?_
  have bel := below_alloc1 w2 (.cells (msgV (z12 0)) 24)
  replace BB := Lib.hid (bt BB.out bel)
  have K6 := Lib.hid (Blk.new w2 (msgV (z12 0)) 24)
  clear bel
  generalize w2.alloc (.cells (msgV (z12 0)) 24) = w3 at *
  generalize w2.heap.size = g6 at *
  go_wp2_with ((with_reducible show wpList _ _ _ (⟨_, .store 24 _ _, _, _, _, none⟩ :: _) _ _); (with_reducible refine wpBlk_store (g := g6) (cs := (msgV x)) agg_msg ?_ ?_ K6 ?_ ?_ ?_ ?_); (· exact wanted0 rfl); (· exact ⟨rfl, rfl, rfl⟩); (· exact msgV_size _); (· exact msgV_size _); (· exact msgV_one _); refine Marker.mk ?_)
  refine Marker.in ?_
  replace K6 := Lib.hid (K6.out.setRow (msgV x))
  replace BB := Lib.hid (below_setRow (g := g6) BB.out (by omega) (msgV x))
  generalize w3.setRow g6 (msgV x) = w4 at *
  have l6 := K6.out.lt
  go_wp2_with (first | ((with_reducible show wpList _ _ _ (⟨_, .load 24 _, _, _, _, none⟩ :: _) _ _); (with_reducible refine wpBlk_load (g := g6) agg_msg ?_ ?_ K6 ?_ ?_); (· exact wanted0 rfl); (· exact ⟨rfl, rfl⟩); (· exact msgV_size _)) | ((with_reducible show wpList _ _ _ (⟨_, .alloc 24, _, _, _, none⟩ :: _) _ _); (with_reducible refine wpRow_alloc zeroT_msgz ?_ ?_ ?_); (· exact wanted0 rfl); (· rfl); refine Marker.mk ?_))
  refine Marker.in ?_
  have bel := below_alloc1 w4 (.cells (msgV (z12 0)) 24)
  replace K6 := Lib.hid (K6.out.below bel)
  replace BB := Lib.hid (bt BB.out bel)
  have K7 := Lib.hid (Blk.new w4 (msgV (z12 0)) 24)
  clear bel
  generalize w4.alloc (.cells (msgV (z12 0)) 24) = w5 at *
  generalize w4.heap.size = g7 at *
  go_wp2_with ((with_reducible show wpList _ _ _ (⟨_, .store 24 _ _, _, _, _, none⟩ :: _) _ _); (with_reducible refine wpBlk_store (g := g7) (cs := (msgV x)) agg_msg ?_ ?_ K7 ?_ ?_ ?_ ?_); (· exact wanted0 rfl); (· exact ⟨rfl, rfl, rfl⟩); (· exact msgV_size _); (· exact msgV_size _); (· exact msgV_one _); refine Marker.mk ?_)
  refine Marker.in ?_
  replace K6 := Lib.hid (K6.out.setRow_other g7 (msgV x) (by omega))
  replace K7 := Lib.hid (K7.out.setRow (msgV x))
  replace BB := Lib.hid (below_setRow (g := g7) BB.out (by omega) (msgV x))
  generalize w5.setRow g7 (msgV x) = w6 at *
  have l7 := K7.out.lt
  have cb := cell_msg K7.out 5 (by omega) (by omega)
  have fb := K7.out.frozen 5
  go_wp2_with ((with_reducible show wpList _ _ _ (⟨some 43, .load 24 _, _, _, _, none⟩ :: _) _ _); refine Marker.mk ?_)
  refine Marker.in ?_
  clear cb fb
  replace K6 := Lib.hid (K6.out.other g7 5 (.int .i64 5) (by omega))
  replace K7 := Lib.hid (blk_setMsg K7.out HX.out.1 5 (by omega) (by omega) 5)
  replace BB := Lib.hid (BB.out.setCell (p := ⟨g7, 5, none⟩) (by simp only; omega) (.int .i64 5))
  generalize w6.setCell ⟨g7, 5, none⟩ (.int .i64 5) = w7 at *
  go_wp2_with ((with_reducible show wpList _ _ _ (⟨_, .load 24 _, _, _, _, none⟩ :: _) _ _); (with_reducible refine wpBlk_load (g := g7) agg_msg ?_ ?_ K7 ?_ ?_); (· exact wanted0 rfl); (· exact ⟨rfl, rfl⟩); (· exact msgV_size _))
  ((with_reducible refine (PM1.out _).mono ?_))
  rintro e w8 ⟨hp, b8⟩
  rw [N1.out] at hp
  obtain rfl := hp
  replace K6 := Lib.hid (K6.out.below b8)
  replace BB := Lib.hid (bt BB.out b8)
  clear b8 PM1 K7
  have l8 := K6.out.lt
  go_wp2_with (first | ((with_reducible show wpList _ _ _ (⟨_, .load 24 _, _, _, _, none⟩ :: _) _ _); (with_reducible refine wpBlk_load (g := g6) agg_msg ?_ ?_ K6 ?_ ?_); (· exact wanted0 rfl); (· exact ⟨rfl, rfl⟩); (· exact msgV_size _)) | ((with_reducible show wpList _ _ _ (⟨_, .alloc 24, _, _, _, none⟩ :: _) _ _); (with_reducible refine wpRow_alloc zeroT_msgz ?_ ?_ ?_); (· exact wanted0 rfl); (· rfl); refine Marker.mk ?_))
  refine Marker.in ?_
  have bel := below_alloc1 w8 (.cells (msgV (z12 0)) 24)
  replace K6 := Lib.hid (K6.out.below bel)
  replace BB := Lib.hid (bt BB.out bel)
  have K10 := Lib.hid (Blk.new w8 (msgV (z12 0)) 24)
  clear bel
  generalize w8.alloc (.cells (msgV (z12 0)) 24) = w9 at *
  generalize w8.heap.size = g10 at *
  go_wp2_with ((with_reducible show wpList _ _ _ (⟨_, .store 24 _ _, _, _, _, none⟩ :: _) _ _); (with_reducible refine wpBlk_store (g := g10) (cs := (msgV x)) agg_msg ?_ ?_ K10 ?_ ?_ ?_ ?_); (· exact wanted0 rfl); (· exact ⟨rfl, rfl, rfl⟩); (· exact msgV_size _); (· exact msgV_size _); (· exact msgV_one _); refine Marker.mk ?_)
  refine Marker.in ?_
  replace K6 := Lib.hid (K6.out.setRow_other g10 (msgV x) (by omega))
  replace K10 := Lib.hid (K10.out.setRow (msgV x))
  replace BB := Lib.hid (below_setRow (g := g10) BB.out (by omega) (msgV x))
  generalize w9.setRow g10 (msgV x) = w10 at *
  have l10 := K10.out.lt
  have c0 := cell_msg K6.out 0 (by omega) (by omega)
  rw [← HK.out] at c0
  have hh : (k = 1 ∨ k = 2) ∨ ¬ (k = 1 ∨ k = 2) := Classical.em _
  rcases hh with (h1 | h1) | h1
  · have N2 := Lib.hid (put8_seq x HX.out.1 (by rw [← HK.out]; exact .inl h1))
    have PM2 := Lib.hid (fun W => put_msg (x.set 1 1) W (isMsg_set HX.out 1 1 (by omega)))
    have q1 : (k == 1) = true := by simp [h1]
    clear h1
    have cb := cell_msg K10.out 1 (by omega) (by omega)
    have fb := K10.out.frozen 1
    go_wp2_with ((with_reducible show wpList _ _ _ (⟨some 60, .load 24 _, _, _, _, none⟩ :: _) _ _); refine Marker.mk ?_)
    refine Marker.in ?_
    clear cb fb c0
    replace K10 := Lib.hid (blk_setMsg K10.out HX.out.1 1 (by omega) (by omega) 1)
    replace BB := Lib.hid (BB.out.setCell (p := ⟨g10, 1, none⟩) (by simp only; omega) (.int .i64 1))
    generalize w10.setCell ⟨g10, 1, none⟩ (.int .i64 1) = w11 at *
    go_wp2_with ((with_reducible show wpList _ _ _ (⟨_, .load 24 _, _, _, _, none⟩ :: _) _ _); (with_reducible refine wpBlk_load (g := g10) agg_msg ?_ ?_ K10 ?_ ?_); (· exact wanted0 rfl); (· exact ⟨rfl, rfl⟩); (· exact msgV_size _))
    ((with_reducible refine (PM2.out _).mono ?_))
    rintro e w12 ⟨hp, b12⟩
    rw [N2.out] at hp
    obtain rfl := hp
    replace BB := Lib.hid (bt BB.out b12)
    clear b12 PM2
    go_wp2_with fail
    go_ret
    exact ⟨rfl, BB.out⟩
  · have N2 := Lib.hid (put8_seq x HX.out.1 (by rw [← HK.out]; exact .inr h1))
    have PM2 := Lib.hid (fun W => put_msg (x.set 1 1) W (isMsg_set HX.out 1 1 (by omega)))
    have q1 : (k == 1) = false := by simp [h1]
    have q2 : (k == 2) = true := by simp [h1]
    clear h1
    have cb := cell_msg K10.out 1 (by omega) (by omega)
    have fb := K10.out.frozen 1
    go_wp2_with ((with_reducible show wpList _ _ _ (⟨some 60, .load 24 _, _, _, _, none⟩ :: _) _ _); refine Marker.mk ?_)
    refine Marker.in ?_
    clear cb fb c0
    replace K10 := Lib.hid (blk_setMsg K10.out HX.out.1 1 (by omega) (by omega) 1)
    replace BB := Lib.hid (BB.out.setCell (p := ⟨g10, 1, none⟩) (by simp only; omega) (.int .i64 1))
    generalize w10.setCell ⟨g10, 1, none⟩ (.int .i64 1) = w11 at *
    go_wp2_with ((with_reducible show wpList _ _ _ (⟨_, .load 24 _, _, _, _, none⟩ :: _) _ _); (with_reducible refine wpBlk_load (g := g10) agg_msg ?_ ?_ K10 ?_ ?_); (· exact wanted0 rfl); (· exact ⟨rfl, rfl⟩); (· exact msgV_size _))
    ((with_reducible refine (PM2.out _).mono ?_))
    rintro e w12 ⟨hp, b12⟩
    rw [N2.out] at hp
    obtain rfl := hp
    replace BB := Lib.hid (bt BB.out b12)
    clear b12 PM2
    go_wp2_with fail
    go_ret
    exact ⟨rfl, BB.out⟩
  · have N2 := Lib.hid (put8_role x HX.out.1 (by rw [← HK.out]; exact h1))
    have PM2 := Lib.hid (fun W => put_msg (x.set 2 1) W (isMsg_set HX.out 2 1 (by omega)))
    have q1 : (k == 1) = false := by simp; omega
    have q2 : (k == 2) = false := by simp; omega
    clear h1
    have cb := cell_msg K10.out 2 (by omega) (by omega)
    have fb := K10.out.frozen 2
    go_wp2_with ((with_reducible show wpList _ _ _ (⟨some 60, .load 24 _, _, _, _, none⟩ :: _) _ _); refine Marker.mk ?_)
    refine Marker.in ?_
    clear cb fb c0
    replace K10 := Lib.hid (blk_setMsg K10.out HX.out.1 2 (by omega) (by omega) 1)
    replace BB := Lib.hid (BB.out.setCell (p := ⟨g10, 2, none⟩) (by simp only; omega) (.int .i64 1))
    generalize w10.setCell ⟨g10, 2, none⟩ (.int .i64 1) = w11 at *
    go_wp2_with ((with_reducible show wpList _ _ _ (⟨_, .load 24 _, _, _, _, none⟩ :: _) _ _); (with_reducible refine wpBlk_load (g := g10) agg_msg ?_ ?_ K10 ?_ ?_); (· exact wanted0 rfl); (· exact ⟨rfl, rfl⟩); (· exact msgV_size _))
    ((with_reducible refine (PM2.out _).mono ?_))
    rintro e w12 ⟨hp, b12⟩
    rw [N2.out] at hp
    obtain rfl := hp
    replace BB := Lib.hid (bt BB.out b12)
    clear b12 PM2
    go_wp2_with fail
    go_ret
    exact ⟨rfl, BB.out⟩
set_option maxRecDepth 100000 in
set_option maxHeartbeats 1600000 in
theorem msgFields_5 (l : List Int) (hl : IsMsgL l) (wh : Int) (w : World) (y0 : 0 ≤ wh) (y1 : wh ≤ 255) (hk : wh % 7 = 5) :
    Calls Try.prog 3 #[.agg (msgV l), .int .u8 wh] w fun e' w' => e' = .returned (.bool true) ∧ Below w.heap.size w w' := by
  have FT := Lib.hid (fun W => fit_msg l hl W)
  obtain ⟨⟨bs, hbs⟩, hx⟩ := fit_ok l hl
  have hkk := put8_kind hbs
  generalize fitL l = x at *
  obtain ⟨k, hk0⟩ : ∃ k, k = x.getD 0 0 := ⟨_, rfl⟩
  rw [← hk0] at hkk
  have HK := Lib.hid hk0
  have HX := Lib.hid hx
  have N1 := Lib.hid (put8_great x hx.1 6 (by omega) (by omega) 4 (by omega) (by decide))
  have PM1 := Lib.hid (fun W => put_msg (x.set 6 4) W (isMsg_set hx 6 4 (by omega)))
  clear hbs hkk hk0 hx hl
  go_enter Try.func3, Try.ntmps3
  go_wp2_with fail
  have KM := Lib.hid (Blk.new w (msgV l) 24)
  have BB := Lib.hid (below_alloc1 w (.cells (msgV l) 24))
  generalize w.alloc (.cells (msgV l) 24) = w0 at *
  ((with_reducible refine (shown08 _).mono ?_))
  rintro e w1 ⟨rfl, b1⟩
  replace KM := Lib.hid (KM.out.below b1)
  replace BB := Lib.hid (bt BB.out b1)
  clear b1
  go_wp2_with ((with_reducible show wpList _ _ _ (⟨_, .load 24 _, _, _, _, none⟩ :: _) _ _); (with_reducible refine wpBlk_load (g := w.heap.size) agg_msg ?_ ?_ KM ?_ ?_); (· exact wanted0 rfl); (· exact ⟨rfl, rfl⟩); (· exact msgV_size _))
  ((with_reducible refine (FT.out _).mono ?_))
  rintro e w2 ⟨rfl, b2⟩
  replace KM := Lib.hid (KM.out.below b2)
  replace BB := Lib.hid (bt BB.out b2)
  clear b2 FT
  have lm := BB.out.size
  go_wp2_with ((with_reducible show wpList _ _ _ (⟨_, .alloc 24, _, _, _, none⟩ :: _) _ _); (with_reducible refine wpRow_alloc zeroT_msgz ?_ ?_ ?_); (· exact wanted0 rfl); (· rfl); refine Marker.mk ?_)
  refine Marker.in ?_
  have bel := below_alloc1 w2 (.cells (msgV (z12 0)) 24)
  replace BB := Lib.hid (bt BB.out bel)
  have K6 := Lib.hid (Blk.new w2 (msgV (z12 0)) 24)
  clear bel
  generalize w2.alloc (.cells (msgV (z12 0)) 24) = w3 at *
  generalize w2.heap.size = g6 at *
  go_wp2_with ((with_reducible show wpList _ _ _ (⟨_, .store 24 _ _, _, _, _, none⟩ :: _) _ _); (with_reducible refine wpBlk_store (g := g6) (cs := (msgV x)) agg_msg ?_ ?_ K6 ?_ ?_ ?_ ?_); (· exact wanted0 rfl); (· exact ⟨rfl, rfl, rfl⟩); (· exact msgV_size _); (· exact msgV_size _); (· exact msgV_one _); refine Marker.mk ?_)
  refine Marker.in ?_
  replace K6 := Lib.hid (K6.out.setRow (msgV x))
  replace BB := Lib.hid (below_setRow (g := g6) BB.out (by omega) (msgV x))
  generalize w3.setRow g6 (msgV x) = w4 at *
  have l6 := K6.out.lt
  go_wp2_with (first | ((with_reducible show wpList _ _ _ (⟨_, .load 24 _, _, _, _, none⟩ :: _) _ _); (with_reducible refine wpBlk_load (g := g6) agg_msg ?_ ?_ K6 ?_ ?_); (· exact wanted0 rfl); (· exact ⟨rfl, rfl⟩); (· exact msgV_size _)) | ((with_reducible show wpList _ _ _ (⟨_, .alloc 24, _, _, _, none⟩ :: _) _ _); (with_reducible refine wpRow_alloc zeroT_msgz ?_ ?_ ?_); (· exact wanted0 rfl); (· rfl); refine Marker.mk ?_))
  refine Marker.in ?_
  have bel := below_alloc1 w4 (.cells (msgV (z12 0)) 24)
  replace K6 := Lib.hid (K6.out.below bel)
  replace BB := Lib.hid (bt BB.out bel)
  have K7 := Lib.hid (Blk.new w4 (msgV (z12 0)) 24)
  clear bel
  generalize w4.alloc (.cells (msgV (z12 0)) 24) = w5 at *
  generalize w4.heap.size = g7 at *
  go_wp2_with ((with_reducible show wpList _ _ _ (⟨_, .store 24 _ _, _, _, _, none⟩ :: _) _ _); (with_reducible refine wpBlk_store (g := g7) (cs := (msgV x)) agg_msg ?_ ?_ K7 ?_ ?_ ?_ ?_); (· exact wanted0 rfl); (· exact ⟨rfl, rfl, rfl⟩); (· exact msgV_size _); (· exact msgV_size _); (· exact msgV_one _); refine Marker.mk ?_)
  refine Marker.in ?_
  replace K6 := Lib.hid (K6.out.setRow_other g7 (msgV x) (by omega))
  replace K7 := Lib.hid (K7.out.setRow (msgV x))
  replace BB := Lib.hid (below_setRow (g := g7) BB.out (by omega) (msgV x))
  generalize w5.setRow g7 (msgV x) = w6 at *
  have l7 := K7.out.lt
  have cb := cell_msg K7.out 6 (by omega) (by omega)
  have fb := K7.out.frozen 6
  go_wp2_with ((with_reducible show wpList _ _ _ (⟨some 43, .load 24 _, _, _, _, none⟩ :: _) _ _); refine Marker.mk ?_)
  refine Marker.in ?_
  clear cb fb
  replace K6 := Lib.hid (K6.out.other g7 6 (.int .i64 4) (by omega))
  replace K7 := Lib.hid (blk_setMsg K7.out HX.out.1 6 (by omega) (by omega) 4)
  replace BB := Lib.hid (BB.out.setCell (p := ⟨g7, 6, none⟩) (by simp only; omega) (.int .i64 4))
  generalize w6.setCell ⟨g7, 6, none⟩ (.int .i64 4) = w7 at *
  go_wp2_with ((with_reducible show wpList _ _ _ (⟨_, .load 24 _, _, _, _, none⟩ :: _) _ _); (with_reducible refine wpBlk_load (g := g7) agg_msg ?_ ?_ K7 ?_ ?_); (· exact wanted0 rfl); (· exact ⟨rfl, rfl⟩); (· exact msgV_size _))
  ((with_reducible refine (PM1.out _).mono ?_))
  rintro e w8 ⟨hp, b8⟩
  rw [N1.out] at hp
  obtain rfl := hp
  replace K6 := Lib.hid (K6.out.below b8)
  replace BB := Lib.hid (bt BB.out b8)
  clear b8 PM1 K7
  have l8 := K6.out.lt
  go_wp2_with (first | ((with_reducible show wpList _ _ _ (⟨_, .load 24 _, _, _, _, none⟩ :: _) _ _); (with_reducible refine wpBlk_load (g := g6) agg_msg ?_ ?_ K6 ?_ ?_); (· exact wanted0 rfl); (· exact ⟨rfl, rfl⟩); (· exact msgV_size _)) | ((with_reducible show wpList _ _ _ (⟨_, .alloc 24, _, _, _, none⟩ :: _) _ _); (with_reducible refine wpRow_alloc zeroT_msgz ?_ ?_ ?_); (· exact wanted0 rfl); (· rfl); refine Marker.mk ?_))
  refine Marker.in ?_
  have bel := below_alloc1 w8 (.cells (msgV (z12 0)) 24)
  replace K6 := Lib.hid (K6.out.below bel)
  replace BB := Lib.hid (bt BB.out bel)
  have K10 := Lib.hid (Blk.new w8 (msgV (z12 0)) 24)
  clear bel
  generalize w8.alloc (.cells (msgV (z12 0)) 24) = w9 at *
  generalize w8.heap.size = g10 at *
  go_wp2_with ((with_reducible show wpList _ _ _ (⟨_, .store 24 _ _, _, _, _, none⟩ :: _) _ _); (with_reducible refine wpBlk_store (g := g10) (cs := (msgV x)) agg_msg ?_ ?_ K10 ?_ ?_ ?_ ?_); (· exact wanted0 rfl); (· exact ⟨rfl, rfl, rfl⟩); (· exact msgV_size _); (· exact msgV_size _); (· exact msgV_one _); refine Marker.mk ?_)
  refine Marker.in ?_
  replace K6 := Lib.hid (K6.out.setRow_other g10 (msgV x) (by omega))
  replace K10 := Lib.hid (K10.out.setRow (msgV x))
  replace BB := Lib.hid (below_setRow (g := g10) BB.out (by omega) (msgV x))
  generalize w9.setRow g10 (msgV x) = w10 at *
  have l10 := K10.out.lt
  have c0 := cell_msg K6.out 0 (by omega) (by omega)
  rw [← HK.out] at c0
  have hh : (k = 1 ∨ k = 2) ∨ ¬ (k = 1 ∨ k = 2) := Classical.em _
  rcases hh with (h1 | h1) | h1
  · have N2 := Lib.hid (put8_seq x HX.out.1 (by rw [← HK.out]; exact .inl h1))
    have PM2 := Lib.hid (fun W => put_msg (x.set 1 1) W (isMsg_set HX.out 1 1 (by omega)))
    have q1 : (k == 1) = true := by simp [h1]
    clear h1
    have cb := cell_msg K10.out 1 (by omega) (by omega)
    have fb := K10.out.frozen 1
    go_wp2_with ((with_reducible show wpList _ _ _ (⟨some 60, .load 24 _, _, _, _, none⟩ :: _) _ _); refine Marker.mk ?_)
    refine Marker.in ?_
    clear cb fb c0
    replace K10 := Lib.hid (blk_setMsg K10.out HX.out.1 1 (by omega) (by omega) 1)
    replace BB := Lib.hid (BB.out.setCell (p := ⟨g10, 1, none⟩) (by simp only; omega) (.int .i64 1))
    generalize w10.setCell ⟨g10, 1, none⟩ (.int .i64 1) = w11 at *
    go_wp2_with ((with_reducible show wpList _ _ _ (⟨_, .load 24 _, _, _, _, none⟩ :: _) _ _); (with_reducible refine wpBlk_load (g := g10) agg_msg ?_ ?_ K10 ?_ ?_); (· exact wanted0 rfl); (· exact ⟨rfl, rfl⟩); (· exact msgV_size _))
    ((with_reducible refine (PM2.out _).mono ?_))
    rintro e w12 ⟨hp, b12⟩
    rw [N2.out] at hp
    obtain rfl := hp
    replace BB := Lib.hid (bt BB.out b12)
    clear b12 PM2
    go_wp2_with fail
    go_ret
    exact ⟨rfl, BB.out⟩
  · have N2 := Lib.hid (put8_seq x HX.out.1 (by rw [← HK.out]; exact .inr h1))
    have PM2 := Lib.hid (fun W => put_msg (x.set 1 1) W (isMsg_set HX.out 1 1 (by omega)))
    have q1 : (k == 1) = false := by simp [h1]
    have q2 : (k == 2) = true := by simp [h1]
    clear h1
    have cb := cell_msg K10.out 1 (by omega) (by omega)
    have fb := K10.out.frozen 1
    go_wp2_with ((with_reducible show wpList _ _ _ (⟨some 60, .load 24 _, _, _, _, none⟩ :: _) _ _); refine Marker.mk ?_)
    refine Marker.in ?_
    clear cb fb c0
    replace K10 := Lib.hid (blk_setMsg K10.out HX.out.1 1 (by omega) (by omega) 1)
    replace BB := Lib.hid (BB.out.setCell (p := ⟨g10, 1, none⟩) (by simp only; omega) (.int .i64 1))
    generalize w10.setCell ⟨g10, 1, none⟩ (.int .i64 1) = w11 at *
    go_wp2_with ((with_reducible show wpList _ _ _ (⟨_, .load 24 _, _, _, _, none⟩ :: _) _ _); (with_reducible refine wpBlk_load (g := g10) agg_msg ?_ ?_ K10 ?_ ?_); (· exact wanted0 rfl); (· exact ⟨rfl, rfl⟩); (· exact msgV_size _))
    ((with_reducible refine (PM2.out _).mono ?_))
    rintro e w12 ⟨hp, b12⟩
    rw [N2.out] at hp
    obtain rfl := hp
    replace BB := Lib.hid (bt BB.out b12)
    clear b12 PM2
    go_wp2_with fail
    go_ret
    exact ⟨rfl, BB.out⟩
  · have N2 := Lib.hid (put8_role x HX.out.1 (by rw [← HK.out]; exact h1))
    have PM2 := Lib.hid (fun W => put_msg (x.set 2 1) W (isMsg_set HX.out 2 1 (by omega)))
    have q1 : (k == 1) = false := by simp; omega
    have q2 : (k == 2) = false := by simp; omega
    clear h1
    have cb := cell_msg K10.out 2 (by omega) (by omega)
    have fb := K10.out.frozen 2
    go_wp2_with ((with_reducible show wpList _ _ _ (⟨some 60, .load 24 _, _, _, _, none⟩ :: _) _ _); refine Marker.mk ?_)
    refine Marker.in ?_
    clear cb fb c0
    replace K10 := Lib.hid (blk_setMsg K10.out HX.out.1 2 (by omega) (by omega) 1)
    replace BB := Lib.hid (BB.out.setCell (p := ⟨g10, 2, none⟩) (by simp only; omega) (.int .i64 1))
    generalize w10.setCell ⟨g10, 2, none⟩ (.int .i64 1) = w11 at *
    go_wp2_with ((with_reducible show wpList _ _ _ (⟨_, .load 24 _, _, _, _, none⟩ :: _) _ _); (with_reducible refine wpBlk_load (g := g10) agg_msg ?_ ?_ K10 ?_ ?_); (· exact wanted0 rfl); (· exact ⟨rfl, rfl⟩); (· exact msgV_size _))
    ((with_reducible refine (PM2.out _).mono ?_))
    rintro e w12 ⟨hp, b12⟩
    rw [N2.out] at hp
    obtain rfl := hp
    replace BB := Lib.hid (bt BB.out b12)
    clear b12 PM2
    go_wp2_with fail
    go_ret
    exact ⟨rfl, BB.out⟩
set_option maxRecDepth 100000 in
set_option maxHeartbeats 1600000 in
theorem msgFields_60 (l : List Int) (hl : IsMsgL l) (wh : Int) (w : World) (y0 : 0 ≤ wh) (y1 : wh ≤ 255) (hk : wh % 7 = 6) (hk2 : wh % 4 = 0) :
    Calls Try.prog 3 #[.agg (msgV l), .int .u8 wh] w fun e' w' => e' = .returned (.bool true) ∧ Below w.heap.size w w' := by
  have FT := Lib.hid (fun W => fit_msg l hl W)
  obtain ⟨⟨bs, hbs⟩, hx⟩ := fit_ok l hl
  have hkk := put8_kind hbs
  generalize fitL l = x at *
  obtain ⟨k, hk0⟩ : ∃ k, k = x.getD 0 0 := ⟨_, rfl⟩
  rw [← hk0] at hkk
  have HK := Lib.hid hk0
  have HX := Lib.hid hx
  have N1 := Lib.hid (put8_great x hx.1 8 (by omega) (by omega) 32768 (by omega) (by decide))
  have PM1 := Lib.hid (fun W => put_msg (x.set 8 32768) W (isMsg_set hx 8 32768 (by omega)))
  clear hbs hkk hk0 hx hl
  go_enter Try.func3, Try.ntmps3
  go_wp2_with fail
  have KM := Lib.hid (Blk.new w (msgV l) 24)
  have BB := Lib.hid (below_alloc1 w (.cells (msgV l) 24))
  generalize w.alloc (.cells (msgV l) 24) = w0 at *
  ((with_reducible refine (shown08 _).mono ?_))
  rintro e w1 ⟨rfl, b1⟩
  replace KM := Lib.hid (KM.out.below b1)
  replace BB := Lib.hid (bt BB.out b1)
  clear b1
  go_wp2_with ((with_reducible show wpList _ _ _ (⟨_, .load 24 _, _, _, _, none⟩ :: _) _ _); (with_reducible refine wpBlk_load (g := w.heap.size) agg_msg ?_ ?_ KM ?_ ?_); (· exact wanted0 rfl); (· exact ⟨rfl, rfl⟩); (· exact msgV_size _))
  ((with_reducible refine (FT.out _).mono ?_))
  rintro e w2 ⟨rfl, b2⟩
  replace KM := Lib.hid (KM.out.below b2)
  replace BB := Lib.hid (bt BB.out b2)
  clear b2 FT
  have lm := BB.out.size
  go_wp2_with ((with_reducible show wpList _ _ _ (⟨_, .alloc 24, _, _, _, none⟩ :: _) _ _); (with_reducible refine wpRow_alloc zeroT_msgz ?_ ?_ ?_); (· exact wanted0 rfl); (· rfl); refine Marker.mk ?_)
  refine Marker.in ?_
  have bel := below_alloc1 w2 (.cells (msgV (z12 0)) 24)
  replace BB := Lib.hid (bt BB.out bel)
  have K6 := Lib.hid (Blk.new w2 (msgV (z12 0)) 24)
  clear bel
  generalize w2.alloc (.cells (msgV (z12 0)) 24) = w3 at *
  generalize w2.heap.size = g6 at *
  go_wp2_with ((with_reducible show wpList _ _ _ (⟨_, .store 24 _ _, _, _, _, none⟩ :: _) _ _); (with_reducible refine wpBlk_store (g := g6) (cs := (msgV x)) agg_msg ?_ ?_ K6 ?_ ?_ ?_ ?_); (· exact wanted0 rfl); (· exact ⟨rfl, rfl, rfl⟩); (· exact msgV_size _); (· exact msgV_size _); (· exact msgV_one _); refine Marker.mk ?_)
  refine Marker.in ?_
  replace K6 := Lib.hid (K6.out.setRow (msgV x))
  replace BB := Lib.hid (below_setRow (g := g6) BB.out (by omega) (msgV x))
  generalize w3.setRow g6 (msgV x) = w4 at *
  have l6 := K6.out.lt
  go_wp2_with (first | ((with_reducible show wpList _ _ _ (⟨_, .load 24 _, _, _, _, none⟩ :: _) _ _); (with_reducible refine wpBlk_load (g := g6) agg_msg ?_ ?_ K6 ?_ ?_); (· exact wanted0 rfl); (· exact ⟨rfl, rfl⟩); (· exact msgV_size _)) | ((with_reducible show wpList _ _ _ (⟨_, .alloc 24, _, _, _, none⟩ :: _) _ _); (with_reducible refine wpRow_alloc zeroT_msgz ?_ ?_ ?_); (· exact wanted0 rfl); (· rfl); refine Marker.mk ?_))
  refine Marker.in ?_
  have bel := below_alloc1 w4 (.cells (msgV (z12 0)) 24)
  replace K6 := Lib.hid (K6.out.below bel)
  replace BB := Lib.hid (bt BB.out bel)
  have K7 := Lib.hid (Blk.new w4 (msgV (z12 0)) 24)
  clear bel
  generalize w4.alloc (.cells (msgV (z12 0)) 24) = w5 at *
  generalize w4.heap.size = g7 at *
  go_wp2_with ((with_reducible show wpList _ _ _ (⟨_, .store 24 _ _, _, _, _, none⟩ :: _) _ _); (with_reducible refine wpBlk_store (g := g7) (cs := (msgV x)) agg_msg ?_ ?_ K7 ?_ ?_ ?_ ?_); (· exact wanted0 rfl); (· exact ⟨rfl, rfl, rfl⟩); (· exact msgV_size _); (· exact msgV_size _); (· exact msgV_one _); refine Marker.mk ?_)
  refine Marker.in ?_
  replace K6 := Lib.hid (K6.out.setRow_other g7 (msgV x) (by omega))
  replace K7 := Lib.hid (K7.out.setRow (msgV x))
  replace BB := Lib.hid (below_setRow (g := g7) BB.out (by omega) (msgV x))
  generalize w5.setRow g7 (msgV x) = w6 at *
  have l7 := K7.out.lt
  have cb := cell_msg K7.out 8 (by omega) (by omega)
  have fb := K7.out.frozen 8
  go_wp2_with ((with_reducible show wpList _ _ _ (⟨some 43, .load 24 _, _, _, _, none⟩ :: _) _ _); refine Marker.mk ?_)
  refine Marker.in ?_
  clear cb fb
  replace K6 := Lib.hid (K6.out.other g7 8 (.int .i64 32768) (by omega))
  replace K7 := Lib.hid (blk_setMsg K7.out HX.out.1 8 (by omega) (by omega) 32768)
  replace BB := Lib.hid (BB.out.setCell (p := ⟨g7, 8, none⟩) (by simp only; omega) (.int .i64 32768))
  generalize w6.setCell ⟨g7, 8, none⟩ (.int .i64 32768) = w7 at *
  go_wp2_with ((with_reducible show wpList _ _ _ (⟨_, .load 24 _, _, _, _, none⟩ :: _) _ _); (with_reducible refine wpBlk_load (g := g7) agg_msg ?_ ?_ K7 ?_ ?_); (· exact wanted0 rfl); (· exact ⟨rfl, rfl⟩); (· exact msgV_size _))
  ((with_reducible refine (PM1.out _).mono ?_))
  rintro e w8 ⟨hp, b8⟩
  rw [N1.out] at hp
  obtain rfl := hp
  replace K6 := Lib.hid (K6.out.below b8)
  replace BB := Lib.hid (bt BB.out b8)
  clear b8 PM1 K7
  have l8 := K6.out.lt
  go_wp2_with (first | ((with_reducible show wpList _ _ _ (⟨_, .load 24 _, _, _, _, none⟩ :: _) _ _); (with_reducible refine wpBlk_load (g := g6) agg_msg ?_ ?_ K6 ?_ ?_); (· exact wanted0 rfl); (· exact ⟨rfl, rfl⟩); (· exact msgV_size _)) | ((with_reducible show wpList _ _ _ (⟨_, .alloc 24, _, _, _, none⟩ :: _) _ _); (with_reducible refine wpRow_alloc zeroT_msgz ?_ ?_ ?_); (· exact wanted0 rfl); (· rfl); refine Marker.mk ?_))
  refine Marker.in ?_
  have bel := below_alloc1 w8 (.cells (msgV (z12 0)) 24)
  replace K6 := Lib.hid (K6.out.below bel)
  replace BB := Lib.hid (bt BB.out bel)
  have K10 := Lib.hid (Blk.new w8 (msgV (z12 0)) 24)
  clear bel
  generalize w8.alloc (.cells (msgV (z12 0)) 24) = w9 at *
  generalize w8.heap.size = g10 at *
  go_wp2_with ((with_reducible show wpList _ _ _ (⟨_, .store 24 _ _, _, _, _, none⟩ :: _) _ _); (with_reducible refine wpBlk_store (g := g10) (cs := (msgV x)) agg_msg ?_ ?_ K10 ?_ ?_ ?_ ?_); (· exact wanted0 rfl); (· exact ⟨rfl, rfl, rfl⟩); (· exact msgV_size _); (· exact msgV_size _); (· exact msgV_one _); refine Marker.mk ?_)
  refine Marker.in ?_
  replace K6 := Lib.hid (K6.out.setRow_other g10 (msgV x) (by omega))
  replace K10 := Lib.hid (K10.out.setRow (msgV x))
  replace BB := Lib.hid (below_setRow (g := g10) BB.out (by omega) (msgV x))
  generalize w9.setRow g10 (msgV x) = w10 at *
  have l10 := K10.out.lt
  have c0 := cell_msg K6.out 0 (by omega) (by omega)
  rw [← HK.out] at c0
  have hh : (k = 1 ∨ k = 2) ∨ ¬ (k = 1 ∨ k = 2) := Classical.em _
  rcases hh with (h1 | h1) | h1
  · have N2 := Lib.hid (put8_seq x HX.out.1 (by rw [← HK.out]; exact .inl h1))
    have PM2 := Lib.hid (fun W => put_msg (x.set 1 1) W (isMsg_set HX.out 1 1 (by omega)))
    have q1 : (k == 1) = true := by simp [h1]
    clear h1
    have cb := cell_msg K10.out 1 (by omega) (by omega)
    have fb := K10.out.frozen 1
    go_wp2_with ((with_reducible show wpList _ _ _ (⟨some 60, .load 24 _, _, _, _, none⟩ :: _) _ _); refine Marker.mk ?_)
    refine Marker.in ?_
    clear cb fb c0
    replace K10 := Lib.hid (blk_setMsg K10.out HX.out.1 1 (by omega) (by omega) 1)
    replace BB := Lib.hid (BB.out.setCell (p := ⟨g10, 1, none⟩) (by simp only; omega) (.int .i64 1))
    generalize w10.setCell ⟨g10, 1, none⟩ (.int .i64 1) = w11 at *
    go_wp2_with ((with_reducible show wpList _ _ _ (⟨_, .load 24 _, _, _, _, none⟩ :: _) _ _); (with_reducible refine wpBlk_load (g := g10) agg_msg ?_ ?_ K10 ?_ ?_); (· exact wanted0 rfl); (· exact ⟨rfl, rfl⟩); (· exact msgV_size _))
    ((with_reducible refine (PM2.out _).mono ?_))
    rintro e w12 ⟨hp, b12⟩
    rw [N2.out] at hp
    obtain rfl := hp
    replace BB := Lib.hid (bt BB.out b12)
    clear b12 PM2
    go_wp2_with fail
    go_ret
    exact ⟨rfl, BB.out⟩
  · have N2 := Lib.hid (put8_seq x HX.out.1 (by rw [← HK.out]; exact .inr h1))
    have PM2 := Lib.hid (fun W => put_msg (x.set 1 1) W (isMsg_set HX.out 1 1 (by omega)))
    have q1 : (k == 1) = false := by simp [h1]
    have q2 : (k == 2) = true := by simp [h1]
    clear h1
    have cb := cell_msg K10.out 1 (by omega) (by omega)
    have fb := K10.out.frozen 1
    go_wp2_with ((with_reducible show wpList _ _ _ (⟨some 60, .load 24 _, _, _, _, none⟩ :: _) _ _); refine Marker.mk ?_)
    refine Marker.in ?_
    clear cb fb c0
    replace K10 := Lib.hid (blk_setMsg K10.out HX.out.1 1 (by omega) (by omega) 1)
    replace BB := Lib.hid (BB.out.setCell (p := ⟨g10, 1, none⟩) (by simp only; omega) (.int .i64 1))
    generalize w10.setCell ⟨g10, 1, none⟩ (.int .i64 1) = w11 at *
    go_wp2_with ((with_reducible show wpList _ _ _ (⟨_, .load 24 _, _, _, _, none⟩ :: _) _ _); (with_reducible refine wpBlk_load (g := g10) agg_msg ?_ ?_ K10 ?_ ?_); (· exact wanted0 rfl); (· exact ⟨rfl, rfl⟩); (· exact msgV_size _))
    ((with_reducible refine (PM2.out _).mono ?_))
    rintro e w12 ⟨hp, b12⟩
    rw [N2.out] at hp
    obtain rfl := hp
    replace BB := Lib.hid (bt BB.out b12)
    clear b12 PM2
    go_wp2_with fail
    go_ret
    exact ⟨rfl, BB.out⟩
  · have N2 := Lib.hid (put8_role x HX.out.1 (by rw [← HK.out]; exact h1))
    have PM2 := Lib.hid (fun W => put_msg (x.set 2 1) W (isMsg_set HX.out 2 1 (by omega)))
    have q1 : (k == 1) = false := by simp; omega
    have q2 : (k == 2) = false := by simp; omega
    clear h1
    have cb := cell_msg K10.out 2 (by omega) (by omega)
    have fb := K10.out.frozen 2
    go_wp2_with ((with_reducible show wpList _ _ _ (⟨some 60, .load 24 _, _, _, _, none⟩ :: _) _ _); refine Marker.mk ?_)
    refine Marker.in ?_
    clear cb fb c0
    replace K10 := Lib.hid (blk_setMsg K10.out HX.out.1 2 (by omega) (by omega) 1)
    replace BB := Lib.hid (BB.out.setCell (p := ⟨g10, 2, none⟩) (by simp only; omega) (.int .i64 1))
    generalize w10.setCell ⟨g10, 2, none⟩ (.int .i64 1) = w11 at *
    go_wp2_with ((with_reducible show wpList _ _ _ (⟨_, .load 24 _, _, _, _, none⟩ :: _) _ _); (with_reducible refine wpBlk_load (g := g10) agg_msg ?_ ?_ K10 ?_ ?_); (· exact wanted0 rfl); (· exact ⟨rfl, rfl⟩); (· exact msgV_size _))
    ((with_reducible refine (PM2.out _).mono ?_))
    rintro e w12 ⟨hp, b12⟩
    rw [N2.out] at hp
    obtain rfl := hp
    replace BB := Lib.hid (bt BB.out b12)
    clear b12 PM2
    go_wp2_with fail
    go_ret
    exact ⟨rfl, BB.out⟩
set_option maxRecDepth 100000 in
set_option maxHeartbeats 1600000 in
theorem msgFields_61 (l : List Int) (hl : IsMsgL l) (wh : Int) (w : World) (y0 : 0 ≤ wh) (y1 : wh ≤ 255) (hk : wh % 7 = 6) (hk2 : wh % 4 = 1) :
    Calls Try.prog 3 #[.agg (msgV l), .int .u8 wh] w fun e' w' => e' = .returned (.bool true) ∧ Below w.heap.size w w' := by
  have FT := Lib.hid (fun W => fit_msg l hl W)
  obtain ⟨⟨bs, hbs⟩, hx⟩ := fit_ok l hl
  have hkk := put8_kind hbs
  generalize fitL l = x at *
  obtain ⟨k, hk0⟩ : ∃ k, k = x.getD 0 0 := ⟨_, rfl⟩
  rw [← hk0] at hkk
  have HK := Lib.hid hk0
  have HX := Lib.hid hx
  have N1 := Lib.hid (put8_great x hx.1 9 (by omega) (by omega) 32768 (by omega) (by decide))
  have PM1 := Lib.hid (fun W => put_msg (x.set 9 32768) W (isMsg_set hx 9 32768 (by omega)))
  clear hbs hkk hk0 hx hl
  go_enter Try.func3, Try.ntmps3
  go_wp2_with fail
  have KM := Lib.hid (Blk.new w (msgV l) 24)
  have BB := Lib.hid (below_alloc1 w (.cells (msgV l) 24))
  generalize w.alloc (.cells (msgV l) 24) = w0 at *
  ((with_reducible refine (shown08 _).mono ?_))
  rintro e w1 ⟨rfl, b1⟩
  replace KM := Lib.hid (KM.out.below b1)
  replace BB := Lib.hid (bt BB.out b1)
  clear b1
  go_wp2_with ((with_reducible show wpList _ _ _ (⟨_, .load 24 _, _, _, _, none⟩ :: _) _ _); (with_reducible refine wpBlk_load (g := w.heap.size) agg_msg ?_ ?_ KM ?_ ?_); (· exact wanted0 rfl); (· exact ⟨rfl, rfl⟩); (· exact msgV_size _))
  ((with_reducible refine (FT.out _).mono ?_))
  rintro e w2 ⟨rfl, b2⟩
  replace KM := Lib.hid (KM.out.below b2)
  replace BB := Lib.hid (bt BB.out b2)
  clear b2 FT
  have lm := BB.out.size
  go_wp2_with ((with_reducible show wpList _ _ _ (⟨_, .alloc 24, _, _, _, none⟩ :: _) _ _); (with_reducible refine wpRow_alloc zeroT_msgz ?_ ?_ ?_); (· exact wanted0 rfl); (· rfl); refine Marker.mk ?_)
  refine Marker.in ?_
  have bel := below_alloc1 w2 (.cells (msgV (z12 0)) 24)
  replace BB := Lib.hid (bt BB.out bel)
  have K6 := Lib.hid (Blk.new w2 (msgV (z12 0)) 24)
  clear bel
  generalize w2.alloc (.cells (msgV (z12 0)) 24) = w3 at *
  generalize w2.heap.size = g6 at *
  go_wp2_with ((with_reducible show wpList _ _ _ (⟨_, .store 24 _ _, _, _, _, none⟩ :: _) _ _); (with_reducible refine wpBlk_store (g := g6) (cs := (msgV x)) agg_msg ?_ ?_ K6 ?_ ?_ ?_ ?_); (· exact wanted0 rfl); (· exact ⟨rfl, rfl, rfl⟩); (· exact msgV_size _); (· exact msgV_size _); (· exact msgV_one _); refine Marker.mk ?_)
  refine Marker.in ?_
  replace K6 := Lib.hid (K6.out.setRow (msgV x))
  replace BB := Lib.hid (below_setRow (g := g6) BB.out (by omega) (msgV x))
  generalize w3.setRow g6 (msgV x) = w4 at *
  have l6 := K6.out.lt
  go_wp2_with (first | ((with_reducible show wpList _ _ _ (⟨_, .load 24 _, _, _, _, none⟩ :: _) _ _); (with_reducible refine wpBlk_load (g := g6) agg_msg ?_ ?_ K6 ?_ ?_); (· exact wanted0 rfl); (· exact ⟨rfl, rfl⟩); (· exact msgV_size _)) | ((with_reducible show wpList _ _ _ (⟨_, .alloc 24, _, _, _, none⟩ :: _) _ _); (with_reducible refine wpRow_alloc zeroT_msgz ?_ ?_ ?_); (· exact wanted0 rfl); (· rfl); refine Marker.mk ?_))
  refine Marker.in ?_
  have bel := below_alloc1 w4 (.cells (msgV (z12 0)) 24)
  replace K6 := Lib.hid (K6.out.below bel)
  replace BB := Lib.hid (bt BB.out bel)
  have K7 := Lib.hid (Blk.new w4 (msgV (z12 0)) 24)
  clear bel
  generalize w4.alloc (.cells (msgV (z12 0)) 24) = w5 at *
  generalize w4.heap.size = g7 at *
  go_wp2_with ((with_reducible show wpList _ _ _ (⟨_, .store 24 _ _, _, _, _, none⟩ :: _) _ _); (with_reducible refine wpBlk_store (g := g7) (cs := (msgV x)) agg_msg ?_ ?_ K7 ?_ ?_ ?_ ?_); (· exact wanted0 rfl); (· exact ⟨rfl, rfl, rfl⟩); (· exact msgV_size _); (· exact msgV_size _); (· exact msgV_one _); refine Marker.mk ?_)
  refine Marker.in ?_
  replace K6 := Lib.hid (K6.out.setRow_other g7 (msgV x) (by omega))
  replace K7 := Lib.hid (K7.out.setRow (msgV x))
  replace BB := Lib.hid (below_setRow (g := g7) BB.out (by omega) (msgV x))
  generalize w5.setRow g7 (msgV x) = w6 at *
  have l7 := K7.out.lt
  have cb := cell_msg K7.out 9 (by omega) (by omega)
  have fb := K7.out.frozen 9
  go_wp2_with ((with_reducible show wpList _ _ _ (⟨some 43, .load 24 _, _, _, _, none⟩ :: _) _ _); refine Marker.mk ?_)
  refine Marker.in ?_
  clear cb fb
  replace K6 := Lib.hid (K6.out.other g7 9 (.int .i64 32768) (by omega))
  replace K7 := Lib.hid (blk_setMsg K7.out HX.out.1 9 (by omega) (by omega) 32768)
  replace BB := Lib.hid (BB.out.setCell (p := ⟨g7, 9, none⟩) (by simp only; omega) (.int .i64 32768))
  generalize w6.setCell ⟨g7, 9, none⟩ (.int .i64 32768) = w7 at *
  go_wp2_with ((with_reducible show wpList _ _ _ (⟨_, .load 24 _, _, _, _, none⟩ :: _) _ _); (with_reducible refine wpBlk_load (g := g7) agg_msg ?_ ?_ K7 ?_ ?_); (· exact wanted0 rfl); (· exact ⟨rfl, rfl⟩); (· exact msgV_size _))
  ((with_reducible refine (PM1.out _).mono ?_))
  rintro e w8 ⟨hp, b8⟩
  rw [N1.out] at hp
  obtain rfl := hp
  replace K6 := Lib.hid (K6.out.below b8)
  replace BB := Lib.hid (bt BB.out b8)
  clear b8 PM1 K7
  have l8 := K6.out.lt
  go_wp2_with (first | ((with_reducible show wpList _ _ _ (⟨_, .load 24 _, _, _, _, none⟩ :: _) _ _); (with_reducible refine wpBlk_load (g := g6) agg_msg ?_ ?_ K6 ?_ ?_); (· exact wanted0 rfl); (· exact ⟨rfl, rfl⟩); (· exact msgV_size _)) | ((with_reducible show wpList _ _ _ (⟨_, .alloc 24, _, _, _, none⟩ :: _) _ _); (with_reducible refine wpRow_alloc zeroT_msgz ?_ ?_ ?_); (· exact wanted0 rfl); (· rfl); refine Marker.mk ?_))
  refine Marker.in ?_
  have bel := below_alloc1 w8 (.cells (msgV (z12 0)) 24)
  replace K6 := Lib.hid (K6.out.below bel)
  replace BB := Lib.hid (bt BB.out bel)
  have K10 := Lib.hid (Blk.new w8 (msgV (z12 0)) 24)
  clear bel
  generalize w8.alloc (.cells (msgV (z12 0)) 24) = w9 at *
  generalize w8.heap.size = g10 at *
  go_wp2_with ((with_reducible show wpList _ _ _ (⟨_, .store 24 _ _, _, _, _, none⟩ :: _) _ _); (with_reducible refine wpBlk_store (g := g10) (cs := (msgV x)) agg_msg ?_ ?_ K10 ?_ ?_ ?_ ?_); (· exact wanted0 rfl); (· exact ⟨rfl, rfl, rfl⟩); (· exact msgV_size _); (· exact msgV_size _); (· exact msgV_one _); refine Marker.mk ?_)
  refine Marker.in ?_
  replace K6 := Lib.hid (K6.out.setRow_other g10 (msgV x) (by omega))
  replace K10 := Lib.hid (K10.out.setRow (msgV x))
  replace BB := Lib.hid (below_setRow (g := g10) BB.out (by omega) (msgV x))
  generalize w9.setRow g10 (msgV x) = w10 at *
  have l10 := K10.out.lt
  have c0 := cell_msg K6.out 0 (by omega) (by omega)
  rw [← HK.out] at c0
  have hh : (k = 1 ∨ k = 2) ∨ ¬ (k = 1 ∨ k = 2) := Classical.em _
  rcases hh with (h1 | h1) | h1
  · have N2 := Lib.hid (put8_seq x HX.out.1 (by rw [← HK.out]; exact .inl h1))
    have PM2 := Lib.hid (fun W => put_msg (x.set 1 1) W (isMsg_set HX.out 1 1 (by omega)))
    have q1 : (k == 1) = true := by simp [h1]
    clear h1
    have cb := cell_msg K10.out 1 (by omega) (by omega)
    have fb := K10.out.frozen 1
    go_wp2_with ((with_reducible show wpList _ _ _ (⟨some 60, .load 24 _, _, _, _, none⟩ :: _) _ _); refine Marker.mk ?_)
    refine Marker.in ?_
    clear cb fb c0
    replace K10 := Lib.hid (blk_setMsg K10.out HX.out.1 1 (by omega) (by omega) 1)
    replace BB := Lib.hid (BB.out.setCell (p := ⟨g10, 1, none⟩) (by simp only; omega) (.int .i64 1))
    generalize w10.setCell ⟨g10, 1, none⟩ (.int .i64 1) = w11 at *
    go_wp2_with ((with_reducible show wpList _ _ _ (⟨_, .load 24 _, _, _, _, none⟩ :: _) _ _); (with_reducible refine wpBlk_load (g := g10) agg_msg ?_ ?_ K10 ?_ ?_); (· exact wanted0 rfl); (· exact ⟨rfl, rfl⟩); (· exact msgV_size _))
    ((with_reducible refine (PM2.out _).mono ?_))
    rintro e w12 ⟨hp, b12⟩
    rw [N2.out] at hp
    obtain rfl := hp
    replace BB := Lib.hid (bt BB.out b12)
    clear b12 PM2
    go_wp2_with fail
    go_ret
    exact ⟨rfl, BB.out⟩
  · have N2 := Lib.hid (put8_seq x HX.out.1 (by rw [← HK.out]; exact .inr h1))
    have PM2 := Lib.hid (fun W => put_msg (x.set 1 1) W (isMsg_set HX.out 1 1 (by omega)))
    have q1 : (k == 1) = false := by simp [h1]
    have q2 : (k == 2) = true := by simp [h1]
    clear h1
    have cb := cell_msg K10.out 1 (by omega) (by omega)
    have fb := K10.out.frozen 1
    go_wp2_with ((with_reducible show wpList _ _ _ (⟨some 60, .load 24 _, _, _, _, none⟩ :: _) _ _); refine Marker.mk ?_)
    refine Marker.in ?_
    clear cb fb c0
    replace K10 := Lib.hid (blk_setMsg K10.out HX.out.1 1 (by omega) (by omega) 1)
    replace BB := Lib.hid (BB.out.setCell (p := ⟨g10, 1, none⟩) (by simp only; omega) (.int .i64 1))
    generalize w10.setCell ⟨g10, 1, none⟩ (.int .i64 1) = w11 at *
    go_wp2_with ((with_reducible show wpList _ _ _ (⟨_, .load 24 _, _, _, _, none⟩ :: _) _ _); (with_reducible refine wpBlk_load (g := g10) agg_msg ?_ ?_ K10 ?_ ?_); (· exact wanted0 rfl); (· exact ⟨rfl, rfl⟩); (· exact msgV_size _))
    ((with_reducible refine (PM2.out _).mono ?_))
    rintro e w12 ⟨hp, b12⟩
    rw [N2.out] at hp
    obtain rfl := hp
    replace BB := Lib.hid (bt BB.out b12)
    clear b12 PM2
    go_wp2_with fail
    go_ret
    exact ⟨rfl, BB.out⟩
  · have N2 := Lib.hid (put8_role x HX.out.1 (by rw [← HK.out]; exact h1))
    have PM2 := Lib.hid (fun W => put_msg (x.set 2 1) W (isMsg_set HX.out 2 1 (by omega)))
    have q1 : (k == 1) = false := by simp; omega
    have q2 : (k == 2) = false := by simp; omega
    clear h1
    have cb := cell_msg K10.out 2 (by omega) (by omega)
    have fb := K10.out.frozen 2
    go_wp2_with ((with_reducible show wpList _ _ _ (⟨some 60, .load 24 _, _, _, _, none⟩ :: _) _ _); refine Marker.mk ?_)
    refine Marker.in ?_
    clear cb fb c0
    replace K10 := Lib.hid (blk_setMsg K10.out HX.out.1 2 (by omega) (by omega) 1)
    replace BB := Lib.hid (BB.out.setCell (p := ⟨g10, 2, none⟩) (by simp only; omega) (.int .i64 1))
    generalize w10.setCell ⟨g10, 2, none⟩ (.int .i64 1) = w11 at *
    go_wp2_with ((with_reducible show wpList _ _ _ (⟨_, .load 24 _, _, _, _, none⟩ :: _) _ _); (with_reducible refine wpBlk_load (g := g10) agg_msg ?_ ?_ K10 ?_ ?_); (· exact wanted0 rfl); (· exact ⟨rfl, rfl⟩); (· exact msgV_size _))
    ((with_reducible refine (PM2.out _).mono ?_))
    rintro e w12 ⟨hp, b12⟩
    rw [N2.out] at hp
    obtain rfl := hp
    replace BB := Lib.hid (bt BB.out b12)
    clear b12 PM2
    go_wp2_with fail
    go_ret
    exact ⟨rfl, BB.out⟩
set_option maxRecDepth 100000 in
set_option maxHeartbeats 1600000 in
theorem msgFields_62 (l : List Int) (hl : IsMsgL l) (wh : Int) (w : World) (y0 : 0 ≤ wh) (y1 : wh ≤ 255) (hk : wh % 7 = 6) (hk2 : wh % 4 = 2) :
    Calls Try.prog 3 #[.agg (msgV l), .int .u8 wh] w fun e' w' => e' = .returned (.bool true) ∧ Below w.heap.size w w' := by
  have FT := Lib.hid (fun W => fit_msg l hl W)
  obtain ⟨⟨bs, hbs⟩, hx⟩ := fit_ok l hl
  have hkk := put8_kind hbs
  generalize fitL l = x at *
  obtain ⟨k, hk0⟩ : ∃ k, k = x.getD 0 0 := ⟨_, rfl⟩
  rw [← hk0] at hkk
  have HK := Lib.hid hk0
  have HX := Lib.hid hx
  have N1 := Lib.hid (put8_great x hx.1 10 (by omega) (by omega) 32768 (by omega) (by decide))
  have PM1 := Lib.hid (fun W => put_msg (x.set 10 32768) W (isMsg_set hx 10 32768 (by omega)))
  clear hbs hkk hk0 hx hl
  go_enter Try.func3, Try.ntmps3
  go_wp2_with fail
  have KM := Lib.hid (Blk.new w (msgV l) 24)
  have BB := Lib.hid (below_alloc1 w (.cells (msgV l) 24))
  generalize w.alloc (.cells (msgV l) 24) = w0 at *
  ((with_reducible refine (shown08 _).mono ?_))
  rintro e w1 ⟨rfl, b1⟩
  replace KM := Lib.hid (KM.out.below b1)
  replace BB := Lib.hid (bt BB.out b1)
  clear b1
  go_wp2_with ((with_reducible show wpList _ _ _ (⟨_, .load 24 _, _, _, _, none⟩ :: _) _ _); (with_reducible refine wpBlk_load (g := w.heap.size) agg_msg ?_ ?_ KM ?_ ?_); (· exact wanted0 rfl); (· exact ⟨rfl, rfl⟩); (· exact msgV_size _))
  ((with_reducible refine (FT.out _).mono ?_))
  rintro e w2 ⟨rfl, b2⟩
  replace KM := Lib.hid (KM.out.below b2)
  replace BB := Lib.hid (bt BB.out b2)
  clear b2 FT
  have lm := BB.out.size
  go_wp2_with ((with_reducible show wpList _ _ _ (⟨_, .alloc 24, _, _, _, none⟩ :: _) _ _); (with_reducible refine wpRow_alloc zeroT_msgz ?_ ?_ ?_); (· exact wanted0 rfl); (· rfl); refine Marker.mk ?_)
  refine Marker.in ?_
  have bel := below_alloc1 w2 (.cells (msgV (z12 0)) 24)
  replace BB := Lib.hid (bt BB.out bel)
  have K6 := Lib.hid (Blk.new w2 (msgV (z12 0)) 24)
  clear bel
  generalize w2.alloc (.cells (msgV (z12 0)) 24) = w3 at *
  generalize w2.heap.size = g6 at *
  go_wp2_with ((with_reducible show wpList _ _ _ (⟨_, .store 24 _ _, _, _, _, none⟩ :: _) _ _); (with_reducible refine wpBlk_store (g := g6) (cs := (msgV x)) agg_msg ?_ ?_ K6 ?_ ?_ ?_ ?_); (· exact wanted0 rfl); (· exact ⟨rfl, rfl, rfl⟩); (· exact msgV_size _); (· exact msgV_size _); (· exact msgV_one _); refine Marker.mk ?_)
  refine Marker.in ?_
  replace K6 := Lib.hid (K6.out.setRow (msgV x))
  replace BB := Lib.hid (below_setRow (g := g6) BB.out (by omega) (msgV x))
  generalize w3.setRow g6 (msgV x) = w4 at *
  have l6 := K6.out.lt
  go_wp2_with (first | ((with_reducible show wpList _ _ _ (⟨_, .load 24 _, _, _, _, none⟩ :: _) _ _); (with_reducible refine wpBlk_load (g := g6) agg_msg ?_ ?_ K6 ?_ ?_); (· exact wanted0 rfl); (· exact ⟨rfl, rfl⟩); (· exact msgV_size _)) | ((with_reducible show wpList _ _ _ (⟨_, .alloc 24, _, _, _, none⟩ :: _) _ _); (with_reducible refine wpRow_alloc zeroT_msgz ?_ ?_ ?_); (· exact wanted0 rfl); (· rfl); refine Marker.mk ?_))
  refine Marker.in ?_
  have bel := below_alloc1 w4 (.cells (msgV (z12 0)) 24)
  replace K6 := Lib.hid (K6.out.below bel)
  replace BB := Lib.hid (bt BB.out bel)
  have K7 := Lib.hid (Blk.new w4 (msgV (z12 0)) 24)
  clear bel
  generalize w4.alloc (.cells (msgV (z12 0)) 24) = w5 at *
  generalize w4.heap.size = g7 at *
  go_wp2_with ((with_reducible show wpList _ _ _ (⟨_, .store 24 _ _, _, _, _, none⟩ :: _) _ _); (with_reducible refine wpBlk_store (g := g7) (cs := (msgV x)) agg_msg ?_ ?_ K7 ?_ ?_ ?_ ?_); (· exact wanted0 rfl); (· exact ⟨rfl, rfl, rfl⟩); (· exact msgV_size _); (· exact msgV_size _); (· exact msgV_one _); refine Marker.mk ?_)
  refine Marker.in ?_
  replace K6 := Lib.hid (K6.out.setRow_other g7 (msgV x) (by omega))
  replace K7 := Lib.hid (K7.out.setRow (msgV x))
  replace BB := Lib.hid (below_setRow (g := g7) BB.out (by omega) (msgV x))
  generalize w5.setRow g7 (msgV x) = w6 at *
  have l7 := K7.out.lt
  have cb := cell_msg K7.out 10 (by omega) (by omega)
  have fb := K7.out.frozen 10
  go_wp2_with ((with_reducible show wpList _ _ _ (⟨some 43, .load 24 _, _, _, _, none⟩ :: _) _ _); refine Marker.mk ?_)
  refine Marker.in ?_
  clear cb fb
  replace K6 := Lib.hid (K6.out.other g7 10 (.int .i64 32768) (by omega))
  replace K7 := Lib.hid (blk_setMsg K7.out HX.out.1 10 (by omega) (by omega) 32768)
  replace BB := Lib.hid (BB.out.setCell (p := ⟨g7, 10, none⟩) (by simp only; omega) (.int .i64 32768))
  generalize w6.setCell ⟨g7, 10, none⟩ (.int .i64 32768) = w7 at *
  go_wp2_with ((with_reducible show wpList _ _ _ (⟨_, .load 24 _, _, _, _, none⟩ :: _) _ _); (with_reducible refine wpBlk_load (g := g7) agg_msg ?_ ?_ K7 ?_ ?_); (· exact wanted0 rfl); (· exact ⟨rfl, rfl⟩); (· exact msgV_size _))
  ((with_reducible refine (PM1.out _).mono ?_))
  rintro e w8 ⟨hp, b8⟩
  rw [N1.out] at hp
  obtain rfl := hp
  replace K6 := Lib.hid (K6.out.below b8)
  replace BB := Lib.hid (bt BB.out b8)
  clear b8 PM1 K7
  have l8 := K6.out.lt
  go_wp2_with (first | ((with_reducible show wpList _ _ _ (⟨_, .load 24 _, _, _, _, none⟩ :: _) _ _); (with_reducible refine wpBlk_load (g := g6) agg_msg ?_ ?_ K6 ?_ ?_); (· exact wanted0 rfl); (· exact ⟨rfl, rfl⟩); (· exact msgV_size _)) | ((with_reducible show wpList _ _ _ (⟨_, .alloc 24, _, _, _, none⟩ :: _) _ _); (with_reducible refine wpRow_alloc zeroT_msgz ?_ ?_ ?_); (· exact wanted0 rfl); (· rfl); refine Marker.mk ?_))
  refine Marker.in ?_
  have bel := below_alloc1 w8 (.cells (msgV (z12 0)) 24)
  replace K6 := Lib.hid (K6.out.below bel)
  replace BB := Lib.hid (bt BB.out bel)
  have K10 := Lib.hid (Blk.new w8 (msgV (z12 0)) 24)
  clear bel
  generalize w8.alloc (.cells (msgV (z12 0)) 24) = w9 at *
  generalize w8.heap.size = g10 at *
  go_wp2_with ((with_reducible show wpList _ _ _ (⟨_, .store 24 _ _, _, _, _, none⟩ :: _) _ _); (with_reducible refine wpBlk_store (g := g10) (cs := (msgV x)) agg_msg ?_ ?_ K10 ?_ ?_ ?_ ?_); (· exact wanted0 rfl); (· exact ⟨rfl, rfl, rfl⟩); (· exact msgV_size _); (· exact msgV_size _); (· exact msgV_one _); refine Marker.mk ?_)
  refine Marker.in ?_
  replace K6 := Lib.hid (K6.out.setRow_other g10 (msgV x) (by omega))
  replace K10 := Lib.hid (K10.out.setRow (msgV x))
  replace BB := Lib.hid (below_setRow (g := g10) BB.out (by omega) (msgV x))
  generalize w9.setRow g10 (msgV x) = w10 at *
  have l10 := K10.out.lt
  have c0 := cell_msg K6.out 0 (by omega) (by omega)
  rw [← HK.out] at c0
  have hh : (k = 1 ∨ k = 2) ∨ ¬ (k = 1 ∨ k = 2) := Classical.em _
  rcases hh with (h1 | h1) | h1
  · have N2 := Lib.hid (put8_seq x HX.out.1 (by rw [← HK.out]; exact .inl h1))
    have PM2 := Lib.hid (fun W => put_msg (x.set 1 1) W (isMsg_set HX.out 1 1 (by omega)))
    have q1 : (k == 1) = true := by simp [h1]
    clear h1
    have cb := cell_msg K10.out 1 (by omega) (by omega)
    have fb := K10.out.frozen 1
    go_wp2_with ((with_reducible show wpList _ _ _ (⟨some 60, .load 24 _, _, _, _, none⟩ :: _) _ _); refine Marker.mk ?_)
    refine Marker.in ?_
    clear cb fb c0
    replace K10 := Lib.hid (blk_setMsg K10.out HX.out.1 1 (by omega) (by omega) 1)
    replace BB := Lib.hid (BB.out.setCell (p := ⟨g10, 1, none⟩) (by simp only; omega) (.int .i64 1))
    generalize w10.setCell ⟨g10, 1, none⟩ (.int .i64 1) = w11 at *
    go_wp2_with ((with_reducible show wpList _ _ _ (⟨_, .load 24 _, _, _, _, none⟩ :: _) _ _); (with_reducible refine wpBlk_load (g := g10) agg_msg ?_ ?_ K10 ?_ ?_); (· exact wanted0 rfl); (· exact ⟨rfl, rfl⟩); (· exact msgV_size _))
    ((with_reducible refine (PM2.out _).mono ?_))
    rintro e w12 ⟨hp, b12⟩
    rw [N2.out] at hp
    obtain rfl := hp
    replace BB := Lib.hid (bt BB.out b12)
    clear b12 PM2
    go_wp2_with fail
    go_ret
    exact ⟨rfl, BB.out⟩
  · have N2 := Lib.hid (put8_seq x HX.out.1 (by rw [← HK.out]; exact .inr h1))
    have PM2 := Lib.hid (fun W => put_msg (x.set 1 1) W (isMsg_set HX.out 1 1 (by omega)))
    have q1 : (k == 1) = false := by simp [h1]
    have q2 : (k == 2) = true := by simp [h1]
    clear h1
    have cb := cell_msg K10.out 1 (by omega) (by omega)
    have fb := K10.out.frozen 1
    go_wp2_with ((with_reducible show wpList _ _ _ (⟨some 60, .load 24 _, _, _, _, none⟩ :: _) _ _); refine Marker.mk ?_)
    refine Marker.in ?_
    clear cb fb c0
    replace K10 := Lib.hid (blk_setMsg K10.out HX.out.1 1 (by omega) (by omega) 1)
    replace BB := Lib.hid (BB.out.setCell (p := ⟨g10, 1, none⟩) (by simp only; omega) (.int .i64 1))
    generalize w10.setCell ⟨g10, 1, none⟩ (.int .i64 1) = w11 at *
    go_wp2_with ((with_reducible show wpList _ _ _ (⟨_, .load 24 _, _, _, _, none⟩ :: _) _ _); (with_reducible refine wpBlk_load (g := g10) agg_msg ?_ ?_ K10 ?_ ?_); (· exact wanted0 rfl); (· exact ⟨rfl, rfl⟩); (· exact msgV_size _))
    ((with_reducible refine (PM2.out _).mono ?_))
    rintro e w12 ⟨hp, b12⟩
    rw [N2.out] at hp
    obtain rfl := hp
    replace BB := Lib.hid (bt BB.out b12)
    clear b12 PM2
    go_wp2_with fail
    go_ret
    exact ⟨rfl, BB.out⟩
  · have N2 := Lib.hid (put8_role x HX.out.1 (by rw [← HK.out]; exact h1))
    have PM2 := Lib.hid (fun W => put_msg (x.set 2 1) W (isMsg_set HX.out 2 1 (by omega)))
    have q1 : (k == 1) = false := by simp; omega
    have q2 : (k == 2) = false := by simp; omega
    clear h1
    have cb := cell_msg K10.out 2 (by omega) (by omega)
    have fb := K10.out.frozen 2
    go_wp2_with ((with_reducible show wpList _ _ _ (⟨some 60, .load 24 _, _, _, _, none⟩ :: _) _ _); refine Marker.mk ?_)
    refine Marker.in ?_
    clear cb fb c0
    replace K10 := Lib.hid (blk_setMsg K10.out HX.out.1 2 (by omega) (by omega) 1)
    replace BB := Lib.hid (BB.out.setCell (p := ⟨g10, 2, none⟩) (by simp only; omega) (.int .i64 1))
    generalize w10.setCell ⟨g10, 2, none⟩ (.int .i64 1) = w11 at *
    go_wp2_with ((with_reducible show wpList _ _ _ (⟨_, .load 24 _, _, _, _, none⟩ :: _) _ _); (with_reducible refine wpBlk_load (g := g10) agg_msg ?_ ?_ K10 ?_ ?_); (· exact wanted0 rfl); (· exact ⟨rfl, rfl⟩); (· exact msgV_size _))
    ((with_reducible refine (PM2.out _).mono ?_))
    rintro e w12 ⟨hp, b12⟩
    rw [N2.out] at hp
    obtain rfl := hp
    replace BB := Lib.hid (bt BB.out b12)
    clear b12 PM2
    go_wp2_with fail
    go_ret
    exact ⟨rfl, BB.out⟩
set_option maxRecDepth 100000 in
set_option maxHeartbeats 1600000 in
theorem msgFields_63 (l : List Int) (hl : IsMsgL l) (wh : Int) (w : World) (y0 : 0 ≤ wh) (y1 : wh ≤ 255) (hk : wh % 7 = 6) (hk2 : wh % 4 = 3) :
    Calls Try.prog 3 #[.agg (msgV l), .int .u8 wh] w fun e' w' => e' = .returned (.bool true) ∧ Below w.heap.size w w' := by
  have FT := Lib.hid (fun W => fit_msg l hl W)
  obtain ⟨⟨bs, hbs⟩, hx⟩ := fit_ok l hl
  have hkk := put8_kind hbs
  generalize fitL l = x at *
  obtain ⟨k, hk0⟩ : ∃ k, k = x.getD 0 0 := ⟨_, rfl⟩
  rw [← hk0] at hkk
  have HK := Lib.hid hk0
  have HX := Lib.hid hx
  have N1 := Lib.hid (put8_great x hx.1 11 (by omega) (by omega) 32768 (by omega) (by decide))
  have PM1 := Lib.hid (fun W => put_msg (x.set 11 32768) W (isMsg_set hx 11 32768 (by omega)))
  clear hbs hkk hk0 hx hl
  go_enter Try.func3, Try.ntmps3
  go_wp2_with fail
  have KM := Lib.hid (Blk.new w (msgV l) 24)
  have BB := Lib.hid (below_alloc1 w (.cells (msgV l) 24))
  generalize w.alloc (.cells (msgV l) 24) = w0 at *
  ((with_reducible refine (shown08 _).mono ?_))
  rintro e w1 ⟨rfl, b1⟩
  replace KM := Lib.hid (KM.out.below b1)
  replace BB := Lib.hid (bt BB.out b1)
  clear b1
  go_wp2_with ((with_reducible show wpList _ _ _ (⟨_, .load 24 _, _, _, _, none⟩ :: _) _ _); (with_reducible refine wpBlk_load (g := w.heap.size) agg_msg ?_ ?_ KM ?_ ?_); (· exact wanted0 rfl); (· exact ⟨rfl, rfl⟩); (· exact msgV_size _))
  ((with_reducible refine (FT.out _).mono ?_))
  rintro e w2 ⟨rfl, b2⟩
  replace KM := Lib.hid (KM.out.below b2)
  replace BB := Lib.hid (bt BB.out b2)
  clear b2 FT
  have lm := BB.out.size
  go_wp2_with ((with_reducible show wpList _ _ _ (⟨_, .alloc 24, _, _, _, none⟩ :: _) _ _); (with_reducible refine wpRow_alloc zeroT_msgz ?_ ?_ ?_); (· exact wanted0 rfl); (· rfl); refine Marker.mk ?_)
  refine Marker.in ?_
  have bel := below_alloc1 w2 (.cells (msgV (z12 0)) 24)
  replace BB := Lib.hid (bt BB.out bel)
  have K6 := Lib.hid (Blk.new w2 (msgV (z12 0)) 24)
  clear bel
  generalize w2.alloc (.cells (msgV (z12 0)) 24) = w3 at *
  generalize w2.heap.size = g6 at *
  go_wp2_with ((with_reducible show wpList _ _ _ (⟨_, .store 24 _ _, _, _, _, none⟩ :: _) _ _); (with_reducible refine wpBlk_store (g := g6) (cs := (msgV x)) agg_msg ?_ ?_ K6 ?_ ?_ ?_ ?_); (· exact wanted0 rfl); (· exact ⟨rfl, rfl, rfl⟩); (· exact msgV_size _); (· exact msgV_size _); (· exact msgV_one _); refine Marker.mk ?_)
  refine Marker.in ?_
  replace K6 := Lib.hid (K6.out.setRow (msgV x))
  replace BB := Lib.hid (below_setRow (g := g6) BB.out (by omega) (msgV x))
  generalize w3.setRow g6 (msgV x) = w4 at *
  have l6 := K6.out.lt
  go_wp2_with (first | ((with_reducible show wpList _ _ _ (⟨_, .load 24 _, _, _, _, none⟩ :: _) _ _); (with_reducible refine wpBlk_load (g := g6) agg_msg ?_ ?_ K6 ?_ ?_); (· exact wanted0 rfl); (· exact ⟨rfl, rfl⟩); (· exact msgV_size _)) | ((with_reducible show wpList _ _ _ (⟨_, .alloc 24, _, _, _, none⟩ :: _) _ _); (with_reducible refine wpRow_alloc zeroT_msgz ?_ ?_ ?_); (· exact wanted0 rfl); (· rfl); refine Marker.mk ?_))
  refine Marker.in ?_
  have bel := below_alloc1 w4 (.cells (msgV (z12 0)) 24)
  replace K6 := Lib.hid (K6.out.below bel)
  replace BB := Lib.hid (bt BB.out bel)
  have K7 := Lib.hid (Blk.new w4 (msgV (z12 0)) 24)
  clear bel
  generalize w4.alloc (.cells (msgV (z12 0)) 24) = w5 at *
  generalize w4.heap.size = g7 at *
  go_wp2_with ((with_reducible show wpList _ _ _ (⟨_, .store 24 _ _, _, _, _, none⟩ :: _) _ _); (with_reducible refine wpBlk_store (g := g7) (cs := (msgV x)) agg_msg ?_ ?_ K7 ?_ ?_ ?_ ?_); (· exact wanted0 rfl); (· exact ⟨rfl, rfl, rfl⟩); (· exact msgV_size _); (· exact msgV_size _); (· exact msgV_one _); refine Marker.mk ?_)
  refine Marker.in ?_
  replace K6 := Lib.hid (K6.out.setRow_other g7 (msgV x) (by omega))
  replace K7 := Lib.hid (K7.out.setRow (msgV x))
  replace BB := Lib.hid (below_setRow (g := g7) BB.out (by omega) (msgV x))
  generalize w5.setRow g7 (msgV x) = w6 at *
  have l7 := K7.out.lt
  have cb := cell_msg K7.out 11 (by omega) (by omega)
  have fb := K7.out.frozen 11
  go_wp2_with ((with_reducible show wpList _ _ _ (⟨some 43, .load 24 _, _, _, _, none⟩ :: _) _ _); refine Marker.mk ?_)
  refine Marker.in ?_
  clear cb fb
  replace K6 := Lib.hid (K6.out.other g7 11 (.int .i64 32768) (by omega))
  replace K7 := Lib.hid (blk_setMsg K7.out HX.out.1 11 (by omega) (by omega) 32768)
  replace BB := Lib.hid (BB.out.setCell (p := ⟨g7, 11, none⟩) (by simp only; omega) (.int .i64 32768))
  generalize w6.setCell ⟨g7, 11, none⟩ (.int .i64 32768) = w7 at *
  go_wp2_with ((with_reducible show wpList _ _ _ (⟨_, .load 24 _, _, _, _, none⟩ :: _) _ _); (with_reducible refine wpBlk_load (g := g7) agg_msg ?_ ?_ K7 ?_ ?_); (· exact wanted0 rfl); (· exact ⟨rfl, rfl⟩); (· exact msgV_size _))
  ((with_reducible refine (PM1.out _).mono ?_))
  rintro e w8 ⟨hp, b8⟩
  rw [N1.out] at hp
  obtain rfl := hp
  replace K6 := Lib.hid (K6.out.below b8)
  replace BB := Lib.hid (bt BB.out b8)
  clear b8 PM1 K7
  have l8 := K6.out.lt
  go_wp2_with (first | ((with_reducible show wpList _ _ _ (⟨_, .load 24 _, _, _, _, none⟩ :: _) _ _); (with_reducible refine wpBlk_load (g := g6) agg_msg ?_ ?_ K6 ?_ ?_); (· exact wanted0 rfl); (· exact ⟨rfl, rfl⟩); (· exact msgV_size _)) | ((with_reducible show wpList _ _ _ (⟨_, .alloc 24, _, _, _, none⟩ :: _) _ _); (with_reducible refine wpRow_alloc zeroT_msgz ?_ ?_ ?_); (· exact wanted0 rfl); (· rfl); refine Marker.mk ?_))
  refine Marker.in ?_
  have bel := below_alloc1 w8 (.cells (msgV (z12 0)) 24)
  replace K6 := Lib.hid (K6.out.below bel)
  replace BB := Lib.hid (bt BB.out bel)
  have K10 := Lib.hid (Blk.new w8 (msgV (z12 0)) 24)
  clear bel
  generalize w8.alloc (.cells (msgV (z12 0)) 24) = w9 at *
  generalize w8.heap.size = g10 at *
  go_wp2_with ((with_reducible show wpList _ _ _ (⟨_, .store 24 _ _, _, _, _, none⟩ :: _) _ _); (with_reducible refine wpBlk_store (g := g10) (cs := (msgV x)) agg_msg ?_ ?_ K10 ?_ ?_ ?_ ?_); (· exact wanted0 rfl); (· exact ⟨rfl, rfl, rfl⟩); (· exact msgV_size _); (· exact msgV_size _); (· exact msgV_one _); refine Marker.mk ?_)
  refine Marker.in ?_
  replace K6 := Lib.hid (K6.out.setRow_other g10 (msgV x) (by omega))
  replace K10 := Lib.hid (K10.out.setRow (msgV x))
  replace BB := Lib.hid (below_setRow (g := g10) BB.out (by omega) (msgV x))
  generalize w9.setRow g10 (msgV x) = w10 at *
  have l10 := K10.out.lt
  have c0 := cell_msg K6.out 0 (by omega) (by omega)
  rw [← HK.out] at c0
  have hh : (k = 1 ∨ k = 2) ∨ ¬ (k = 1 ∨ k = 2) := Classical.em _
  rcases hh with (h1 | h1) | h1
  · have N2 := Lib.hid (put8_seq x HX.out.1 (by rw [← HK.out]; exact .inl h1))
    have PM2 := Lib.hid (fun W => put_msg (x.set 1 1) W (isMsg_set HX.out 1 1 (by omega)))
    have q1 : (k == 1) = true := by simp [h1]
    clear h1
    have cb := cell_msg K10.out 1 (by omega) (by omega)
    have fb := K10.out.frozen 1
    go_wp2_with ((with_reducible show wpList _ _ _ (⟨some 60, .load 24 _, _, _, _, none⟩ :: _) _ _); refine Marker.mk ?_)
    refine Marker.in ?_
    clear cb fb c0
    replace K10 := Lib.hid (blk_setMsg K10.out HX.out.1 1 (by omega) (by omega) 1)
    replace BB := Lib.hid (BB.out.setCell (p := ⟨g10, 1, none⟩) (by simp only; omega) (.int .i64 1))
    generalize w10.setCell ⟨g10, 1, none⟩ (.int .i64 1) = w11 at *
    go_wp2_with ((with_reducible show wpList _ _ _ (⟨_, .load 24 _, _, _, _, none⟩ :: _) _ _); (with_reducible refine wpBlk_load (g := g10) agg_msg ?_ ?_ K10 ?_ ?_); (· exact wanted0 rfl); (· exact ⟨rfl, rfl⟩); (· exact msgV_size _))
    ((with_reducible refine (PM2.out _).mono ?_))
    rintro e w12 ⟨hp, b12⟩
    rw [N2.out] at hp
    obtain rfl := hp
    replace BB := Lib.hid (bt BB.out b12)
    clear b12 PM2
    go_wp2_with fail
    go_ret
    exact ⟨rfl, BB.out⟩
  · have N2 := Lib.hid (put8_seq x HX.out.1 (by rw [← HK.out]; exact .inr h1))
    have PM2 := Lib.hid (fun W => put_msg (x.set 1 1) W (isMsg_set HX.out 1 1 (by omega)))
    have q1 : (k == 1) = false := by simp [h1]
    have q2 : (k == 2) = true := by simp [h1]
    clear h1
    have cb := cell_msg K10.out 1 (by omega) (by omega)
    have fb := K10.out.frozen 1
    go_wp2_with ((with_reducible show wpList _ _ _ (⟨some 60, .load 24 _, _, _, _, none⟩ :: _) _ _); refine Marker.mk ?_)
    refine Marker.in ?_
    clear cb fb c0
    replace K10 := Lib.hid (blk_setMsg K10.out HX.out.1 1 (by omega) (by omega) 1)
    replace BB := Lib.hid (BB.out.setCell (p := ⟨g10, 1, none⟩) (by simp only; omega) (.int .i64 1))
    generalize w10.setCell ⟨g10, 1, none⟩ (.int .i64 1) = w11 at *
    go_wp2_with ((with_reducible show wpList _ _ _ (⟨_, .load 24 _, _, _, _, none⟩ :: _) _ _); (with_reducible refine wpBlk_load (g := g10) agg_msg ?_ ?_ K10 ?_ ?_); (· exact wanted0 rfl); (· exact ⟨rfl, rfl⟩); (· exact msgV_size _))
    ((with_reducible refine (PM2.out _).mono ?_))
    rintro e w12 ⟨hp, b12⟩
    rw [N2.out] at hp
    obtain rfl := hp
    replace BB := Lib.hid (bt BB.out b12)
    clear b12 PM2
    go_wp2_with fail
    go_ret
    exact ⟨rfl, BB.out⟩
  · have N2 := Lib.hid (put8_role x HX.out.1 (by rw [← HK.out]; exact h1))
    have PM2 := Lib.hid (fun W => put_msg (x.set 2 1) W (isMsg_set HX.out 2 1 (by omega)))
    have q1 : (k == 1) = false := by simp; omega
    have q2 : (k == 2) = false := by simp; omega
    clear h1
    have cb := cell_msg K10.out 2 (by omega) (by omega)
    have fb := K10.out.frozen 2
    go_wp2_with ((with_reducible show wpList _ _ _ (⟨some 60, .load 24 _, _, _, _, none⟩ :: _) _ _); refine Marker.mk ?_)
    refine Marker.in ?_
    clear cb fb c0
    replace K10 := Lib.hid (blk_setMsg K10.out HX.out.1 2 (by omega) (by omega) 1)
    replace BB := Lib.hid (BB.out.setCell (p := ⟨g10, 2, none⟩) (by simp only; omega) (.int .i64 1))
    generalize w10.setCell ⟨g10, 2, none⟩ (.int .i64 1) = w11 at *
    go_wp2_with ((with_reducible show wpList _ _ _ (⟨_, .load 24 _, _, _, _, none⟩ :: _) _ _); (with_reducible refine wpBlk_load (g := g10) agg_msg ?_ ?_ K10 ?_ ?_); (· exact wanted0 rfl); (· exact ⟨rfl, rfl⟩); (· exact msgV_size _))
    ((with_reducible refine (PM2.out _).mono ?_))
    rintro e w12 ⟨hp, b12⟩
    rw [N2.out] at hp
    obtain rfl := hp
    replace BB := Lib.hid (bt BB.out b12)
    clear b12 PM2
    go_wp2_with fail
    go_ret
    exact ⟨rfl, BB.out⟩
theorem walk_MsgFields (v0 v1 : Value) (w : World) (q0 : ∃ base, Value.okWide Try.prog w .any base 24 v0) (q1 : ∃ n : Int, v1 = .int .u8 n ∧ 0 ≤ n ∧ n ≤ 255) :
    Calls Try.prog 3 #[v0, v1] w fun e w' => e = .returned (.bool true) ∧ Below w.heap.size w w' := by
  obtain ⟨base, q0⟩ := q0
  obtain ⟨wh, rfl, y0, y1⟩ := q1
  obtain ⟨l, hl, rfl⟩ := msg_of _ _ _ q0
  rcases (show wh % 7 = 0 ∨ wh % 7 = 1 ∨ wh % 7 = 2 ∨ wh % 7 = 3 ∨ wh % 7 = 4 ∨ wh % 7 = 5 ∨ wh % 7 = 6 by omega) with hk | hk | hk | hk | hk | hk | hk
  · exact msgFields_0 l hl wh w y0 y1 hk
  · exact msgFields_1 l hl wh w y0 y1 hk
  · exact msgFields_2 l hl wh w y0 y1 hk
  · exact msgFields_3 l hl wh w y0 y1 hk
  · exact msgFields_4 l hl wh w y0 y1 hk
  · exact msgFields_5 l hl wh w y0 y1 hk
  · rcases (show wh % 4 = 0 ∨ wh % 4 = 1 ∨ wh % 4 = 2 ∨ wh % 4 = 3 by omega) with hk2 | hk2 | hk2 | hk2
    · exact msgFields_60 l hl wh w y0 y1 hk hk2
    · exact msgFields_61 l hl wh w y0 y1 hk hk2
    · exact msgFields_62 l hl wh w y0 y1 hk hk2
    · exact msgFields_63 l hl wh w y0 y1 hk hk2
end Go.Proofs.Ytakahkpogooepaa
