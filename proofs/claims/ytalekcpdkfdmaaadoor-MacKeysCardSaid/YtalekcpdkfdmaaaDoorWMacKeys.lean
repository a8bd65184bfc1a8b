/- The walk of MacKeys. -/
import Derived.Test.YtalekcpdkfdmaaaDoorEqB
import Derived.Test.YtalekcpdkfdmaaaDoorApp
namespace Go.Proofs.YtalekcpdkfdmaaaDoor
open Go.RowKit

set_option maxRecDepth 100000 in
set_option maxHeartbeats 800000 in
theorem walk_MacKeys (v0 v1 v2 : Value) (w : World) (hR : Roots w) (q0 : IsRow .u8 w v0) (q1 : IsRow .u8 w v1) (q2 : ∃ n : Int, v2 = .int .u8 n ∧ 0 ≤ n ∧ n ≤ 255) :
    Calls Tryd.prog 8 #[v0, v1, v2] w fun e w' => e = .returned (.bool true) ∧ Below w.heap.size w w' := by
  obtain ⟨q, rfl, hq0, hq1⟩ := q2
  obtain ⟨A, k, n, c, hn, n3, n1, n2, hk, hA, hf⟩ := few_of (k := 150) q0 few05
  obtain ⟨B, x, m, d, hm, m3, m1, m2, hx, hB, hg⟩ := few_of (k := 150) q1 few05
  have HF := Lib.hid hf
  have HG := Lib.hid hg
  have HN := Lib.hid hn
  have HM := Lib.hid hm
  have HK := Lib.hid hk
  have HX := Lib.hid hx
  have RT := Lib.hid hR
  have BB := Lib.hid (Below.refl w.heap.size w)
  clear hf hg hn hm hk hx hR q0 q1
  go_enter Tryd.func8, Tryd.ntmps8
  go_wp2_with fail
  ((with_reducible refine (shown05 _ RT.out).mono ?_))
  rintro e w1 ⟨rfl, b1⟩
  replace BB := Lib.hid (bt BB.out b1)
  clear b1
  go_wp2_with fail
  ((with_reducible refine (HF.out _).mono ?_))
  rintro e w2 ⟨rfl, rfl⟩
  go_wp2_with fail
  ((with_reducible refine (HG.out _).mono ?_))
  rintro e w2 ⟨rfl, rfl⟩
  by_cases hlong : 64 < n
  · have tl : decide ((64 : Int) < (n : Int)) = true := decide_eq_true (by omega)
    go_wp2_with fail
    ((with_reducible refine (sum_any A k n c _ HN.out (row_below HK.out BB.out) (by omega) (RT.out.below BB.out)).mono ?_))
    rintro e w2 ⟨rfl, b2⟩
    replace BB := Lib.hid (bt BB.out b2)
    have z2 : w.heap.size ≤ w2.heap.size := BB.out.size
    clear b2 tl
    have SL := sha_len k
    have SB := sha_bytes k
    have KE : hmac (sha k) x = hmac k x := by unfold hmac; rw [key64_sum k (by rw [HN.out]; exact hlong)]
    generalize sha k = h at *
    replace SL := Lib.hid SL
    replace SB := Lib.hid SB
    go_wp2_with ((with_reducible show wpList _ _ _ (⟨_, .alloc 28, _, _, _, none⟩ :: _) _ _); (with_reducible refine wpRow_alloc zeroT_b32 ?_ ?_ ?_); (· exact wanted0 rfl); (· rfl); refine Marker.mk ?_)
    refine Marker.in ?_
    have bel := below_alloc1 w2 (.cells (u8V (zeros 32)) 28)
    replace BB := Lib.hid (bt BB.out bel)
    have KS := Lib.hid (Blk.new w2 (u8V (zeros 32)) 28)
    clear bel
    generalize w2.alloc (.cells (u8V (zeros 32)) 28) = w3 at *
    generalize w2.heap.size = gs at *
    go_wp2_with ((with_reducible show wpList _ _ _ (⟨_, .store 28 _ _, _, _, _, none⟩ :: _) _ _); (with_reducible refine wpBlk_store (g := gs) (cs := u8V h) agg_b32 ?_ ?_ KS ?_ ?_ ?_ ?_); (· exact wanted0 rfl); (· exact ⟨rfl, rfl, rfl⟩); (· rw [u8V_size, zeros_len]); (· rw [u8V_size, SL.out]); (· exact u8V_one _); refine Marker.mk ?_)
    refine Marker.in ?_
    replace KS := Lib.hid (KS.out.setRow (u8V h))
    replace BB := Lib.hid (below_setRow (g := gs) BB.out (by omega) (u8V h))
    generalize w3.setRow gs (u8V h) = w4 at *
    have C1 := fun (W : World) (hb : Below w.heap.size w W) => of_any A B k x n m c d W HN.out HM.out (row_below HK.out hb) (row_below HX.out hb) (by omega) (by omega) (RT.out.below hb)
    have R1 : Row w4 (some ⟨gs, 0, none⟩) h := u8V_row KS.out SB.out
    have C2 := fun (W : World) (hb : Below w.heap.size w W) (hr : Row W (some ⟨gs, 0, none⟩) h) => of_any (some ⟨gs, 0, none⟩) B h x 32 m 32 d W SL.out HM.out hr (row_below HX.out hb) (by omega) (by omega) (RT.out.below hb)
    rw [KE] at C2
    have AL := hmac_len k x
    generalize hmac k x = t at *
    have CA := Lib.hid C1
    have CB := Lib.hid C2
    replace R1 := Lib.hid R1
    have EQ := eql_b32_self t AL
    clear C1 C2 KE AL
    go_wp2_with fail
    refine wp_region_ext (by kernel_rfl) (by kernel_rfl) ?_
    repeat (first
      | go_big_quiet_skip
      | (go_big_quiet_want
         first
           | (go_big_quiet_op
              first
                | go_big_quiet_on
                | go_big_quiet_call (((first | ((with_reducible refine ext_of (CA.out _ ?_)); exact BB.out.trans (Below.mono (exw_bel _) BB.out.size)) | ((with_reducible refine ext_of (CB.out _ ?_ ?_)); (· exact BB.out.trans (Below.mono (exw_bel _) BB.out.size)); exact exw_row R1.out _)))))))
    refine wpQuiet_nil ?_
    intro _ hw'
    obtain ⟨y, rfl⟩ := hw'
    replace BB := Lib.hid (bt BB.out (exw_bel y))
    generalize exw w4 y = w5 at *
    go_wp2_with fail
    go_ret
    exact ⟨rfl, BB.out⟩
  · have tl : decide ((64 : Int) < (n : Int)) = false := decide_eq_false (by omega)
    have ba : ∀ o, Below w.heap.size w (w1.alloc o) := fun o => BB.out.trans (Below.mono ((Below.refl _ _).alloc (Nat.le_refl _) o) BB.out.size)
    replace ba := Lib.hid ba
    have z1 : w.heap.size ≤ w1.heap.size := BB.out.size
    go_wp2_with ((at_builtin; refine wpList_append_bytes _ rfl (.tmp 33) (.tmp 34) rfl w.heap.size _ 0 0 [] rfl rfl (own_lit w1 _ z1) A c n k HN.out rfl (row_below HK.out (ba.out _)) (by omega) (ba.out _).size ?_; intro A1 cap1 w4 o1 b4; refine Marker.mk ?_))
    refine Marker.in ?_
    rw [List.nil_append] at o1
    try rw [Nat.zero_add]
    replace BB := Lib.hid ((ba.out _).trans b4)
    replace o1 := Lib.hid o1
    clear ba b4 tl
    go_wp2_with fail
    go_loopw [11, 12] (fun x y wr => ∃ (j : Nat) (A : Option Addr) (cp l : Nat), n + j = l ∧ l ≤ 64 ∧ (j : Int) ≤ q ∧ y = .int .i64 j ∧ x = .slice A l cp ∧ Own wr w.heap.size A cp (k ++ zeros j) ∧ Below w.heap.size w wr) (fun _ y _ => 64 - (intOf y).toNat)
    case atStart => exact ⟨0, A1, cap1, n, rfl, by omega, by omega, rfl, rfl, by rw [show zeros 0 = [] from rfl, List.append_nil]; exact o1.out, BB.out⟩
    case round =>
      clear o1 BB
      obtain ⟨j, A2, cp, l, hl, hl2, hjq, rfl, rfl, o2, BB⟩ := hrel
      have O2 := Lib.hid o2
      replace BB := Lib.hid BB
      have CL : Hid ((k ++ zeros j).length = l) := Lib.hid (by rw [List.length_append, HN.out, zeros_len]; exact hl)
      have zr : w.heap.size ≤ wr.heap.size := BB.out.size
      clear o2
      by_cases h1 : (j : Int) < q
      · by_cases h2 : l < 64
        · have t1 : decide ((j : Int) < q) = true := decide_eq_true h1
          have t2 : decide ((l : Int) < 64) = true := decide_eq_true (by omega)
          have ES : (k ++ zeros j) ++ [0] = k ++ zeros (j + 1) := by rw [List.append_assoc]; congr 1; exact List.replicate_succ'.symm
          replace ES := Lib.hid ES
          have bel := Lib.hid (below_alloc1 wr (.cells #[.int .u8 0] 5))
          go_wp2_with ((at_builtin; refine wpList_append_bytes _ rfl (.tmp 47) (.tmp 48) rfl w.heap.size A2 cp l (k ++ zeros j) CL.out rfl (own_below O2.out bel.out) (some ⟨wr.heap.size, 0, none⟩) 1 1 [0] rfl rfl (one_nought wr) (by omega) (Nat.le_trans zr bel.out.size) ?_; intro A3 cap3 w5 o3 b5))
          rw [ES.out] at o3
          exact ⟨⟨j + 1, A3, cap3, l + 1, by omega, by omega, by omega, by simp, rfl, o3, (bt BB.out bel.out).trans b5⟩, by simp [intOf]; omega⟩
        · have t1 : decide ((j : Int) < q) = true := decide_eq_true h1
          have t2 : decide ((l : Int) < 64) = false := decide_eq_false (by omega)
          have KE : hmac (k ++ zeros j) x = hmac k x := by unfold hmac; rw [key64_more k j (by rw [HN.out]; omega)]
          have C1 := fun (W : World) (hb : Below w.heap.size w W) => of_any A B k x n m c d W HN.out HM.out (row_below HK.out hb) (row_below HX.out hb) (by omega) (by omega) (RT.out.below hb)
          have C2 := fun (W : World) (hb : Below w.heap.size w W) (hr : Row W A2 (k ++ zeros j)) => of_any A2 B (k ++ zeros j) x l m cp d W CL.out HM.out hr (row_below HX.out hb) (by omega) (by omega) (RT.out.below hb)
          have C3 := fun (W : World) (hb : Below w.heap.size w W) => tag_any A B k x n m c d W HN.out HM.out (row_below HK.out hb) (row_below HX.out hb) (by omega) (by omega) (RT.out.below hb)
          have C4 := fun (W : World) (hb : Below w.heap.size w W) (hr : Row W A2 (k ++ zeros j)) => tag_any A2 B (k ++ zeros j) x l m cp d W CL.out HM.out hr (row_below HX.out hb) (by omega) (by omega) (RT.out.below hb)
          rw [KE] at C2 C4
          have R1 := Lib.hid O2.out.row
          have AL := hmac_len k x
          generalize hmac k x = t at *
          have TL : (t.take 8).length = 8 := by rw [List.length_take, AL]; rfl
          have EQ := eql_b32_self t AL
          have EQ2 := eql_b8_self (t.take 8) TL
          generalize t.take 8 = t8 at *
          generalize k ++ zeros j = k2 at *
          have CA := Lib.hid C1
          have CB := Lib.hid C2
          have CC := Lib.hid C3
          have CD := Lib.hid C4
          clear C1 C2 C3 C4 KE AL TL CL O2
          go_wp2_with fail
          ((with_reducible refine (CA.out _ BB.out).mono ?_))
          rintro e w5 ⟨rfl, b5⟩
          replace BB := Lib.hid (bt BB.out b5)
          replace R1 := Lib.hid (row_below R1.out b5)
          clear b5
          go_wp2_with fail
          ((with_reducible refine (CB.out _ BB.out R1.out).mono ?_))
          rintro e w5 ⟨rfl, b5⟩
          replace BB := Lib.hid (bt BB.out b5)
          replace R1 := Lib.hid (row_below R1.out b5)
          clear b5
          go_wp2_with fail
          ((with_reducible refine (CC.out _ BB.out).mono ?_))
          rintro e w5 ⟨rfl, b5⟩
          replace BB := Lib.hid (bt BB.out b5)
          replace R1 := Lib.hid (row_below R1.out b5)
          clear b5
          go_wp2_with fail
          ((with_reducible refine (CD.out _ BB.out R1.out).mono ?_))
          rintro e w5 ⟨rfl, b5⟩
          replace BB := Lib.hid (bt BB.out b5)
          replace R1 := Lib.hid (row_below R1.out b5)
          clear b5
          go_wp2_with fail
          go_ret
          exact ⟨rfl, BB.out⟩
      · have t1 : decide ((j : Int) < q) = false := decide_eq_false h1
        have KE : hmac (k ++ zeros j) x = hmac k x := by unfold hmac; rw [key64_more k j (by rw [HN.out]; omega)]
        have C1 := fun (W : World) (hb : Below w.heap.size w W) => of_any A B k x n m c d W HN.out HM.out (row_below HK.out hb) (row_below HX.out hb) (by omega) (by omega) (RT.out.below hb)
        have C2 := fun (W : World) (hb : Below w.heap.size w W) (hr : Row W A2 (k ++ zeros j)) => of_any A2 B (k ++ zeros j) x l m cp d W CL.out HM.out hr (row_below HX.out hb) (by omega) (by omega) (RT.out.below hb)
        have C3 := fun (W : World) (hb : Below w.heap.size w W) => tag_any A B k x n m c d W HN.out HM.out (row_below HK.out hb) (row_below HX.out hb) (by omega) (by omega) (RT.out.below hb)
        have C4 := fun (W : World) (hb : Below w.heap.size w W) (hr : Row W A2 (k ++ zeros j)) => tag_any A2 B (k ++ zeros j) x l m cp d W CL.out HM.out hr (row_below HX.out hb) (by omega) (by omega) (RT.out.below hb)
        rw [KE] at C2 C4
        have R1 := Lib.hid O2.out.row
        have AL := hmac_len k x
        generalize hmac k x = t at *
        have TL : (t.take 8).length = 8 := by rw [List.length_take, AL]; rfl
        have EQ := eql_b32_self t AL
        have EQ2 := eql_b8_self (t.take 8) TL
        generalize t.take 8 = t8 at *
        generalize k ++ zeros j = k2 at *
        have CA := Lib.hid C1
        have CB := Lib.hid C2
        have CC := Lib.hid C3
        have CD := Lib.hid C4
        clear C1 C2 C3 C4 KE AL TL CL O2
        go_wp2_with fail
        ((with_reducible refine (CA.out _ BB.out).mono ?_))
        rintro e w5 ⟨rfl, b5⟩
        replace BB := Lib.hid (bt BB.out b5)
        replace R1 := Lib.hid (row_below R1.out b5)
        clear b5
        go_wp2_with fail
        ((with_reducible refine (CB.out _ BB.out R1.out).mono ?_))
        rintro e w5 ⟨rfl, b5⟩
        replace BB := Lib.hid (bt BB.out b5)
        replace R1 := Lib.hid (row_below R1.out b5)
        clear b5
        go_wp2_with fail
        ((with_reducible refine (CC.out _ BB.out).mono ?_))
        rintro e w5 ⟨rfl, b5⟩
        replace BB := Lib.hid (bt BB.out b5)
        replace R1 := Lib.hid (row_below R1.out b5)
        clear b5
        go_wp2_with fail
        ((with_reducible refine (CD.out _ BB.out R1.out).mono ?_))
        rintro e w5 ⟨rfl, b5⟩
        replace BB := Lib.hid (bt BB.out b5)
        replace R1 := Lib.hid (row_below R1.out b5)
        clear b5
        go_wp2_with fail
        go_ret
        exact ⟨rfl, BB.out⟩
end Go.Proofs.YtalekcpdkfdmaaaDoor
