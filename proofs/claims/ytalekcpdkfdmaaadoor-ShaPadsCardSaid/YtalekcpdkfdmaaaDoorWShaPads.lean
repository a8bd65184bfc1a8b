/- The walk of ShaPads. -/
import Derived.Test.YtalekcpdkfdmaaaDoorShaC
import Derived.Test.YtalekcpdkfdmaaaDoorConv
import Derived.Test.YtalekcpdkfdmaaaDoorBe
namespace Go.Proofs.YtalekcpdkfdmaaaDoor
open Go.RowKit

theorem getD_append_right' (a b : List Int) (i : Nat) (h : a.length ≤ i) : (a ++ b).getD i 0 = b.getD (i - a.length) 0 := by
  simp only [List.getD_eq_getElem?_getD]
  rw [List.getElem?_append_right h]
theorem padL_mark (x : List Int) : (padL x).getD x.length 0 = 128 := by
  unfold padL
  rw [getD_append_right' _ _ _ (Nat.le_refl _), Nat.sub_self]; rfl
theorem padL_nought (x : List Int) (k : Nat) (h : x.length + 1 + k < wholeOf x.length - 8) : (padL x).getD (x.length + 1 + k) 0 = 0 := by
  unfold padL
  rw [getD_append_right' _ _ _ (by omega), show x.length + 1 + k - x.length = k + 1 by omega, List.getD_cons_succ]
  simp only [List.getD_eq_getElem?_getD]
  rw [List.getElem?_append_left (by simp; omega)]
  simp only [List.getElem?_replicate]
  split <;> rfl
theorem be_getD (n : Int) (k i : Nat) (h : i < k) : (be n k).getD i 0 = n / 2 ^ (8 * (k - 1 - i)) % 256 := by
  simp [be, h]
theorem padL_tail (x : List Int) (k : Nat) (h : k < 8) : (padL x).getD (wholeOf x.length - 8 + k) 0 = (x.length : Int) * 8 / 2 ^ (8 * (7 - k)) % 256 := by
  have hw := wholeOf_le x.length
  unfold padL
  rw [getD_append_right' _ _ _ (by omega), show wholeOf x.length - 8 + k - x.length = (wholeOf x.length - x.length - 9 + k) + 1 by omega, List.getD_cons_succ, getD_append_right' _ _ _ (by simp), List.length_replicate, show wholeOf x.length - x.length - 9 + k - (wholeOf x.length - x.length - 9) = k by omega, be_getD _ _ _ h]
theorem many_step (N : Int) (k : Nat) (h0 : 0 ≤ N) (h1 : N ≤ 2400) (hk : k < 8) : 256 * (N / 2 ^ (8 * (8 - k))) + N / 2 ^ (8 * (7 - k)) % 256 = N / 2 ^ (8 * (8 - (k + 1))) := by
  rcases (show k = 0 ∨ k = 1 ∨ k = 2 ∨ k = 3 ∨ k = 4 ∨ k = 5 ∨ k = 6 ∨ k = 7 by omega) with rfl | rfl | rfl | rfl | rfl | rfl | rfl | rfl
  · show 256 * (N / 18446744073709551616) + N / 72057594037927936 % 256 = N / 72057594037927936; omega
  · show 256 * (N / 72057594037927936) + N / 281474976710656 % 256 = N / 281474976710656; omega
  · show 256 * (N / 281474976710656) + N / 1099511627776 % 256 = N / 1099511627776; omega
  · show 256 * (N / 1099511627776) + N / 4294967296 % 256 = N / 4294967296; omega
  · show 256 * (N / 4294967296) + N / 16777216 % 256 = N / 16777216; omega
  · show 256 * (N / 16777216) + N / 65536 % 256 = N / 65536; omega
  · show 256 * (N / 65536) + N / 256 % 256 = N / 256; omega
  · show 256 * (N / 256) + N / 1 % 256 = N / 1
    rw [Int.ediv_one]; omega
theorem many_small (N : Int) (k : Nat) (h0 : 0 ≤ N) (h1 : N ≤ 2400) : 0 ≤ N / 2 ^ (8 * (8 - k)) ∧ N / 2 ^ (8 * (8 - k)) ≤ 2400 := by
  have hp : (0 : Int) < 2 ^ (8 * (8 - k)) := by rw [pow8]; exact pow256_pos _
  refine ⟨Int.ediv_nonneg h0 (Int.le_of_lt hp), ?_⟩
  have := Int.ediv_le_self (2 ^ (8 * (8 - k))) h0
  omega
theorem padL_take (x : List Int) : (padL x).take x.length = x := by unfold padL; simp
/-- rows of bytes that are filled up alike are alike -/
theorem padL_inj (x y : List Int) (hx : x.length ≤ 300) (hy : y.length ≤ 300) (h : padL x = padL y) : x = y := by
  have h1 := padL_len x
  have h2 := padL_len y
  rw [h] at h1
  have hw : wholeOf x.length = wholeOf y.length := by omega
  have hl : x.length = y.length := by
    have a := padL_tail x 7 (by omega)
    have b := padL_tail y 7 (by omega)
    have a2 := padL_tail x 6 (by omega)
    have b2 := padL_tail y 6 (by omega)
    rw [h, hw] at a a2
    rw [a] at b
    rw [a2] at b2
    have b' : (x.length : Int) * 8 % 256 = (y.length : Int) * 8 % 256 := by simpa using b
    have b2' : (x.length : Int) * 8 / 256 % 256 = (y.length : Int) * 8 / 256 % 256 := b2
    omega
  rw [← padL_take x, ← padL_take y, h, hl]

def RPads (gp W n c m d V : Nat) (A D : Option Addr) (P S x y : List Int) (b : Bool) (i : Nat) (v : Value) (w : World) : Prop := match i with
  | 0 => v = .int .i64 ((n : Int) * 8)
  | 1 => v = .int .i64 (n : Int)
  | 2 => v = .int .i64 ((n : Int) * 8)
  | 3 => v = .bool true
  | 4 => v = .bool true
  | 5 => v = .slice (some ⟨gp, 0, none⟩) W W
  | 6 => v = .string (strOfNums P)
  | 7 => v = .slice D m d
  | 8 => ∃ g, v = .slice (some ⟨g, 0, none⟩) V V ∧ Row w (some ⟨g, 0, none⟩) S
  | 9 => v = .string (strOfNums S)
  | 10 => v = .bool b
  | 11 => v = .slice A n c
  | 12 => v = .string (strOfNums x)
  | 13 => v = .slice D m d
  | 14 => v = .string (strOfNums y)
  | 15 => v = .bool b
  | 16 => v = .bool true
  | 17 => v = .bool true
  | 18 => v = .bool true
  | _ => True
theorem RPads_keep (gp W n c m d V : Nat) (A D : Option Addr) (P S x y : List Int) (b : Bool) : ∀ i v w w', i < 19 → RPads gp W n c m d V A D P S x y b i v w → Below w.heap.size w w' → RPads gp W n c m d V A D P S x y b i v w' := by
  intro i v w w' hi h hb
  match i, hi with
  | 8, _ =>
    obtain ⟨g, e, r⟩ := h
    exact ⟨g, e, row_below r hb⟩
  | 0, _ => exact h
  | 1, _ => exact h
  | 2, _ => exact h
  | 3, _ => exact h
  | 4, _ => exact h
  | 5, _ => exact h
  | 6, _ => exact h
  | 7, _ => exact h
  | 9, _ => exact h
  | 10, _ => exact h
  | 11, _ => exact h
  | 12, _ => exact h
  | 13, _ => exact h
  | 14, _ => exact h
  | 15, _ => exact h
  | 16, _ => exact h
  | 17, _ => exact h
  | 18, _ => exact h
  | _ + 19, hi => exact absurd hi (by omega)
set_option maxRecDepth 100000 in
set_option maxHeartbeats 800000 in
theorem walk_ShaPads (v0 v1 : Value) (w : World) (hR : Roots w) (q0 : IsRow .u8 w v0) (q1 : IsRow .u8 w v1) :
    Calls Tryd.prog 4 #[v0, v1] w fun e w' => e = .returned (.bool true) ∧ Below w.heap.size w w' := by
  obtain ⟨A, x, n, c, hn, n3, n1, n2, hx, hA, hf⟩ := few_of (k := 300) q0 few04
  obtain ⟨D, y, m, d, hm, m3, m1, m2, hy, hD, hg⟩ := few_of (k := 300) q1 few04
  have HN := Lib.hid hn
  have HX := Lib.hid hx
  have HF := Lib.hid hf
  have HM := Lib.hid hm
  have HY := Lib.hid hy
  have HG := Lib.hid hg
  have RT := Lib.hid hR
  have BB := Lib.hid (Below.refl w.heap.size w)
  clear hn hx hf hm hy hg hR q0 q1
  go_enter Tryd.func4, Tryd.ntmps4
  go_wp2_with fail
  ((with_reducible refine (shown04 _ RT.out).mono ?_))
  rintro e w1 ⟨rfl, b1⟩
  replace BB := Lib.hid (bt BB.out b1)
  have l1 := b1.size
  clear b1
  go_wp2_with fail
  ((with_reducible refine (HF.out _).mono ?_))
  rintro e w2 ⟨rfl, rfl⟩
  go_wp2_with fail
  ((with_reducible refine (HG.out _).mono ?_))
  rintro e w2 ⟨rfl, rfl⟩
  go_wp2_with fail
  ((with_reducible refine (pad_any A x n c _ HN.out (row_below HX.out BB.out) (by omega)).mono ?_))
  rintro e w3 ⟨rfl, KP, b3⟩
  replace BB := Lib.hid (bt BB.out b3)
  have gp_lt := KP.lt
  generalize w1.heap.size = gp at *
  clear b3
  obtain ⟨W, hW⟩ : ∃ W, wholeOf n = W := ⟨_, rfl⟩
  have hW1 : ((n : Int) + 9 + 63) / 64 * 64 = (W : Int) := by rw [← hW]; unfold wholeOf; omega
  have hW2 : n + 9 ≤ W := by rw [← hW]; exact wholeOf_le n
  have hW3 : W ≤ 384 := by rw [← hW]; unfold wholeOf; omega
  have hPl : (padL x).length = W := by rw [padL_len, HN.out, hW]
  have hPb := padL_bytes x HX.out.2
  have rp : Row w3 (some ⟨gp, 0, none⟩) (padL x) := u8V_row KP hPb
  have rpn := row_take rp n
  have e1 : (padL x).take n = x := by rw [← HN.out, padL_take]
  rw [e1] at rpn
  have c1 := conv_drewN n W HN.out rpn
  have c2 := conv_drewN n c HN.out (row_below HX.out BB.out)
  have c3 := KP.cell n
  rw [u8V_get _ _ (by omega)] at c3
  have e3 := padL_mark x
  rw [HN.out] at e3
  rw [e3] at c3
  rw [hW]
  replace KP := Lib.hid KP
  have HW := Lib.hid hW
  have HPL := Lib.hid hPl
  have RP := Lib.hid rp
  clear hW hPl hPb rp rpn e1 e3
  go_wp2_with fail
  go_quiet (fail)
  clear c1 c2 c3
  replace KP := Lib.hid (KP.out.drewN nq)
  replace RP := Lib.hid (show Row (w3.drewN nq) (some ⟨gp, 0, none⟩) (padL x) from RP.out)
  have BB := Lib.hid (below_drewN BB.out nq)
  generalize w3.drewN nq = w4 at *
  go_wp2_with fail
  go_loop [10, 11] (fun z y => ∃ k : Nat, k ≤ 8 ∧ y = .int .i64 ((W : Int) - 8 + (k : Int)) ∧ z = .int .i64 ((n : Int) * 8 / 2 ^ (8 * (8 - k)))) (fun _ y => W - (intOf y).toNat)
  case atStart => exact ⟨0, by omega, by simp, by
    rw [show (n : Int) * 8 / 2 ^ (8 * (8 - 0)) = 0 from by show (n : Int) * 8 / 18446744073709551616 = 0; omega]⟩
  case round =>
    obtain ⟨k, hk, rfl, rfl⟩ := hrel
    by_cases hlt : k < 8
    · have cd := KP.out.cell (W - 8 + k)
      rw [u8V_get _ _ (by rw [HPL.out]; omega)] at cd
      have tl := padL_tail x k hlt
      rw [HN.out, HW.out] at tl
      have ST := many_step ((n : Int) * 8) k (by omega) (by omega) hlt
      obtain ⟨s0, s1⟩ := many_small ((n : Int) * 8) k (by omega) (by omega)
      rw [← tl] at ST
      have cb := getD_byte (padL_bytes x HX.out.2) (W - 8 + k)
      generalize (padL x).getD (W - 8 + k) 0 = b at *
      generalize (n : Int) * 8 / 2 ^ (8 * (8 - k)) = z at *
      replace ST := Lib.hid ST
      clear tl
      obtain ⟨cb0, cb1⟩ := cb
      go_wp2_with fail
      exact ⟨⟨k + 1, by omega, by go_num, by rw [ST.out]⟩, by simp [intOf]; omega⟩
    · obtain rfl : k = 8 := by omega
      have e8 : (n : Int) * 8 / 2 ^ (8 * (8 - 8)) = (n : Int) * 8 := by simp
      rw [e8, show ((8 : Nat) : Int) = 8 from rfl]
      clear e8
      go_wp2_with fail
      go_loop [12] (fun y => ∃ k : Nat, n + 1 + k ≤ W - 8 ∧ y = .int .i64 ((n : Int) + 1 + (k : Int))) (fun y => W - (intOf y).toNat)
      case atStart => exact ⟨0, by omega, by simp⟩
      case round =>
        obtain ⟨k, hk, rfl⟩ := hrel
        by_cases hlt2 : n + 1 + k < W - 8
        · have cd := KP.out.cell (n + 1 + k)
          rw [u8V_get _ _ (by rw [HPL.out]; omega)] at cd
          have tl := padL_nought x k (by rw [HN.out, HW.out]; exact hlt2)
          rw [HN.out] at tl
          rw [tl] at cd
          clear tl
          have t1 : (n : Int) + 1 + (k : Int) < (W : Int) - 8 := by omega
          go_wp2_with fail
          exact ⟨⟨k + 1, by omega, by go_num⟩, by simp [intOf]; omega⟩
        · have t1 : ¬ ((n : Int) + 1 + (k : Int) < (W : Int) - 8) := by omega
          go_wp2_with fail
          have ey : ((strOfNums (padL x)).toList == (strOfNums (padL y)).toList) = ((strOfNums x).toList == (strOfNums y).toList) := by
            have hxl := HN.out
            have hyl := HM.out
            rw [str_beq (padL_bytes x HX.out.2) (padL_bytes y HY.out.2), str_beq HX.out.2 HY.out.2]
            exact decide_eq_decide.2 ⟨padL_inj x y (by omega) (by omega), fun h => by rw [h]⟩
          have hV : wholeOf m ≤ 384 := by unfold wholeOf; omega
          obtain ⟨V, hV2⟩ : ∃ V, wholeOf m = V := ⟨_, rfl⟩
          rw [hV2] at hV
          have CPAD := fun (W : World) (hr : Row W D y) => pad_any D y m d W HM.out hr (by omega)
          rw [hV2] at CPAD
          have hPl := HPL.out
          have hSl : (padL y).length = V := by rw [padL_len, HM.out, hV2]
          have hSb := padL_bytes y HY.out.2
          have RP1 := RP.out
          generalize padL x = P at *
          generalize padL y = S at *
          obtain ⟨b, hb⟩ : ∃ b, ((strOfNums x).toList == (strOfNums y).toList) = b := ⟨_, rfl⟩
          rw [hb] at ey
          have HE1 := Lib.hid ey
          have HE2 := Lib.hid hb
          have HY1 := Lib.hid (row_below HY.out BB.out)
          have HX1 := Lib.hid (row_below HX.out BB.out)
          have w8 : IntKind.i64.wrap (8 * (n : Int)) = (n : Int) * 8 := by rw [IntWalk.i64_in _ (by omega)]; omega
          clear ey hb hV2 t1
          refine wp_region_conf' (by kernel_rfl) 19 (by kernel_rfl) (by simp) (by decide) (RPads gp W n c m d V A D P S x y b) (RPads_keep gp W n c m d V A D P S x y b) ?_ ?_
          · simp only [ConfSteps, List.take_succ_cons, List.take_zero, putAll, Act.put, List.setIfInBounds_toArray, List.set_cons_succ, List.set_cons_zero, and_true]
            refine ⟨?_, ?_, ?_, ?_, ?_, ?_, ?_, ?_, ?_, ?_, ?_, ?_, ?_, ?_, ?_, ?_, ?_, ?_, ?_⟩
            all_goals intro v w' hb hd
            · exact conf_value (wanted0 rfl) (by simp [go_sem]) rfl
            · exact conf_value (wanted0 rfl) (by simp [go_sem]) rfl
            · have d1 : v 1 = _ := hd ⟨1, .data⟩ (by simp) rfl
              exact conf_value (wanted0 rfl) (by simp [go_sem, d1, w8]) rfl
            · have d0 : v 0 = _ := hd ⟨0, .data⟩ (by simp) rfl
              have d2 : v 2 = _ := hd ⟨2, .data⟩ (by simp) rfl
              exact conf_value (wanted0 rfl) (by simp [go_sem, d0, d2]) rfl
            · have d3 : v 3 = _ := hd ⟨3, .data⟩ (by simp) rfl
              exact conf_value (wanted0 rfl) (by simp [go_sem, d3]) rfl
            · have d4 : v 4 = _ := hd ⟨4, .guard⟩ (by simp) rfl
              exact conf_value (wantedY (j := 4) (d := 85) (want := true) rfl rfl (congrArg some d4)) (by simp [go_sem]) rfl
            · have d4 : v 4 = _ := hd ⟨4, .guard⟩ (by simp) rfl
              have d5 : v 5 = _ := hd ⟨5, .data⟩ (by simp) rfl
              exact conf_value (wantedY (j := 4) (d := 85) (want := true) rfl rfl (congrArg some d4)) (by simp [go_sem, d5, conv_row W W hPl (row_below RP1 hb)]) rfl
            · have d4 : v 4 = _ := hd ⟨4, .guard⟩ (by simp) rfl
              exact conf_value (wantedY (j := 4) (d := 85) (want := true) rfl rfl (congrArg some d4)) (by simp [go_sem]) rfl
            · have d4 : v 4 = _ := hd ⟨4, .guard⟩ (by simp) rfl
              have d7 : v 7 = _ := hd ⟨7, .data⟩ (by simp) rfl
              refine conf_call (f := 17) (args := #[v 7]) (wantedY (j := 4) (d := 85) (want := true) rfl rfl (congrArg some d4)) (by simp [go_sem]) ?_
              rw [d7]
              exact (CPAD w' (row_below HY1.out hb)).mono fun e w'' ⟨he, hk, hb'⟩ => ⟨_, he, hb', _, rfl, u8V_row hk hSb⟩
            · have d4 : v 4 = _ := hd ⟨4, .guard⟩ (by simp) rfl
              obtain ⟨g, d8, r8⟩ : ∃ g, v 8 = .slice (some ⟨g, 0, none⟩) V V ∧ Row w' (some ⟨g, 0, none⟩) S := hd ⟨8, .data⟩ (by simp) rfl
              exact conf_value (wantedY (j := 4) (d := 85) (want := true) rfl rfl (congrArg some d4)) (by simp [go_sem, d8, conv_row V V hSl r8]) rfl
            · have d4 : v 4 = _ := hd ⟨4, .guard⟩ (by simp) rfl
              have d6 : v 6 = _ := hd ⟨6, .data⟩ (by simp) rfl
              have d9 : v 9 = _ := hd ⟨9, .data⟩ (by simp) rfl
              exact conf_value (wantedY (j := 4) (d := 85) (want := true) rfl rfl (congrArg some d4)) (by simp [go_sem, d6, d9, HE1.out]) rfl
            · have d4 : v 4 = _ := hd ⟨4, .guard⟩ (by simp) rfl
              exact conf_value (wantedY (j := 4) (d := 85) (want := true) rfl rfl (congrArg some d4)) (by simp [go_sem]) rfl
            · have d4 : v 4 = _ := hd ⟨4, .guard⟩ (by simp) rfl
              have d11 : v 11 = _ := hd ⟨11, .data⟩ (by simp) rfl
              exact conf_value (wantedY (j := 4) (d := 85) (want := true) rfl rfl (congrArg some d4)) (by simp [go_sem, d11, conv_row n c HN.out (row_below HX1.out hb)]) rfl
            · have d4 : v 4 = _ := hd ⟨4, .guard⟩ (by simp) rfl
              exact conf_value (wantedY (j := 4) (d := 85) (want := true) rfl rfl (congrArg some d4)) (by simp [go_sem]) rfl
            · have d4 : v 4 = _ := hd ⟨4, .guard⟩ (by simp) rfl
              have d13 : v 13 = _ := hd ⟨13, .data⟩ (by simp) rfl
              exact conf_value (wantedY (j := 4) (d := 85) (want := true) rfl rfl (congrArg some d4)) (by simp [go_sem, d13, conv_row m d HM.out (row_below HY1.out hb)]) rfl
            · have d4 : v 4 = _ := hd ⟨4, .guard⟩ (by simp) rfl
              have d12 : v 12 = _ := hd ⟨12, .data⟩ (by simp) rfl
              have d14 : v 14 = _ := hd ⟨14, .data⟩ (by simp) rfl
              exact conf_value (wantedY (j := 4) (d := 85) (want := true) rfl rfl (congrArg some d4)) (by simp [go_sem, d12, d14, HE2.out]) rfl
            · have d4 : v 4 = _ := hd ⟨4, .guard⟩ (by simp) rfl
              have d10 : v 10 = _ := hd ⟨10, .data⟩ (by simp) rfl
              have d15 : v 15 = _ := hd ⟨15, .data⟩ (by simp) rfl
              exact conf_value (wantedY (j := 4) (d := 85) (want := true) rfl rfl (congrArg some d4)) (by simp [go_sem, d10, d15]) rfl
            · have d4 : v 4 = _ := hd ⟨4, .data⟩ (by simp) rfl
              have d16 : v 16 = _ := hd ⟨16, .data⟩ (by simp) rfl
              exact conf_value (wanted0 rfl) (by simp [go_sem, d4, d16]) rfl
            · have d17 : v 17 = _ := hd ⟨17, .data⟩ (by simp) rfl
              exact conf_value (wanted0 rfl) (by simp [go_sem, d17]) rfl
          · intro v w' hb hr
            have d18 : v 18 = .bool true := hr 18 (by omega)
            simp only [List.take_succ_cons, List.take_zero, List.drop_succ_cons, List.drop_zero, putAll, Act.put, List.setIfInBounds_toArray, List.set_cons_succ, List.set_cons_zero]
            rw [d18]
            replace BB := Lib.hid (bt BB.out hb)
            clear hr hb d18
            go_wp2_with fail
            go_ret
            exact ⟨rfl, BB.out⟩
end Go.Proofs.YtalekcpdkfdmaaaDoor
