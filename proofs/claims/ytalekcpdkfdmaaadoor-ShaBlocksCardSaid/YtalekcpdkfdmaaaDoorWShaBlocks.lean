/- The walk of ShaBlocks. -/
import Derived.Test.YtalekcpdkfdmaaaDoorShaC
namespace Go.Proofs.YtalekcpdkfdmaaaDoor
open Go.RowKit

theorem zeroT_b64 : ZeroT Tryd.prog 25 (u8V (zeros 64)) := by
  intro ev o w ho
  unfold execOp
  simp only [ho]
  simp [go_sem]
  exact congrArg (fun c => w.alloc (.cells c 25)) (by kernel_rfl)
theorem build_b64 : Tryd.prog.built 25 [] = some (u8V (zeros 64)) := by kernel_rfl
theorem u32_or_byte (n x : Int) (h0 : 0 ≤ n) (h1 : n < 16777216) (x0 : 0 ≤ x) (x1 : x ≤ 255) : bits .or .u32 (n * 256) x = n * 256 + x := by
  obtain ⟨m, rfl⟩ := Int.eq_ofNat_of_zero_le h0
  obtain ⟨y, rfl⟩ := Int.eq_ofNat_of_zero_le x0
  have e : ((m : Int) * 256) = ((m * 256 : Nat) : Int) := by simp
  rw [e, u32_or_nat _ _ (by omega) (by omega), nat_join 8 _ _ (by omega) (by omega)]
  simp
theorem join_byte (x : Int) (j : Nat) (x0 : 0 ≤ x) (x1 : x < 4294967296) (hj : j < 4) : bits .or .u32 (x / 2 ^ (8 * (4 - j)) * 256 % 4294967296) (x / 2 ^ (8 * (3 - j)) % 256) = x / 2 ^ (8 * (4 - (j + 1))) := by
  have key : ∀ n b r : Int, 0 ≤ n → n < 16777216 → 0 ≤ b → b ≤ 255 → n * 256 + b = r → bits .or .u32 (n * 256 % 4294967296) b = r := by
    intro n b r h0 h1 h2 h3 h4
    rw [Int.emod_eq_of_lt (by omega) (by omega), u32_or_byte n b h0 h1 h2 h3, h4]
  rcases (show j = 0 ∨ j = 1 ∨ j = 2 ∨ j = 3 by omega) with rfl | rfl | rfl | rfl
  · exact key (x / 4294967296) (x / 16777216 % 256) (x / 16777216) (by omega) (by omega) (by omega) (by omega) (by omega)
  · exact key (x / 16777216) (x / 65536 % 256) (x / 65536) (by omega) (by omega) (by omega) (by omega) (by omega)
  · exact key (x / 65536) (x / 256 % 256) (x / 256) (by omega) (by omega) (by omega) (by omega) (by omega)
  · have h1 : x / 1 = x := Int.ediv_one x
    exact key (x / 256) (x / 1 % 256) (x / 1) (by omega) (by omega) (by omega) (by omega) (by omega)
def InSt (s : St) : Prop := ∀ x ∈ s.list, 0 ≤ x ∧ x < 4294967296
theorem inSt_getD {s : St} (h : InSt s) (k : Nat) : 0 ≤ s.list.getD k 0 ∧ s.list.getD k 0 < 4294967296 := by
  rcases Nat.lt_or_ge k s.list.length with hk | hk
  · have e : s.list.getD k 0 = s.list[k] := by simp [hk]
    rw [e]; exact h _ (List.getElem_mem _)
  · have e : s.list.getD k 0 = 0 := by simp [hk]
    rw [e]; omega
theorem add8_in (n h : St) : InSt (add8 n h) := by
  intro x hx
  simp only [St.list, add8, List.mem_cons, List.not_mem_nil, or_false] at hx
  rcases hx with rfl | rfl | rfl | rfl | rfl | rfl | rfl | rfl <;> omega
theorem sumTo_in (p : List Int) (i : Nat) : InSt (sumTo p i) := by
  cases i with
  | zero =>
    show InSt startS
    intro x hx
    simp only [St.list, startS, List.mem_cons, List.not_mem_nil, or_false] at hx
    rcases hx with rfl | rfl | rfl | rfl | rfl | rfl | rfl | rfl <;> omega
  | succ i => exact add8_in _ _
set_option maxRecDepth 100000 in
set_option maxHeartbeats 800000 in
theorem walk_ShaBlocks (v0 : Value) (w : World) (hR : Roots w) (q0 : IsRow .u8 w v0) :
    Calls Tryd.prog 5 #[v0] w fun e w' => e = .returned (.bool true) ∧ Below w.heap.size w w' := by
  obtain ⟨A, x, n, c, hn, n3, n1, n2, hx, hA, hf⟩ := few_of (k := 300) q0 few04
  have HN := Lib.hid hn
  have HX := Lib.hid hx
  have HF := Lib.hid hf
  have RT := Lib.hid hR
  have BB := Lib.hid (Below.refl w.heap.size w)
  clear hn hx hf hR q0
  go_enter Tryd.func5, Tryd.ntmps5
  go_wp2_with fail
  ((with_reducible refine (shown04 _ RT.out).mono ?_))
  rintro e w1 ⟨rfl, b1⟩
  have BB := Lib.hid (bt BB.out b1)
  have l1 := b1.size
  clear b1
  go_wp2_with fail
  ((with_reducible refine (HF.out _).mono ?_))
  rintro e w2 ⟨rfl, rfl⟩
  go_wp2_with fail
  ((with_reducible refine (pad_any A x n c _ HN.out (row_below HX.out BB.out) (by omega)).mono ?_))
  rintro e w3 ⟨rfl, KP, b3⟩
  have BB := Lib.hid (bt BB.out b3)
  have hPl : (padL x).length = wholeOf n := by rw [padL_len, HN.out]
  have hPb := padL_bytes x HX.out.2
  obtain ⟨m, hm⟩ : ∃ m, wholeOf n / 64 = m := ⟨_, rfl⟩
  have hW : wholeOf n = 64 * m := by rw [← hm, wholeOf_div]
  have hm2 : m ≤ 100000000 := by rw [← hm]; unfold wholeOf; omega
  have hSha : sha x = digest (sumTo (padL x) m) := by unfold sha shaS; rw [HN.out, hm]
  generalize padL x = P at *
  rw [hW]
  rw [hW] at hPl
  have HSHA := Lib.hid hSha
  have HPL := Lib.hid hPl
  have HPB := Lib.hid hPb
  have KP := Lib.hid KP
  clear hSha hPl hPb hW hm b3
  go_wp2_with fail
  ((with_reducible refine (start_any _).mono ?_))
  rintro e w4 ⟨rfl, b4⟩
  have KP := Lib.hid (KP.out.below b4)
  have BB := Lib.hid (bt BB.out b4)
  clear b4
  have l4 := KP.out.lt
  go_wp2_with ((with_reducible show wpList _ _ _ (⟨_, .alloc 24, _, _, _, none⟩ :: _) _ _); (with_reducible refine wpRow_alloc zeroT_8 ?_ ?_ ?_); (· exact wanted0 rfl); (· rfl); refine Marker.mk ?_)
  refine Marker.in ?_
  have bel := below_alloc1 w4 (.cells (u32V (zeros 8)) 24)
  have KP := Lib.hid (KP.out.below bel)
  have BB := Lib.hid (bt BB.out bel)
  have KH := Lib.hid (Blk.new w4 (u32V (zeros 8)) 24)
  clear bel
  generalize w4.alloc (.cells (u32V (zeros 8)) 24) = w5 at *
  go_wp2_with ((with_reducible show wpList _ _ _ (⟨_, .store 24 _ _, _, _, _, none⟩ :: _) _ _); (with_reducible refine wpBlk_store (g := w4.heap.size) (cs := startS.cells) agg_8 ?_ ?_ KH ?_ ?_ ?_ ?_); (· exact wanted0 rfl); (· exact ⟨rfl, rfl, rfl⟩); (· rw [u32V_size, zeros_len]); (· exact St.cells_size _); (· exact St.cells_one _); refine Marker.mk ?_)
  refine Marker.in ?_
  have KP := Lib.hid (KP.out.setRow_other w4.heap.size startS.cells (by omega))
  have KH := Lib.hid (KH.out.setRow startS.cells)
  have BB := Lib.hid (below_setRow (g := w4.heap.size) BB.out (by omega) startS.cells)
  generalize w5.setRow w4.heap.size startS.cells = w6 at *
  go_wp2_with fail
  go_loopw [7] (fun y wr => ∃ i : Nat, i ≤ m ∧ y = .int .i64 (64 * (i : Int)) ∧ Blk wr w4.heap.size (sumTo P i).cells 24 ∧ Blk wr w1.heap.size (u8V P) 5 ∧ Below w.heap.size w wr) (fun y _ => 64 * m - (intOf y).toNat)
  case atStart => exact ⟨0, by omega, by simp, KH.out, KP.out, BB.out⟩
  case round =>
    clear KH KP BB
    obtain ⟨i, hi, rfl, KH, KP, BB⟩ := hrel
    by_cases hlt : i < m
    · have hPL := HPL.out
      obtain ⟨bl, hbl⟩ : ∃ bl, (P.drop (64 * i)).take 64 = bl := ⟨_, rfl⟩
      have hbl1 : bl.length = 64 := by rw [← hbl]; simp; omega
      have hbl2 : ∀ x ∈ bl, 0 ≤ x ∧ x ≤ 255 := by rw [← hbl]; intro x hx; exact HPB.out x (List.mem_of_mem_drop (List.mem_of_mem_take hx))
      have STEP : sumTo P (i + 1) = blockS (sumTo P i) bl := by rw [← hbl]; rfl
      generalize sumTo P i = q at *
      have STEP := Lib.hid STEP
      have HBL := Lib.hid hbl
      have HB1 := Lib.hid hbl1
      have HB2 := Lib.hid hbl2
      have KH := Lib.hid KH
      have KP := Lib.hid KP
      have BB := Lib.hid BB
      have lr := KP.out.lt
      have lh := KH.out.lt
      clear hbl hbl1 hbl2 hPL
      go_wp2_with (first
        | ((with_reducible show wpList _ _ _ (⟨some 26, _, _, _, _, _⟩ :: _) _ _); refine wpList_build' rfl 25 #[] rfl (u8V (zeros 64)) build_b64 ?_)
        | ((with_reducible show wpList _ _ _ (⟨_, .alloc 25, _, _, _, none⟩ :: _) _ _); (with_reducible refine wpRow_alloc zeroT_b64 ?_ ?_ ?_); (· exact wanted0 rfl); (· rfl); refine Marker.mk ?_))
      refine Marker.in ?_
      have bel := below_alloc1 wr (.cells (u8V (zeros 64)) 25)
      have KP := Lib.hid (KP.out.below bel)
      have KH := Lib.hid (KH.out.below bel)
      have BB := Lib.hid (bt BB.out bel)
      have KX := Lib.hid (Blk.new wr (u8V (zeros 64)) 25)
      clear bel
      generalize wr.alloc (.cells (u8V (zeros 64)) 25) = w7 at *
      go_wp2_with ((with_reducible show wpList _ _ _ (⟨_, .store 25 _ _, _, _, _, none⟩ :: _) _ _); (with_reducible refine wpBlk_store (g := wr.heap.size) (cs := u8V (zeros 64)) agg_b64 ?_ ?_ KX ?_ ?_ ?_ ?_); (· exact wanted0 rfl); (· exact ⟨rfl, rfl, rfl⟩); (· rw [u8V_size, zeros_len]); (· rw [u8V_size, zeros_len]); (· exact u8V_one _); refine Marker.mk ?_)
      refine Marker.in ?_
      have KP := Lib.hid (KP.out.setRow_other wr.heap.size (u8V (zeros 64)) (by omega))
      have KH := Lib.hid (KH.out.setRow_other wr.heap.size (u8V (zeros 64)) (by omega))
      have KX := Lib.hid (KX.out.setRow (u8V (zeros 64)))
      have BB := Lib.hid (below_setRow (g := wr.heap.size) BB.out (by omega) (u8V (zeros 64)))
      generalize w7.setRow wr.heap.size (u8V (zeros 64)) = w8 at *
      generalize wr.heap.size = gx at *
      go_wp2_with fail
      refine wp_region_qt' 6 (by kernel_rfl) (by kernel_rfl) ?_
      simp only [List.take_succ_cons, List.take_zero, List.drop_succ_cons, List.drop_zero]
      repeat (go_big_quiet_step (fail))
      refine wpQuiet_nil ?_
      intro _ hw'
      obtain ⟨nq, rfl⟩ := hw'
      have HXR := Lib.hid (u8V_mid (KP.out.drewN nq) HPB.out (64 * i) 64)
      rw [HBL.out] at HXR
      have KX2 := Lib.hid (KX.out.drewN nq)
      (with_reducible refine wpBlk_copy ?_ gx 0 64 64 (zeros 64) 25 (some ⟨w1.heap.size, 64 * i, none⟩) (64 * i + 64 - 64 * i) (64 * m - 64 * i) bl 64 (some ⟨gx, 0, none⟩) ?_ KX2 ?_ HXR ?_ ?_ ?_ ?_)
      · exact wanted0 rfl
      · exact ⟨rfl, _, _, rfl, rfl, rfl⟩
      · rw [HB1.out]; omega
      · rw [show 64 * i + 64 - 64 * i = 64 by omega]; rfl
      · rw [zeros_len]; omega
      · exact fun _ => rfl
      intro w9 KX3 b9 o9 s9
      have e9 : putAt (zeros 64) 0 (bl.take 64) = bl := by
        have t : bl.take 64 = bl := List.take_of_length_le (by rw [HB1.out]; omega)
        unfold putAt
        rw [t, List.take_zero, List.nil_append, List.drop_of_length_le (by rw [zeros_len, HB1.out]; omega), List.append_nil]
      rw [e9] at KX3
      have KX := Lib.hid KX3
      have KP := Lib.hid (show Blk w9 w1.heap.size (u8V P) 5 from (o9 _ (by omega)).trans (KP.out.drewN nq))
      have KH := Lib.hid (show Blk w9 w4.heap.size q.cells 24 from (o9 _ (by omega)).trans (KH.out.drewN nq))
      have BB := Lib.hid ((below_drewN BB.out nq).trans (b9.mono (by omega)))
      clear KX2 KX3 HXR o9 b9 s9 e9
      go_wp2_with (first | ((with_reducible show wpList _ _ _ (⟨_, .load 24 _, _, _, _, none⟩ :: _) _ _); (with_reducible refine wpBlk_load (g := w4.heap.size) agg_8 ?_ ?_ KH ?_ ?_); (· exact wanted0 rfl); (· exact ⟨rfl, rfl⟩); (· exact St.cells_size _)) | ((with_reducible show wpList _ _ _ (⟨_, .load 25 _, _, _, _, none⟩ :: _) _ _); (with_reducible refine wpBlk_load (g := gx) agg_b64 ?_ ?_ KX ?_ ?_); (· exact wanted0 rfl); (· exact ⟨rfl, rfl⟩); (· rw [u8V_size, HB1.out])))
      ((with_reducible refine (block_any q bl HB1.out HB2.out _ (RT.out.below BB.out)).mono ?_))
      rintro e w10 ⟨rfl, b10⟩
      have KP := Lib.hid (KP.out.below b10)
      have KH := Lib.hid (KH.out.below b10)
      have BB := Lib.hid (bt BB.out b10)
      clear b10 KX
      go_wp2_with ((with_reducible show wpList _ _ _ (⟨_, .store 24 _ _, _, _, _, none⟩ :: _) _ _); (with_reducible refine wpBlk_store (g := w4.heap.size) (cs := (blockS q bl).cells) agg_8 ?_ ?_ KH ?_ ?_ ?_ ?_); (· exact wanted0 rfl); (· exact ⟨rfl, rfl, rfl⟩); (· exact St.cells_size _); (· exact St.cells_size _); (· exact St.cells_one _); refine Marker.mk ?_)
      refine Marker.in ?_
      have KP := Lib.hid (KP.out.setRow_other w4.heap.size (blockS q bl).cells (by omega))
      have KH := Lib.hid (KH.out.setRow (blockS q bl).cells)
      have BB := Lib.hid (below_setRow (g := w4.heap.size) BB.out (by omega) (blockS q bl).cells)
      generalize w10.setRow w4.heap.size (blockS q bl).cells = w11 at *
      go_wp2_with fail
      exact ⟨⟨i + 1, by omega, by simp; omega, by rw [STEP.out]; exact KH.out, KP.out, BB.out⟩, by simp [intOf]; omega⟩
    · obtain rfl : i = m := by omega
      generalize hq : sumTo P i = q at *
      have IQ := Lib.hid (fun k => inSt_getD (hq ▸ sumTo_in P i) k)
      clear hq
      have KH := Lib.hid KH
      have BB := Lib.hid BB
      have l9 := KH.out.lt
      clear KP
      go_wp2_with fail
      ((with_reducible refine (sum_any A x n c _ HN.out (row_below HX.out BB.out) (by omega) (RT.out.below BB.out)).mono ?_))
      rintro e w5 ⟨rfl, b5⟩
      rw [HSHA.out]
      have KH := Lib.hid (KH.out.below b5)
      have BB := Lib.hid (bt BB.out b5)
      have l5 := KH.out.lt
      clear b5
      go_wp2_with ((with_reducible show wpList _ _ _ (⟨_, .alloc 28, _, _, _, none⟩ :: _) _ _); (with_reducible refine wpRow_alloc zeroT_b32 ?_ ?_ ?_); (· exact wanted0 rfl); (· rfl); refine Marker.mk ?_)
      refine Marker.in ?_
      have bel := below_alloc1 w5 (.cells (u8V (zeros 32)) 28)
      have KH := Lib.hid (KH.out.below bel)
      have BB := Lib.hid (bt BB.out bel)
      have KS := Lib.hid (Blk.new w5 (u8V (zeros 32)) 28)
      clear bel
      generalize w5.alloc (.cells (u8V (zeros 32)) 28) = w6 at *
      go_wp2_with ((with_reducible show wpList _ _ _ (⟨_, .store 28 _ _, _, _, _, none⟩ :: _) _ _); (with_reducible refine wpBlk_store (g := w5.heap.size) (cs := u8V (digest q)) agg_b32 ?_ ?_ KS ?_ ?_ ?_ ?_); (· exact wanted0 rfl); (· exact ⟨rfl, rfl, rfl⟩); (· rw [u8V_size, zeros_len]); (· rw [u8V_size, digest_len]); (· exact u8V_one _); refine Marker.mk ?_)
      refine Marker.in ?_
      have KH := Lib.hid (KH.out.setRow_other w5.heap.size (u8V (digest q)) (by omega))
      have KS := Lib.hid (KS.out.setRow (u8V (digest q)))
      have BB := Lib.hid (below_setRow (g := w5.heap.size) BB.out (by omega) (u8V (digest q)))
      generalize w6.setRow w5.heap.size (u8V (digest q)) = w7 at *
      go_wp2_with fail
      go_loop [10] (fun y => ∃ k : Nat, k ≤ 8 ∧ y = .int .i64 k) (fun y => 8 - (intOf y).toNat)
      case atStart => exact ⟨0, by omega, rfl⟩
      case round =>
        obtain ⟨k, hk, rfl⟩ := hrel
        by_cases hlt : k < 8
        · have ch := KH.out.cell k
          rw [show q.cells = u32V q.list from rfl, u32V_get _ _ (by exact hlt)] at ch
          have DG := Lib.hid (digest_at q k hlt)
          have XR := IQ.out k
          generalize q.list.getD k 0 = x at *
          obtain ⟨x0, x1⟩ := XR
          go_wp2_with fail
          go_loop [11, 12] (fun n y => ∃ j : Nat, j ≤ 4 ∧ y = .int .i64 j ∧ n = .int .u32 (x / 2 ^ (8 * (4 - j)))) (fun _ y => 4 - (intOf y).toNat)
          case atStart => exact ⟨0, by omega, rfl, by rw [show x / 2 ^ (8 * (4 - 0)) = 0 from Int.ediv_eq_zero_of_lt x0 x1]⟩
          case round =>
            obtain ⟨j, hj, rfl, rfl⟩ := hrel
            by_cases hlt4 : j < 4
            · have cd := KS.out.cell (4 * k + j)
              rw [u8V_get _ _ (by rw [digest_len]; omega)] at cd
              have cb := getD_byte (digest_bytes q) (4 * k + j)
              have hb : (digest q).getD (4 * k + j) 0 = x / 2 ^ (8 * (3 - j)) % 256 := by
                have dg := DG.out
                rcases (show j = 0 ∨ j = 1 ∨ j = 2 ∨ j = 3 by omega) with rfl | rfl | rfl | rfl
                · exact dg.1
                · exact dg.2.1
                · exact dg.2.2.1
                · rw [dg.2.2.2]; simp
              have ST := Lib.hid (join_byte x j x0 x1 hlt4)
              rw [← hb] at ST
              generalize (digest q).getD (4 * k + j) 0 = b at *
              clear hb
              go_wp2_with fail
              exact ⟨⟨j + 1, by omega, by simp, by rw [ST.out]⟩, by simp [intOf]; omega⟩
            · obtain rfl : j = 4 := by omega
              have e : x / 2 ^ (8 * (4 - 4)) = x := by simp
              rw [e, show ((4 : Nat) : Int) = 4 from rfl]
              clear e
              go_wp2_with fail
              exact ⟨⟨k + 1, by omega, by simp⟩, by simp [intOf]; omega⟩
        · obtain rfl : k = 8 := by omega
          rw [show ((8 : Nat) : Int) = 8 from rfl]
          go_wp2_with fail
          go_ret
          exact ⟨rfl, BB.out⟩
end Go.Proofs.YtalekcpdkfdmaaaDoor
