/- sha.Sum. -/
import Derived.Test.YtapednkmefbldaaDoorShaQ
import Derived.WalkLawsBesides
namespace Go.Proofs.YtapednkmefbldaaDoor
open Go.RowKit

set_option maxRecDepth 100000 in
set_option maxHeartbeats 800000 in
theorem sum_any (A : Option Addr) (xs : List Int) (n c : Nat) (w : World) (hn : xs.length = n) (hr : Row w A xs) (hl : n ≤ 1000000000) (hR : Roots w) :
    Calls Tryd.prog 41 #[.slice A n c] w fun e w' => e = .returned (.agg (u8V (sha xs))) ∧ Below w.heap.size w w' := by
  obtain ⟨m, hm⟩ : ∃ m, wholeOf n / 64 = m := ⟨_, rfl⟩
  obtain ⟨P, hP⟩ : ∃ P, padL xs = P := ⟨_, rfl⟩
  have hPl : P.length = 64 * m := by rw [← hP, padL_len, hn, ← hm, wholeOf_div]
  have hPb : ∀ x ∈ P, 0 ≤ x ∧ x ≤ 255 := by rw [← hP]; exact padL_bytes xs hr.2
  have hm2 : m ≤ 100000000 := by rw [← hm]; unfold wholeOf; omega
  have hSha : sha xs = digest (sumTo P m) := by unfold sha shaS; rw [hn, hm, hP]
  rw [hSha]
  have hW : wholeOf n = 64 * m := by rw [← hm, wholeOf_div]
  have HW := Lib.hid hW
  have HN := Lib.hid hn
  have HR := Lib.hid hr
  have HP := Lib.hid hP
  have HPL := Lib.hid hPl
  have HPB := Lib.hid hPb
  have RT := Lib.hid hR
  have rl := hR.lt
  clear hn hr hP hPl hPb hSha hm hW hR
  go_enter Tryd.func41, Tryd.ntmps41
  go_wp2_with ((with_reducible show wpList _ _ _ (⟨_, .alloc 22, _, _, _, none⟩ :: _) _ _); (with_reducible refine wpRow_alloc zeroT_b32 ?_ ?_ ?_); (· exact wanted0 rfl); (· rfl); refine Marker.mk ?_)
  refine Marker.in ?_
  have BB := Lib.hid (Below.refl w.heap.size w)
  have bel := below_alloc1 w (.cells (u8V (zeros 32)) 22)
  replace BB := Lib.hid (bt BB.out bel)
  have KR := Lib.hid (Blk.new w (u8V (zeros 32)) 22)
  clear bel
  generalize w.alloc (.cells (u8V (zeros 32)) 22) = w1 at *
  go_wp2_with fail
  ((with_reducible refine (start_any _).mono ?_))
  rintro e w2 ⟨rfl, b2⟩
  replace KR := Lib.hid (KR.out.below b2)
  replace BB := Lib.hid (bt BB.out b2)
  clear b2
  have l2 := KR.out.lt
  go_wp2_with ((with_reducible show wpList _ _ _ (⟨_, .alloc 112, _, _, _, none⟩ :: _) _ _); (with_reducible refine wpRow_alloc zeroT_8 ?_ ?_ ?_); (· exact wanted0 rfl); (· rfl); refine Marker.mk ?_)
  refine Marker.in ?_
  have bel := below_alloc1 w2 (.cells (u32V (zeros 8)) 112)
  replace KR := Lib.hid (KR.out.below bel)
  replace BB := Lib.hid (bt BB.out bel)
  have KH := Lib.hid (Blk.new w2 (u32V (zeros 8)) 112)
  clear bel
  generalize w2.alloc (.cells (u32V (zeros 8)) 112) = w3 at *
  go_wp2_with ((with_reducible show wpList _ _ _ (⟨_, .store 112 _ _, _, _, _, none⟩ :: _) _ _); (with_reducible refine wpBlk_store (g := w2.heap.size) (cs := startS.cells) agg_8 ?_ ?_ KH ?_ ?_ ?_ ?_); (· exact wanted0 rfl); (· exact ⟨rfl, rfl, rfl⟩); (· rw [u32V_size, zeros_len]); (· exact St.cells_size _); (· exact St.cells_one _); refine Marker.mk ?_)
  refine Marker.in ?_
  replace KR := Lib.hid (KR.out.setRow_other w2.heap.size startS.cells (by omega))
  replace KH := Lib.hid (KH.out.setRow startS.cells)
  replace BB := Lib.hid (below_setRow (g := w2.heap.size) BB.out (by omega) startS.cells)
  generalize w3.setRow w2.heap.size startS.cells = w4 at *
  go_wp2_with fail
  ((with_reducible refine (pad_any A xs n c _ HN.out (row_below HR.out BB.out) hl).mono ?_))
  rintro e w5 ⟨rfl, KP, b5⟩
  rw [HP.out] at KP
  have l5 := KH.out.lt
  replace KR := Lib.hid (KR.out.below b5)
  replace KH := Lib.hid (KH.out.below b5)
  replace BB := Lib.hid (bt BB.out b5)
  replace KP := Lib.hid KP
  clear b5
  rw [HW.out]
  go_wp2_with fail
  go_loopw [4] (fun y wr => ∃ (i : Nat) (a : Option Addr) (L : Nat), i ≤ m ∧ y = .slice a L L ∧ L = 64 * (m - i) ∧ (i < m → a = some ⟨w4.heap.size, 64 * i, none⟩) ∧ Blk wr w.heap.size (u8V (zeros 32)) 22 ∧ Blk wr w2.heap.size (sumTo P i).cells 112 ∧ Blk wr w4.heap.size (u8V P) 5 ∧ Below w.heap.size w wr) (fun y _ => match y with | .slice _ L _ => L | _ => 0)
  case atStart => exact ⟨0, _, 64 * m, by omega, rfl, by omega, fun _ => rfl, KR.out, KH.out, KP.out, BB.out⟩
  case round =>
    clear KR KH KP BB
    obtain ⟨i, a, L, hi, rfl, hL, ha, KR, KH, KP, BB⟩ := hrel
    by_cases hlt : i < m
    · obtain rfl := ha hlt
      have hL1 : 64 ≤ L := by omega
      have hL2 : (64 : Int) ≤ (L : Int) := by omega
      have hL3 : L ≤ 6400000000 := by omega
      have hPL := HPL.out
      obtain ⟨bl, hbl⟩ : ∃ bl, (P.drop (64 * i)).take 64 = bl := ⟨_, rfl⟩
      have hbl1 : bl.length = 64 := by rw [← hbl]; simp; omega
      have hbl2 : ∀ x ∈ bl, 0 ≤ x ∧ x ≤ 255 := by rw [← hbl]; intro x hx; exact HPB.out x (List.mem_of_mem_drop (List.mem_of_mem_take hx))
      have STEP : sumTo P (i + 1) = blockS (sumTo P i) bl := by rw [← hbl]; rfl
      generalize sumTo P i = q at *
      replace STEP := Lib.hid STEP
      have HL := Lib.hid hL
      have HBL := Lib.hid hbl
      have HB1 := Lib.hid hbl1
      have HB2 := Lib.hid hbl2
      replace KR := Lib.hid KR
      replace KH := Lib.hid KH
      replace KP := Lib.hid KP
      replace BB := Lib.hid BB
      have RT1 := Lib.hid (RT.out.below BB.out)
      have harr := array_64
      clear hL hbl hbl1 hbl2 ha hPL
      go_wp2_with fail
      refine wp_region_qx 6 (by kernel_rfl) (by kernel_rfl) ?_
      simp only [List.take_succ_cons, List.take_zero, List.drop_succ_cons, List.drop_zero]
      repeat (first
      | go_big_quiet_skip
      | (go_big_quiet_want
         first
           | (refine quiet_load_blk (T := 112) (g := w2.heap.size) agg_8 _ rfl rfl KH ?_ ?_; (· exact St.cells_size _); go_simp; go_big_quiet_on)
           | (refine quiet_load_mid (T := 87) (g := w4.heap.size) (off := 64 * i) (l := P) agg_b64 _ rfl rfl KP ?_ ?_; (· rw [HPL.out]; omega); rw [HBL.out]; go_simp; go_big_quiet_on)
           | (go_big_quiet_op
              first
                | go_big_quiet_on
                | go_big_quiet_call ((((with_reducible refine ext_of (block_any q bl HB1.out HB2.out _ ?_)); exact RT1.out.below (exw_bel _)))))))
      refine wpQuiet_nil ?_
      intro _ hw'
      obtain ⟨y, rfl⟩ := hw'
      have by_ := exw_bel y
      replace KR := Lib.hid (KR.out.below by_)
      replace KH := Lib.hid (KH.out.below by_)
      replace KP := Lib.hid (KP.out.below by_)
      replace BB := Lib.hid (bt BB.out by_)
      clear by_ harr RT1
      generalize exw wr y = w6 at *
      go_wp2_with ((with_reducible show wpList _ _ _ (⟨_, .store 112 _ _, _, _, _, none⟩ :: _) _ _); (with_reducible refine wpBlk_store (g := w2.heap.size) (cs := (blockS q bl).cells) agg_8 ?_ ?_ KH ?_ ?_ ?_ ?_); (· exact wanted0 rfl); (· exact ⟨rfl, rfl, rfl⟩); (· exact St.cells_size _); (· exact St.cells_size _); (· exact St.cells_one _); refine Marker.mk ?_)
      refine Marker.in ?_
      replace KR := Lib.hid (KR.out.setRow_other w2.heap.size (blockS q bl).cells (by omega))
      replace KP := Lib.hid (KP.out.setRow_other w2.heap.size (blockS q bl).cells (by omega))
      replace KH := Lib.hid (KH.out.setRow (blockS q bl).cells)
      replace BB := Lib.hid (below_setRow (g := w2.heap.size) BB.out (by omega) (blockS q bl).cells)
      generalize w6.setRow w2.heap.size (blockS q bl).cells = w7 at *
      by_cases hlast : L = 64
      · subst hlast
        go_wp2_with fail
        have hL := HL.out
        exact ⟨⟨i + 1, _, 0, by omega, rfl, by omega, fun h => by omega, KR.out, by rw [STEP.out]; exact KH.out, KP.out, BB.out⟩, by show 0 < 64; omega⟩
      · have hL4 : 64 < L := by omega
        go_wp2_with fail
        have hL := HL.out
        exact ⟨⟨i + 1, _, L - 64, by omega, rfl, by omega, fun _ => by rw [show 64 * (i + 1) = 64 * i + 64 by omega], KR.out, by rw [STEP.out]; exact KH.out, KP.out, BB.out⟩, by simp only; omega⟩
    · obtain rfl : i = m := by omega
      obtain rfl : L = 0 := by omega
      generalize hq : sumTo P i = q at *
      have HQ := Lib.hid hq
      clear hq
      replace KR := Lib.hid KR
      replace KH := Lib.hid KH
      replace BB := Lib.hid BB
      clear ha KP hL
      have l9 := KH.out.lt
      go_wp2_with ((with_reducible show wpList _ _ _ (⟨_, .alloc 22, _, _, _, none⟩ :: _) _ _); (with_reducible refine wpRow_alloc zeroT_b32 ?_ ?_ ?_); (· exact wanted0 rfl); (· rfl); refine Marker.mk ?_)
      refine Marker.in ?_
      have bel := below_alloc1 wr (.cells (u8V (zeros 32)) 22)
      replace KR := Lib.hid (KR.out.below bel)
      replace KH := Lib.hid (KH.out.below bel)
      replace BB := Lib.hid (bt BB.out bel)
      have KS := Lib.hid (Blk.new wr (u8V (zeros 32)) 22)
      clear bel
      generalize wr.alloc (.cells (u8V (zeros 32)) 22) = w6 at *
      generalize wr.heap.size = g9 at *
      go_wp2_with ((with_reducible show wpList _ _ _ (⟨_, .load 112 _, _, _, _, none⟩ :: _) _ _); (with_reducible refine wpBlk_load (g := w2.heap.size) agg_8 ?_ ?_ KH ?_ ?_); (· exact wanted0 rfl); (· exact ⟨rfl, rfl⟩); (· exact St.cells_size _))
      go_loopw [23] (fun y wx => ∃ k : Nat, k ≤ 8 ∧ y = .int .i64 k ∧ Blk wx w.heap.size (u8V (zeros 32)) 22 ∧ Blk wx g9 (u8V (over (digest q) (zeros 32) (4 * k))) 22 ∧ Below w.heap.size w wx) (fun y _ => 8 - (intOf y).toNat)
      case atStart => exact ⟨0, by omega, rfl, KR.out, by rw [Nat.mul_zero, over_zero]; exact KS.out, BB.out⟩
      case round =>
        clear KR KH KS BB
        obtain ⟨k, hk, rfl, KR, KS, BB⟩ := hrel
        by_cases hlt : k < 8
        · have hix := index_8 q k hlt
          have DG := digest_at q k hlt
          have le : (digest q).length = (zeros 32).length := by rw [digest_len, zeros_len]
          have lz := digest_len q
          have lo := over_len (digest q) (zeros 32) (4 * k) le (by omega)
          have c0 := KS.cell (4 * k)
          have c1 := KS.cell (4 * k + 1)
          have c2 := KS.cell (4 * k + 2)
          have c3 := KS.cell (4 * k + 3)
          have f0 := KS.frozen (4 * k)
          have f1 := KS.frozen (4 * k + 1)
          have f2 := KS.frozen (4 * k + 2)
          have f3 := KS.frozen (4 * k + 3)
          rw [u8V_get _ _ (by omega)] at c0 c1 c2 c3
          generalize q.list.getD k 0 = x at *
          have S1 := over_set (digest q) (zeros 32) (4 * k) le (by omega)
          have S2 := over_set (digest q) (zeros 32) (4 * k + 1) le (by omega)
          have S3 := over_set (digest q) (zeros 32) (4 * k + 2) le (by omega)
          have S4 := over_set (digest q) (zeros 32) (4 * k + 3) le (by omega)
          rw [DG.1] at S1
          rw [DG.2.1] at S2
          rw [DG.2.2.1] at S3
          rw [DG.2.2.2] at S4
          replace S1 := Lib.hid S1
          replace S2 := Lib.hid S2
          replace S3 := Lib.hid S3
          replace S4 := Lib.hid S4
          replace KR := Lib.hid KR
          replace KS := Lib.hid KS
          replace BB := Lib.hid BB
          clear DG le lz lo
          go_wp2_with fail
          have h := (((KS.out.set (4 * k) (.int .u8 (x / 16777216 % 256))).set (4 * k + 1) (.int .u8 (x / 65536 % 256))).set (4 * k + 2) (.int .u8 (x / 256 % 256))).set (4 * k + 3) (.int .u8 (x % 256))
          rw [u8V_set, S1.out, u8V_set, S2.out, u8V_set, S3.out, u8V_set, S4.out] at h
          exact ⟨⟨k + 1, by omega, by simp, (((KR.out.other _ _ _ (by omega)).other _ _ _ (by omega)).other _ _ _ (by omega)).other _ _ _ (by omega), h, (((BB.out.setCell (by simp; omega) _).setCell (by simp; omega) _).setCell (by simp; omega) _).setCell (by simp; omega) _⟩, by simp [intOf]; omega⟩
        · obtain rfl : k = 8 := by omega
          rw [show ((8 : Nat) : Int) = 8 from rfl]
          rw [over_all (digest q) (zeros 32) (4 * 8) (by rw [digest_len]; omega) (by rw [zeros_len]; omega)] at KS
          replace KR := Lib.hid KR
          replace KS := Lib.hid KS
          replace BB := Lib.hid BB
          go_wp2_with (first | ((with_reducible show wpList _ _ _ (⟨_, .load 22 _, _, _, _, none⟩ :: _) _ _); (with_reducible refine wpBlk_load (g := g9) agg_b32 ?_ ?_ KS ?_ ?_); (· exact wanted0 rfl); (· exact ⟨rfl, rfl⟩); (· rw [u8V_size, digest_len])) | ((with_reducible show wpList _ _ _ (⟨_, .store 22 _ _, _, _, _, none⟩ :: _) _ _); (with_reducible refine wpBlk_store (g := w.heap.size) (cs := u8V (digest q)) agg_b32 ?_ ?_ KR ?_ ?_ ?_ ?_); (· exact wanted0 rfl); (· exact ⟨rfl, rfl, rfl⟩); (· rw [u8V_size, zeros_len]); (· rw [u8V_size, digest_len]); (· exact u8V_one _)))
          refine bodyPost_ret (v := .agg (u8V (digest q))) (results_blk agg_b32 rfl _ _ (w.heap.size) _ rfl (KR.out.setRow _) (by rw [u8V_size, digest_len])) rfl ⟨by rw [HQ.out], below_setRow BB.out (by omega) _⟩
end Go.Proofs.YtapednkmefbldaaDoor
