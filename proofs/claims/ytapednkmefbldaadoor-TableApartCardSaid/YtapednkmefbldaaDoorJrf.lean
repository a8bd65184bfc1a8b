/- Several texts in one. -/
import Derived.Test.YtapednkmefbldaaDoorShaQ
import Derived.Test.YtapednkmefbldaaDoorStep
import Derived.Test.YtapednkmefbldaaDoorMacW
import Derived.Test.YtapednkmefbldaaDoorShaL
import Derived.Test.YtapednkmefbldaaDoorMacO
import Derived.Test.YtapednkmefbldaaDoorAppB

/- sidestickref04: turn, Start, roots. -/
namespace Go.Proofs.YtapednkmefbldaaDoor
open Go.RowKit

theorem drew2 (w : World) (m q : Nat) : (w.drewN m).drewN q = w.drewN (m + q) := by simp
set_option maxRecDepth 100000 in
set_option maxHeartbeats 400000 in
theorem turn_2 (x : Int) (w : World) : Calls Tryd.prog 89 #[.int .u32 x, .int .i64 2] w fun e w' => e = .returned (.int .u32 (rr x 2)) ∧ ∃ q, w' = w.drewN q := by
  go_enter Tryd.func89, Tryd.ntmps89
  go_wp2_with fail
  go_quiet (fail)
  go_wp2_with fail
  go_ret
  exact ⟨by rw [← rr_turn]; rfl, _, rfl⟩
set_option maxRecDepth 100000 in
set_option maxHeartbeats 400000 in
theorem turn_6 (x : Int) (w : World) : Calls Tryd.prog 89 #[.int .u32 x, .int .i64 6] w fun e w' => e = .returned (.int .u32 (rr x 6)) ∧ ∃ q, w' = w.drewN q := by
  go_enter Tryd.func89, Tryd.ntmps89
  go_wp2_with fail
  go_quiet (fail)
  go_wp2_with fail
  go_ret
  exact ⟨by rw [← rr_turn]; rfl, _, rfl⟩
set_option maxRecDepth 100000 in
set_option maxHeartbeats 400000 in
theorem turn_7 (x : Int) (w : World) : Calls Tryd.prog 89 #[.int .u32 x, .int .i64 7] w fun e w' => e = .returned (.int .u32 (rr x 7)) ∧ ∃ q, w' = w.drewN q := by
  go_enter Tryd.func89, Tryd.ntmps89
  go_wp2_with fail
  go_quiet (fail)
  go_wp2_with fail
  go_ret
  exact ⟨by rw [← rr_turn]; rfl, _, rfl⟩
set_option maxRecDepth 100000 in
set_option maxHeartbeats 400000 in
theorem turn_11 (x : Int) (w : World) : Calls Tryd.prog 89 #[.int .u32 x, .int .i64 11] w fun e w' => e = .returned (.int .u32 (rr x 11)) ∧ ∃ q, w' = w.drewN q := by
  go_enter Tryd.func89, Tryd.ntmps89
  go_wp2_with fail
  go_quiet (fail)
  go_wp2_with fail
  go_ret
  exact ⟨by rw [← rr_turn]; rfl, _, rfl⟩
set_option maxRecDepth 100000 in
set_option maxHeartbeats 400000 in
theorem turn_13 (x : Int) (w : World) : Calls Tryd.prog 89 #[.int .u32 x, .int .i64 13] w fun e w' => e = .returned (.int .u32 (rr x 13)) ∧ ∃ q, w' = w.drewN q := by
  go_enter Tryd.func89, Tryd.ntmps89
  go_wp2_with fail
  go_quiet (fail)
  go_wp2_with fail
  go_ret
  exact ⟨by rw [← rr_turn]; rfl, _, rfl⟩
set_option maxRecDepth 100000 in
set_option maxHeartbeats 400000 in
theorem turn_17 (x : Int) (w : World) : Calls Tryd.prog 89 #[.int .u32 x, .int .i64 17] w fun e w' => e = .returned (.int .u32 (rr x 17)) ∧ ∃ q, w' = w.drewN q := by
  go_enter Tryd.func89, Tryd.ntmps89
  go_wp2_with fail
  go_quiet (fail)
  go_wp2_with fail
  go_ret
  exact ⟨by rw [← rr_turn]; rfl, _, rfl⟩
set_option maxRecDepth 100000 in
set_option maxHeartbeats 400000 in
theorem turn_18 (x : Int) (w : World) : Calls Tryd.prog 89 #[.int .u32 x, .int .i64 18] w fun e w' => e = .returned (.int .u32 (rr x 18)) ∧ ∃ q, w' = w.drewN q := by
  go_enter Tryd.func89, Tryd.ntmps89
  go_wp2_with fail
  go_quiet (fail)
  go_wp2_with fail
  go_ret
  exact ⟨by rw [← rr_turn]; rfl, _, rfl⟩
set_option maxRecDepth 100000 in
set_option maxHeartbeats 400000 in
theorem turn_19 (x : Int) (w : World) : Calls Tryd.prog 89 #[.int .u32 x, .int .i64 19] w fun e w' => e = .returned (.int .u32 (rr x 19)) ∧ ∃ q, w' = w.drewN q := by
  go_enter Tryd.func89, Tryd.ntmps89
  go_wp2_with fail
  go_quiet (fail)
  go_wp2_with fail
  go_ret
  exact ⟨by rw [← rr_turn]; rfl, _, rfl⟩
set_option maxRecDepth 100000 in
set_option maxHeartbeats 400000 in
theorem turn_22 (x : Int) (w : World) : Calls Tryd.prog 89 #[.int .u32 x, .int .i64 22] w fun e w' => e = .returned (.int .u32 (rr x 22)) ∧ ∃ q, w' = w.drewN q := by
  go_enter Tryd.func89, Tryd.ntmps89
  go_wp2_with fail
  go_quiet (fail)
  go_wp2_with fail
  go_ret
  exact ⟨by rw [← rr_turn]; rfl, _, rfl⟩
set_option maxRecDepth 100000 in
set_option maxHeartbeats 400000 in
theorem turn_25 (x : Int) (w : World) : Calls Tryd.prog 89 #[.int .u32 x, .int .i64 25] w fun e w' => e = .returned (.int .u32 (rr x 25)) ∧ ∃ q, w' = w.drewN q := by
  go_enter Tryd.func89, Tryd.ntmps89
  go_wp2_with fail
  go_quiet (fail)
  go_wp2_with fail
  go_ret
  exact ⟨by rw [← rr_turn]; rfl, _, rfl⟩
theorem turn_all (x n : Int) (w : World) (hn : n = 2 ∨ n = 6 ∨ n = 7 ∨ n = 11 ∨ n = 13 ∨ n = 17 ∨ n = 18 ∨ n = 19 ∨ n = 22 ∨ n = 25) :
    Calls Tryd.prog 89 #[.int .u32 x, .int .i64 n] w fun e w' => e = .returned (.int .u32 (rr x n.toNat)) ∧ ∃ q, w' = w.drewN q := by
  rcases hn with rfl | rfl | rfl | rfl | rfl | rfl | rfl | rfl | rfl | rfl
  · exact turn_2 x w
  · exact turn_6 x w
  · exact turn_7 x w
  · exact turn_11 x w
  · exact turn_13 x w
  · exact turn_17 x w
  · exact turn_18 x w
  · exact turn_19 x w
  · exact turn_22 x w
  · exact turn_25 x w
theorem rstart_any (w : World) : Calls Tryd.prog 87 #[] w fun e w' => e = .returned (.agg startS.cells) ∧ Below w.heap.size w w' := by
  go_enter Tryd.func87, Tryd.ntmps87
  go_wp2_with ((with_reducible show wpList _ _ _ (⟨_, .alloc 112, _, _, _, none⟩ :: _) _ _); (with_reducible refine wpRow_alloc zeroT_8 ?_ ?_ ?_); (· exact wanted0 rfl); (· rfl); refine Marker.mk ?_)
  refine Marker.in ?_
  have KR := Lib.hid (Blk.new w (u32V (zeros 8)) 112)
  have BB := Lib.hid (below_alloc1 w (.cells (u32V (zeros 8)) 112))
  generalize w.alloc (.cells (u32V (zeros 8)) 112) = w3 at *
  go_wp2_with ((with_reducible show wpList _ _ _ (⟨_, .store 112 _ _, _, _, _, none⟩ :: _) _ _); (with_reducible refine wpBlk_store (g := w.heap.size) (cs := startS.cells) agg_8 ?_ ?_ KR ?_ ?_ ?_ ?_); (· exact wanted0 rfl); (· exact ⟨rfl, rfl, rfl⟩); (· rw [u32V_size, zeros_len]); (· rfl); (· exact St.cells_one _))
  refine bodyPost_ret (v := .agg startS.cells) (results_blk agg_8 rfl _ _ (w.heap.size) _ rfl (KR.out.setRow _) (St.cells_size _)) rfl ⟨rfl, below_setRow BB.out (by omega) _⟩
theorem rootsL_len : rootsL.length = 64 := rfl
theorem build_roots : Tryd.prog.built 126 (rootsL.mapIdx fun i x => (i, Value.int .u32 x)) = some (u32V rootsL) := by kernel_rfl
theorem build_w64 : Tryd.prog.built 126 [] = some (u32V (zeros 64)) := by kernel_rfl
set_option maxRecDepth 100000 in
set_option maxHeartbeats 800000 in
theorem rroots_any (w : World) : Calls Tryd.prog 90 #[] w fun e w' => e = .returned (.agg (u32V rootsL)) ∧ Below w.heap.size w w' := by
  have BR := Lib.hid build_roots
  go_enter Tryd.func90, Tryd.ntmps90
  go_wp2_with ((with_reducible show wpList _ _ _ (⟨_, .alloc 126, _, _, _, none⟩ :: _) _ _); (with_reducible refine wpRow_alloc zeroT_64 ?_ ?_ ?_); (· exact wanted0 rfl); (· rfl); refine Marker.mk ?_)
  refine Marker.in ?_
  have KR := Lib.hid (Blk.new w (u32V (zeros 64)) 126)
  have BB := Lib.hid (below_alloc1 w (.cells (u32V (zeros 64)) 126))
  generalize w.alloc (.cells (u32V (zeros 64)) 126) = w3 at *
  go_wp2_with (first | ((with_reducible show wpList _ _ _ (⟨some 1, _, _, _, _, _⟩ :: _) _ _); refine wpList_build' rfl 126 _ rfl (u32V rootsL) BR.out ?_) | ((with_reducible show wpList _ _ _ (⟨_, .store 126 _ _, _, _, _, none⟩ :: _) _ _); (with_reducible refine wpBlk_store (g := w.heap.size) (cs := u32V rootsL) agg_64 ?_ ?_ KR ?_ ?_ ?_ ?_); (· exact wanted0 rfl); (· exact ⟨rfl, rfl, rfl⟩); (· rw [u32V_size, zeros_len]); (· rw [u32V_size, rootsL_len]); (· exact u32V_one _)))
  refine bodyPost_ret (v := .agg (u32V rootsL)) (results_blk agg_64 rfl _ _ (w.heap.size) _ rfl (KR.out.setRow _) (by rw [u32V_size, rootsL_len])) rfl ⟨rfl, below_setRow BB.out (by omega) _⟩
end Go.Proofs.YtapednkmefbldaaDoor

/- sidestickref04.Block. -/
namespace Go.Proofs.YtapednkmefbldaaDoor
open Go.RowKit

def tOnex (k w e f g h : Int) : Int := h + S1 e + chx e f g + k + w
def round1x (k w : Int) (s : St) : St :=
  ⟨(tOnex k w s.e s.f s.g s.h + tTwo s.a s.b s.c) % 4294967296, s.a, s.b, s.c, (s.d + tOnex k w s.e s.f s.g s.h) % 4294967296, s.e, s.f, s.g⟩
theorem round1x_eq (k w : Int) (s : St) : round1x k w s = round1 k w s := by
  unfold round1x round1 tOnex tOne
  rw [chx_cho]
set_option maxRecDepth 100000 in
set_option maxHeartbeats 1600000 in
theorem rblock_of (h0 r : St) (b sl : List Int) (hl : b.length = 64) (hb : ∀ x ∈ b, 0 ≤ x ∧ x ≤ 255) (hs : IsSched b sl) (hr : rounds64 rootsL sl h0 64 = r) (w : World) :
    Calls Tryd.prog 88 #[.agg h0.cells, .agg (u8V b)] w fun e w' => e = .returned (.agg (add8 r h0).cells) ∧ Below w.heap.size w w' := by
  have HL := Lib.hid hl
  have HB := Lib.hid hb
  have HS := Lib.hid hs
  have HR := Lib.hid hr
  have BW := Lib.hid build_w64
  clear hl hb hs hr
  go_enter Tryd.func88, Tryd.ntmps88
  go_wp2_with ((with_reducible show wpList _ _ _ (⟨_, .alloc 112, _, _, _, none⟩ :: _) _ _); (with_reducible refine wpRow_alloc zeroT_8 ?_ ?_ ?_); (· exact wanted0 rfl); (· rfl); refine Marker.mk ?_)
  refine Marker.in ?_
  have KH := Lib.hid (((Blk.new w h0.cells 112).alloc (.cells (u8V b) 87)).alloc (.cells (u32V (zeros 8)) 112))
  have KB := Lib.hid ((Blk.new' (w.alloc (.cells h0.cells 112)) (u8V b) 87 (g := w.heap.size + 1) (by simp)).alloc (.cells (u32V (zeros 8)) 112))
  have KR := Lib.hid (Blk.new' ((w.alloc (.cells h0.cells 112)).alloc (.cells (u8V b) 87)) (u32V (zeros 8)) 112 (g := w.heap.size + 1 + 1) (by simp))
  have BB := Lib.hid (below_alloc3 w (.cells h0.cells 112) (.cells (u8V b) 87) (.cells (u32V (zeros 8)) 112))
  generalize ((w.alloc (.cells h0.cells 112)).alloc (.cells (u8V b) 87)).alloc (.cells (u32V (zeros 8)) 112) = w3 at *
  obtain ⟨g3, hg3⟩ : ∃ g, w.heap.size + 1 = g := ⟨_, rfl⟩
  rw [hg3] at KB KR
  simp only [hg3]
  obtain ⟨g4, hg4⟩ : ∃ g, g3 + 1 = g := ⟨_, rfl⟩
  rw [hg4] at KR
  simp only [hg4]
  have n3 : w.heap.size < g3 := by omega
  have n4 : g3 < g4 := by omega
  clear hg3 hg4
  have l4 := KR.out.lt
  go_wp2_with (first | ((with_reducible show wpList _ _ _ (⟨some 18, _, _, _, _, _⟩ :: _) _ _); refine wpList_build' rfl 126 _ rfl (u32V (zeros 64)) BW.out ?_) | ((with_reducible show wpList _ _ _ (⟨_, .alloc 126, _, _, _, none⟩ :: _) _ _); (with_reducible refine wpRow_alloc zeroT_64 ?_ ?_ ?_); (· exact wanted0 rfl); (· rfl); refine Marker.mk ?_))
  refine Marker.in ?_
  have bel := below_alloc1 w3 (.cells (u32V (zeros 64)) 126)
  replace KH := Lib.hid (KH.out.below bel)
  replace KB := Lib.hid (KB.out.below bel)
  replace KR := Lib.hid (KR.out.below bel)
  replace BB := Lib.hid (bt BB.out bel)
  have KW := Lib.hid (Blk.new w3 (u32V (zeros 64)) 126)
  clear bel
  generalize w3.alloc (.cells (u32V (zeros 64)) 126) = w4 at *
  generalize w3.heap.size = g5 at *
  go_wp2_with ((with_reducible show wpList _ _ _ (⟨_, .store 126 _ _, _, _, _, none⟩ :: _) _ _); (with_reducible refine wpBlk_store (g := g5) (cs := u32V (zeros 64)) agg_64 ?_ ?_ KW ?_ ?_ ?_ ?_); (· exact wanted0 rfl); (· exact ⟨rfl, rfl, rfl⟩); (· rw [u32V_size, zeros_len]); (· rw [u32V_size, zeros_len]); (· exact u32V_one _); refine Marker.mk ?_)
  refine Marker.in ?_
  replace KH := Lib.hid (KH.out.setRow_other g5 (u32V (zeros 64)) (by omega))
  replace KB := Lib.hid (KB.out.setRow_other g5 (u32V (zeros 64)) (by omega))
  replace KR := Lib.hid (KR.out.setRow_other g5 (u32V (zeros 64)) (by omega))
  replace KW := Lib.hid (KW.out.setRow (u32V (zeros 64)))
  replace BB := Lib.hid (below_setRow (g := g5) BB.out (by omega) (u32V (zeros 64)))
  generalize w4.setRow g5 (u32V (zeros 64)) = w5 at *
  go_wp2_with fail
  go_loopw [6] (fun y wr => ∃ i : Nat, i ≤ 16 ∧ y = .int .i64 i ∧ Blk wr w.heap.size h0.cells 112 ∧ Blk wr g3 (u8V b) 87 ∧ Blk wr g4 (u32V (zeros 8)) 112 ∧ Blk wr g5 (u32V (part sl i)) 126 ∧ Below w.heap.size w wr) (fun y _ => 16 - (intOf y).toNat)
  case atStart => exact ⟨0, by omega, rfl, KH.out, KB.out, KR.out, by rw [part_zero, HS.out.1]; exact KW.out, BB.out⟩
  case round =>
    clear KH KB KR KW BB
    obtain ⟨i, hi, rfl, KH, KB, KR, KW, hB⟩ := hrel
    by_cases hlt : i < 16
    · have c0 := KB.cell (4 * i)
      have c1 := KB.cell (4 * i + 1)
      have c2 := KB.cell (4 * i + 2)
      have c3 := KB.cell (4 * i + 3)
      rw [u8V_get _ _ (by rw [HL.out]; omega)] at c0 c1 c2 c3
      have byt : ∀ k, 0 ≤ b.getD k 0 ∧ b.getD k 0 ≤ 255 := fun k => getD_byte HB.out k
      have WD := HS.out.2 i (by omega)
      rw [if_pos hlt] at WD
      unfold wordAt at WD
      have b0 := byt (4 * i)
      have b1 := byt (4 * i + 1)
      have b2 := byt (4 * i + 2)
      have b3 := byt (4 * i + 3)
      clear byt
      generalize b.getD (4 * i) 0 = x0 at *
      generalize b.getD (4 * i + 1) 0 = x1 at *
      generalize b.getD (4 * i + 2) 0 = x2 at *
      generalize b.getD (4 * i + 3) 0 = x3 at *
      have v0 : IntKind.u32.wrap x0 = x0 := wrap_u32_in _ (by omega) (by omega)
      have v1 : IntKind.u32.wrap x1 = x1 := wrap_u32_in _ (by omega) (by omega)
      have v2 : IntKind.u32.wrap x2 = x2 := wrap_u32_in _ (by omega) (by omega)
      have v3 : IntKind.u32.wrap x3 = x3 := wrap_u32_in _ (by omega) (by omega)
      have cw := KW.cell i
      have fw := KW.frozen i
      rw [u32V_get _ _ (by rw [part_len _ _ (by rw [HS.out.1]; omega), HS.out.1]; omega)] at cw
      replace WD := Lib.hid WD
      replace KH := Lib.hid KH
      replace KB := Lib.hid KB
      replace KR := Lib.hid KR
      replace KW := Lib.hid KW
      replace hB := Lib.hid hB
      go_wp2_with fail
      refine wp_region_qt' 31 (by kernel_rfl) (by kernel_rfl) ?_
      simp only [List.take_succ_cons, List.take_zero, List.drop_succ_cons, List.drop_zero]
      repeat (go_big_quiet_step (fail))
      refine wpQuiet_nil ?_
      intro _ hw'
      obtain ⟨nq, rfl⟩ := hw'
      go_wp2_with fail
      have e : bits .or .u32 (bits .or .u32 (bits .or .u32 (x0 * 16777216) (x1 * 65536)) (x2 * 256)) x3 = sl.getD i 0 := by rw [WD.out]; exact (word4_in b0.1 b0.2 b1.1 b1.2 b2.1 b2.2).symm
      rw [e]
      have hl2 := HS.out.1
      refine ⟨⟨i + 1, by omega, by simp, (KH.out.drewN nq).other _ _ _ (by omega), (KB.out.drewN nq).other _ _ _ (by omega), (KR.out.drewN nq).other _ _ _ (by omega), ?_, (below_drewN hB.out nq).setCell (by simp; omega) _⟩, by simp [intOf]; omega⟩
      have h := (KW.out.drewN nq).set i (.int .u32 (sl.getD i 0))
      rw [u32V_set, part_set _ _ (by omega)] at h
      exact h
    · obtain rfl : i = 16 := by omega
      rw [show ((16 : Nat) : Int) = 16 from rfl]
      replace KH := Lib.hid KH
      replace KR := Lib.hid KR
      replace KW := Lib.hid KW
      replace hB := Lib.hid hB
      go_wp2_with fail
      go_loopw [7] (fun y wx => ∃ i : Nat, 16 ≤ i ∧ i ≤ 64 ∧ y = .int .i64 i ∧ Blk wx w.heap.size h0.cells 112 ∧ Blk wx g4 (u32V (zeros 8)) 112 ∧ Blk wx g5 (u32V (part sl i)) 126 ∧ Below w.heap.size w wx) (fun y _ => 64 - (intOf y).toNat)
      case atStart => exact ⟨16, by omega, by omega, rfl, KH.out, KR.out, KW.out, hB.out⟩
      case round =>
        clear KH KB KR KW hB
        obtain ⟨i, hi0, hi, rfl, KH, KR, KW, hB⟩ := hrel
        by_cases hlt : i < 64
        · have hl2 := HS.out.1
          have lp : (part sl i).length = 64 := by rw [part_len _ _ (by omega), hl2]
          have c0 := KW.cell (i - 16)
          have c1 := KW.cell (i - 7)
          have c2 := KW.cell (i - 15)
          have c3 := KW.cell (i - 2)
          have cw := KW.cell i
          have fw := KW.frozen i
          rw [u32V_get _ _ (by omega)] at c0 c1 c2 c3 cw
          rw [part_getD _ _ _ (by omega) (by omega)] at c0 c1 c2 c3
          have WD := HS.out.2 i hlt
          rw [if_neg (by omega)] at WD
          unfold nxtAt at WD
          generalize sl.getD (i - 16) 0 = x0 at *
          generalize sl.getD (i - 7) 0 = x1 at *
          generalize sl.getD (i - 15) 0 = x2 at *
          generalize sl.getD (i - 2) 0 = x3 at *
          replace WD := Lib.hid WD
          replace KH := Lib.hid KH
          replace KR := Lib.hid KR
          replace KW := Lib.hid KW
          replace hB := Lib.hid hB
          replace hl2 := Lib.hid hl2
          clear lp
          go_wp2_with fail
          refine wp_region_qt' 29 (by kernel_rfl) (by kernel_rfl) ?_
          simp only [List.take_succ_cons, List.take_zero, List.drop_succ_cons, List.drop_zero]
          repeat (go_big_quiet_step (((with_reducible refine (turn_all _ _ _ ?_).mono ?_); (· decide); (rintro e w2 ⟨rfl, qq, rfl⟩; exact ⟨rfl, _, drew2 _ _ _⟩))))
          refine wpQuiet_nil ?_
          intro _ hw'
          obtain ⟨nq2, rfl⟩ := hw'
          go_wp2_with fail
          have hl2 := hl2.out
          have e : (x0 + x1 + sg0 x2 + sg1 x3) % 4294967296 = sl.getD i 0 := by rw [WD.out]; rfl
          refine ⟨⟨i + 1, by omega, by omega, by simp, (KH.out.drewN _).other _ _ _ (by omega), (KR.out.drewN _).other _ _ _ (by omega), ?_, (below_drewN hB.out _).setCell (by simp; omega) _⟩, by simp [intOf]; omega⟩
          have h := (KW.out.drewN nq2).set i (.int .u32 (sl.getD i 0))
          rw [u32V_set, part_set _ _ (by omega), ← e] at h
          exact h
        · obtain rfl : i = 64 := by omega
          rw [show ((64 : Nat) : Int) = 64 from rfl]
          rw [part_all _ _ (by rw [HS.out.1]; omega)] at KW
          replace KH := Lib.hid KH
          replace KR := Lib.hid KR
          replace KW := Lib.hid KW
          replace hB := Lib.hid hB
          go_wp2_with fail
          ((with_reducible refine (rroots_any _).mono ?_))
          rintro e w6 ⟨rfl, b6⟩
          replace KH := Lib.hid (KH.out.below b6)
          replace KR := Lib.hid (KR.out.below b6)
          replace KW := Lib.hid (KW.out.below b6)
          replace hB := Lib.hid (bt hB.out b6)
          clear b6
          have l5 := KW.out.lt
          go_wp2_with ((with_reducible show wpList _ _ _ (⟨_, .alloc 126, _, _, _, none⟩ :: _) _ _); (with_reducible refine wpRow_alloc zeroT_64 ?_ ?_ ?_); (· exact wanted0 rfl); (· rfl); refine Marker.mk ?_)
          refine Marker.in ?_
          have bel := below_alloc1 w6 (.cells (u32V (zeros 64)) 126)
          replace KH := Lib.hid (KH.out.below bel)
          replace KR := Lib.hid (KR.out.below bel)
          replace KW := Lib.hid (KW.out.below bel)
          replace hB := Lib.hid (bt hB.out bel)
          have KT := Lib.hid (Blk.new w6 (u32V (zeros 64)) 126)
          clear bel
          generalize w6.alloc (.cells (u32V (zeros 64)) 126) = w7 at *
          generalize w6.heap.size = g10 at *
          go_wp2_with ((with_reducible show wpList _ _ _ (⟨_, .store 126 _ _, _, _, _, none⟩ :: _) _ _); (with_reducible refine wpBlk_store (g := g10) (cs := u32V rootsL) agg_64 ?_ ?_ KT ?_ ?_ ?_ ?_); (· exact wanted0 rfl); (· exact ⟨rfl, rfl, rfl⟩); (· rw [u32V_size, zeros_len]); (· rw [u32V_size, rootsL_len]); (· exact u32V_one _); refine Marker.mk ?_)
          refine Marker.in ?_
          replace KH := Lib.hid (KH.out.setRow_other g10 (u32V rootsL) (by omega))
          replace KR := Lib.hid (KR.out.setRow_other g10 (u32V rootsL) (by omega))
          replace KW := Lib.hid (KW.out.setRow_other g10 (u32V rootsL) (by omega))
          replace KT := Lib.hid (KT.out.setRow (u32V rootsL))
          replace hB := Lib.hid (below_setRow (g := g10) hB.out (by omega) (u32V rootsL))
          generalize w7.setRow g10 (u32V rootsL) = w8 at *
          have l10 := KT.out.lt
          go_wp2_with (first | ((with_reducible show wpList _ _ _ (⟨_, .load 112 _, _, _, _, none⟩ :: _) _ _); (with_reducible refine wpBlk_load (g := w.heap.size) agg_8 ?_ ?_ KH ?_ ?_); (· exact wanted0 rfl); (· exact ⟨rfl, rfl⟩); (· exact St.cells_size _)) | ((with_reducible show wpList _ _ _ (⟨_, .alloc 112, _, _, _, none⟩ :: _) _ _); (with_reducible refine wpRow_alloc zeroT_8 ?_ ?_ ?_); (· exact wanted0 rfl); (· rfl); refine Marker.mk ?_))
          refine Marker.in ?_
          have bel := below_alloc1 w8 (.cells (u32V (zeros 8)) 112)
          replace KH := Lib.hid (KH.out.below bel)
          replace KR := Lib.hid (KR.out.below bel)
          replace KW := Lib.hid (KW.out.below bel)
          replace KT := Lib.hid (KT.out.below bel)
          replace hB := Lib.hid (bt hB.out bel)
          have KV := Lib.hid (Blk.new w8 (u32V (zeros 8)) 112)
          clear bel
          generalize w8.alloc (.cells (u32V (zeros 8)) 112) = w9 at *
          generalize w8.heap.size = g11 at *
          go_wp2_with ((with_reducible show wpList _ _ _ (⟨_, .store 112 _ _, _, _, _, none⟩ :: _) _ _); (with_reducible refine wpBlk_store (g := g11) (cs := h0.cells) agg_8 ?_ ?_ KV ?_ ?_ ?_ ?_); (· exact wanted0 rfl); (· exact ⟨rfl, rfl, rfl⟩); (· rw [u32V_size, zeros_len]); (· exact St.cells_size _); (· exact St.cells_one _); refine Marker.mk ?_)
          refine Marker.in ?_
          replace KH := Lib.hid (KH.out.setRow_other g11 h0.cells (by omega))
          replace KR := Lib.hid (KR.out.setRow_other g11 h0.cells (by omega))
          replace KW := Lib.hid (KW.out.setRow_other g11 h0.cells (by omega))
          replace KT := Lib.hid (KT.out.setRow_other g11 h0.cells (by omega))
          replace KV := Lib.hid (KV.out.setRow h0.cells)
          replace hB := Lib.hid (below_setRow (g := g11) hB.out (by omega) h0.cells)
          generalize w9.setRow g11 h0.cells = w10 at *
          go_wp2_with fail
          go_loopw [12] (fun y wr => ∃ i : Nat, i ≤ 64 ∧ y = .int .i64 i ∧ Blk wr g11 (rounds64 rootsL sl h0 i).cells 112 ∧ Blk wr g10 (u32V rootsL) 126 ∧ Blk wr g5 (u32V sl) 126 ∧ Blk wr w.heap.size h0.cells 112 ∧ Blk wr g4 (u32V (zeros 8)) 112 ∧ Below w.heap.size w wr) (fun y _ => 64 - (intOf y).toNat)
          case atStart => exact ⟨0, by omega, rfl, KV.out, KT.out, KW.out, KH.out, KR.out, hB.out⟩
          case round =>
            clear KV KT KW KH KR hB
            obtain ⟨i, hi, rfl, KV, KT, KW, KH, KR, hB⟩ := hrel
            by_cases hlt : i < 64
            · have STEP : rounds64 rootsL sl h0 (i + 1) = round1 (rootsL.getD i 0) (sl.getD i 0) (rounds64 rootsL sl h0 i) := rfl
              have cr := KT.cell i
              rw [u32V_get _ _ (by rw [rootsL_len]; omega)] at cr
              have cw := KW.cell i
              rw [u32V_get _ _ (by rw [HS.out.1]; omega)] at cw
              generalize hq : rounds64 rootsL sl h0 i = q at *
              generalize rootsL.getD i 0 = k at *
              generalize sl.getD i 0 = x at *
              replace STEP := Lib.hid STEP
              obtain ⟨qa, qb, qc, qd, qe, qf, qg, qh⟩ := q
              clear hq
              have cn := fun j => KV.cell j
              simp only [St.cells] at cn
              replace KV := Lib.hid KV
              replace KT := Lib.hid KT
              replace KW := Lib.hid KW
              replace KH := Lib.hid KH
              replace KR := Lib.hid KR
              replace hB := Lib.hid hB
              go_wp2_with fail
              go_quiet (((with_reducible refine (turn_all _ _ _ ?_).mono ?_); (· decide); (rintro e w2 ⟨rfl, qq, rfl⟩; exact ⟨rfl, _, drew2 _ _ _⟩)))
              replace cr : (wr.drewN nq).cell? _ = _ := cr
              replace cw : (wr.drewN nq).cell? _ = _ := cw
              replace cn : ∀ j, (wr.drewN nq).cell? _ = _ := cn
              replace KV := Lib.hid (KV.out.drewN nq)
              replace KT := Lib.hid (KT.out.drewN nq)
              replace KW := Lib.hid (KW.out.drewN nq)
              replace KH := Lib.hid (KH.out.drewN nq)
              replace KR := Lib.hid (KR.out.drewN nq)
              replace hB := Lib.hid (below_drewN hB.out nq)
              generalize wr.drewN nq = wq at *
              go_wp2_with fail
              go_quiet (((with_reducible refine (turn_all _ _ _ ?_).mono ?_); (· decide); (rintro e w2 ⟨rfl, qq, rfl⟩; exact ⟨rfl, _, drew2 _ _ _⟩)))
              have KV2 := Lib.hid (KV.out.drewN nq)
              go_wp2_with ((with_reducible show wpList _ _ _ (⟨_, .store 112 _ _, _, _, _, none⟩ :: _) _ _); (with_reducible refine wpBlk_store (g := g11) (cs := (round1x k x ⟨qa, qb, qc, qd, qe, qf, qg, qh⟩).cells) agg_8 ?_ ?_ KV2 ?_ ?_ ?_ ?_); (· exact wanted0 rfl); (· exact ⟨rfl, rfl, rfl⟩); (· exact St.cells_size _); (· exact St.cells_size _); (· exact St.cells_one _); refine Marker.mk ?_)
              refine Marker.in ?_
              clear cr cw cn
              go_wp2_with fail
              refine ⟨⟨i + 1, by omega, by simp, ?_, (KT.out.drewN _).setRow_other _ _ (by omega), (KW.out.drewN _).setRow_other _ _ (by omega), (KH.out.drewN _).setRow_other _ _ (by omega), (KR.out.drewN _).setRow_other _ _ (by omega), below_setRow (below_drewN hB.out _) (by omega) _⟩, by simp [intOf]; omega⟩
              rw [STEP.out, ← round1x_eq]
              exact KV2.out.setRow _
            · obtain rfl : i = 64 := by omega
              rw [show ((64 : Nat) : Int) = 64 from rfl]
              rw [HR.out] at KV
              replace KV := Lib.hid KV
              replace KH := Lib.hid KH
              replace KR := Lib.hid KR
              replace hB := Lib.hid hB
              clear KT KW
              go_wp2_with fail
              go_loopw [17] (fun y wx => ∃ i : Nat, i ≤ 8 ∧ y = .int .i64 i ∧ Blk wx w.heap.size (u32V (over (add8 r h0).list h0.list i)) 112 ∧ Blk wx g11 r.cells 112 ∧ Blk wx g4 (u32V (zeros 8)) 112 ∧ Below w.heap.size w wx) (fun y _ => 8 - (intOf y).toNat)
              case atStart => exact ⟨0, by omega, rfl, by rw [over_zero]; exact KH.out, KV.out, KR.out, hB.out⟩
              case round =>
                clear KV KH KR hB
                obtain ⟨i, hi, rfl, KH, KV, KR, hB⟩ := hrel
                by_cases hlt : i < 8
                · have c0 := KH.cell i
                  have c1 := KV.cell i
                  have f0 := KH.frozen i
                  rw [u32V_get _ _ (by rw [over_len (add8 r h0).list h0.list i rfl hi]; exact hlt), over_getD (add8 r h0).list h0.list i i rfl (Nat.le_refl _) hlt] at c0
                  rw [show r.cells = u32V r.list from rfl, u32V_get _ _ (by exact hlt)] at c1
                  have AD := add8_at r h0 i hlt
                  generalize r.list.getD i 0 = x0 at *
                  generalize h0.list.getD i 0 = x1 at *
                  rw [Int.add_comm x0 x1] at AD
                  replace AD := Lib.hid AD
                  replace KV := Lib.hid KV
                  replace KH := Lib.hid KH
                  replace KR := Lib.hid KR
                  replace hB := Lib.hid hB
                  go_wp2_with fail
                  refine wp_region_qt' 9 (by kernel_rfl) (by kernel_rfl) ?_
                  simp only [List.take_succ_cons, List.take_zero, List.drop_succ_cons, List.drop_zero]
                  repeat (go_big_quiet_step (fail))
                  refine wpQuiet_nil ?_
                  intro _ hw'
                  obtain ⟨nq, rfl⟩ := hw'
                  go_wp2_with fail
                  refine ⟨⟨i + 1, by omega, by simp, ?_, (KV.out.drewN _).other _ _ _ (by omega), (KR.out.drewN _).other _ _ _ (by omega), (below_drewN hB.out _).setCell (by simp) _⟩, by simp [intOf]; omega⟩
                  have hh := (KH.out.drewN nq).set i (.int .u32 ((add8 r h0).list.getD i 0))
                  rw [u32V_set, over_set (add8 r h0).list h0.list i rfl hlt, AD.out] at hh
                  exact hh
                · obtain rfl : i = 8 := by omega
                  rw [show ((8 : Nat) : Int) = 8 from rfl]
                  rw [over_all (add8 r h0).list h0.list 8 (Nat.le_refl 8) (Nat.le_refl 8)] at KH
                  replace KH := Lib.hid (show Blk wr w.heap.size (add8 r h0).cells 112 from KH)
                  replace KR := Lib.hid KR
                  replace hB := Lib.hid hB
                  go_wp2_with (first | ((with_reducible show wpList _ _ _ (⟨_, .load 112 _, _, _, _, none⟩ :: _) _ _); (with_reducible refine wpBlk_load (g := w.heap.size) agg_8 ?_ ?_ KH ?_ ?_); (· exact wanted0 rfl); (· exact ⟨rfl, rfl⟩); (· exact St.cells_size _)) | ((with_reducible show wpList _ _ _ (⟨_, .store 112 _ _, _, _, _, none⟩ :: _) _ _); (with_reducible refine wpBlk_store (g := g4) (cs := (add8 r h0).cells) agg_8 ?_ ?_ KR ?_ ?_ ?_ ?_); (· exact wanted0 rfl); (· exact ⟨rfl, rfl, rfl⟩); (· rw [u32V_size, zeros_len]); (· exact St.cells_size _); (· exact St.cells_one _)))
                  refine bodyPost_ret (v := .agg (add8 r h0).cells) (results_blk agg_8 rfl _ _ g4 _ rfl (KR.out.setRow _) (St.cells_size _)) rfl ⟨rfl, below_setRow hB.out (by omega) _⟩
theorem rblock_any (q : St) (b : List Int) (hl : b.length = 64) (hb : ∀ x ∈ b, 0 ≤ x ∧ x ≤ 255) (w : World) :
    Calls Tryd.prog 88 #[.agg q.cells, .agg (u8V b)] w fun e w' => e = .returned (.agg (blockS q b).cells) ∧ Below w.heap.size w w' :=
  rblock_of q _ b _ hl hb (sched_is b) rfl w
end Go.Proofs.YtapednkmefbldaaDoor

/- sidestickref04.Pad. -/
namespace Go.Proofs.YtapednkmefbldaaDoor
open Go.RowKit

theorem be_take_succ (N : Int) (j : Nat) (h : j < 8) : (be N 8).take (j + 1) = (be N 8).take j ++ [N / 2 ^ (8 * (7 - j)) % 256] := by
  rw [List.take_succ_eq_append_getElem (by rw [be_len]; omega)]
  congr 1
  simp [be]
theorem u64_and255 (n : Int) (h0 : 0 ≤ n) (h1 : n ≤ 18446744073709551615) : bits .and .u64 n 255 = n % 256 := by
  have h := u64_mask 8 (by omega) n h0 h1
  rw [show IntKind.u64.wrap (IntKind.u64.wrap (2 ^ 8) - 1) = 255 by decide] at h
  rw [h]; rfl
theorem padL_split (xs : List Int) : padL xs = (xs ++ 128 :: List.replicate (wholeOf xs.length - xs.length - 9) 0) ++ be ((xs.length : Int) * 8) 8 := by
  simp [padL]
theorem one_byte {w : World} (x : Int) (h : 0 ≤ x ∧ x ≤ 255) : Row (w.alloc (.cells #[.int .u8 x] 5)) (some ⟨w.heap.size, 0, none⟩) [x] := row_block' (heap_alloc_new _ _) rfl (by intro y hy; simp at hy; subst hy; exact h)
set_option maxRecDepth 100000 in
set_option maxHeartbeats 800000 in
theorem rpad_any (A : Option Addr) (xs : List Int) (n c : Nat) (w : World) (hn : xs.length = n) (hr : Row w A xs) (hl : n ≤ 1000000) :
    Calls Tryd.prog 86 #[.slice A n c] w fun e w' => (∃ B d, e = .returned (.slice B (wholeOf n) d) ∧ Own w' w.heap.size B d (padL xs)) ∧ Below w.heap.size w w' := by
  obtain ⟨z, hz⟩ : ∃ z, wholeOf n - n - 9 = z := ⟨_, rfl⟩
  have hz1 : ∀ k : Nat, k < z → (((n + 1 + k : Nat) : Int) % 64 != 56) = true := by
    intro k hk
    have : wholeOf n = (n + 72) / 64 * 64 := rfl
    have h2 : ((n + 1 + k : Nat) : Int) % 64 ≠ 56 := by omega
    simpa using h2
  have hz2 : (((n + 1 + z : Nat) : Int) % 64 != 56) = false := by
    have : wholeOf n = (n + 72) / 64 * 64 := rfl
    have h2 : ((n + 1 + z : Nat) : Int) % 64 = 56 := by omega
    rw [h2]; rfl
  have hW : wholeOf n = n + 1 + z + 8 := by have := wholeOf_le n; omega
  have hz3 : z ≤ 64 := by have : wholeOf n = (n + 72) / 64 * 64 := rfl; omega
  have hPS := padL_split xs
  rw [hn, hz] at hPS
  rw [hW, hPS]
  obtain ⟨N, hNN⟩ : ∃ N : Int, (n : Int) * 8 = N := ⟨_, rfl⟩
  have hN0 : 0 ≤ N ∧ N ≤ 18446744073709551615 := by omega
  have BT := be_take_succ N
  have BL := be_len N 8
  rw [hNN]
  have hshr : ∀ s : Nat, 0 ≤ N / 2 ^ (8 * s) ∧ N / 2 ^ (8 * s) ≤ 18446744073709551615 := by
    intro s
    have hp : (0 : Int) < 2 ^ (8 * s) := Int.pow_pos (by omega)
    exact ⟨Int.ediv_nonneg hN0.1 (by omega), Int.le_trans (Int.ediv_le_self _ hN0.1) hN0.2⟩
  have HZ1 := Lib.hid hz1
  have HZ2 := Lib.hid hz2
  have HN := Lib.hid hn
  have HR := Lib.hid hr
  have HBT := Lib.hid BT
  have HBL := Lib.hid BL
  have HNN := Lib.hid hNN
  have HSH := Lib.hid hshr
  generalize be N 8 = nb at *
  clear hz1 hz2 hz hn hr hW hPS BT BL hNN hshr
  go_enter Tryd.func86, Tryd.ntmps86
  go_wp2_with (at_builtin; refine Marker.mk ?_)
  refine Marker.in ?_
  have b1 := below_alloc1 w (.cells #[] 5)
  have o1 := own_lit w w.heap.size (Nat.le_refl _)
  have r1 := row_below HR.out b1
  have BB := Lib.hid b1
  generalize hw1 : w.alloc (.cells #[] 5) = w1 at *
  clear hw1 b1
  replace o1 := Lib.hid o1
  replace r1 := Lib.hid r1
  (with_reducible refine wpList_append_bytes _ ?_ (.tmp 6) (.tmp 7) rfl w.heap.size (some ⟨w.heap.size, 0, none⟩) 0 0 [] rfl ?_ o1.out A c n xs HN.out ?_ r1.out (by omega) BB.out.size ?_)
  · rfl
  · rfl
  · rfl
  intro A2 c2 w2 o2 b2
  rw [Nat.zero_add]
  replace BB := Lib.hid (BB.out.trans b2)
  rw [List.nil_append] at o2
  replace o2 := Lib.hid o2
  clear b2 o1 r1
  go_wp2_with (at_builtin; refine Marker.mk ?_)
  refine Marker.in ?_
  have b3 := below_alloc1 w2 (.cells #[.int .u8 128] 5)
  have o3 := own_below o2.out b3
  have r3 := one_byte (w := w2) 128 (by omega)
  replace BB := Lib.hid (bt BB.out b3)
  generalize w2.alloc (.cells #[.int .u8 128] 5) = w3 at *
  generalize w2.heap.size = g3 at *
  replace o3 := Lib.hid o3
  replace r3 := Lib.hid r3
  clear b3 o2
  (with_reducible refine wpList_append_bytes _ ?_ (.tmp 8) (.tmp 9) rfl w.heap.size A2 c2 n xs HN.out ?_ o3.out (some ⟨g3, 0, none⟩) 1 1 [128] rfl ?_ r3.out (by omega) BB.out.size ?_)
  · rfl
  · rfl
  · rfl
  intro A4 c4 w4 o4 b4
  replace BB := Lib.hid (BB.out.trans b4)
  replace o4 := Lib.hid o4
  clear b4 o3 r3
  go_wp2_with fail
  go_loopw [3] (fun x wr => ∃ (k : Nat) (B : Option Addr) (d : Nat) (L : Nat), k ≤ z ∧ x = .slice B L d ∧ L = n + 1 + k ∧ Own wr w.heap.size B d (xs ++ 128 :: List.replicate k 0) ∧ Below w.heap.size w wr) (fun x _ => match x with | .slice _ L _ => n + 1 + z - L | _ => 0)
  case atStart => exact ⟨0, A4, c4, n + 1, Nat.zero_le _, rfl, rfl, o4.out, BB.out⟩
  case round =>
    clear o4 BB
    obtain ⟨k, B, d, L, hk, rfl, hL, ho, BB⟩ := hrel
    have LX : (xs ++ 128 :: List.replicate k 0).length = L := by simp [HN.out]; omega
    replace BB := Lib.hid BB
    replace ho := Lib.hid ho
    replace LX := Lib.hid LX
    by_cases hlt : k < z
    · have t1 := HZ1.out k hlt
      rw [← hL] at t1
      have hL2 : L ≤ 2000000 := by omega
      have HL := Lib.hid hL
      clear hL
      go_wp2_with (at_builtin; refine Marker.mk ?_)
      refine Marker.in ?_
      clear t1
      have b3 := below_alloc1 wr (.cells #[.int .u8 0] 5)
      have o3 := own_below ho.out b3
      have r3 := one_byte (w := wr) 0 (by omega)
      replace BB := Lib.hid (bt BB.out b3)
      generalize wr.alloc (.cells #[.int .u8 0] 5) = w5 at *
      generalize wr.heap.size = g5 at *
      replace o3 := Lib.hid o3
      replace r3 := Lib.hid r3
      clear b3
      (with_reducible refine wpList_append_bytes _ ?_ (.tmp 15) (.tmp 16) rfl w.heap.size B d L (xs ++ 128 :: List.replicate k 0) LX.out ?_ o3.out (some ⟨g5, 0, none⟩) 1 1 [0] rfl ?_ r3.out (by omega) BB.out.size ?_)
      · rfl
      · rfl
      · rfl
      intro A6 c6 w6 o6 b6
      replace BB := Lib.hid (BB.out.trans b6)
      have e6 : (xs ++ 128 :: List.replicate k 0) ++ [0] = xs ++ 128 :: List.replicate (k + 1) 0 := by rw [List.replicate_succ']; simp
      rw [e6] at o6
      replace o6 := Lib.hid o6
      clear b6 o3 r3 e6
      go_wp2_with fail
      have hL := HL.out
      exact ⟨⟨k + 1, A6, c6, L + 1, by omega, rfl, by omega, o6.out, BB.out⟩, by simp only; omega⟩
    · obtain rfl : k = z := by omega
      have t1 := HZ2.out
      rw [← hL] at t1
      rw [← hL]
      have hL2 : L ≤ 2000000 := by omega
      have nn := HNN.out
      have HL := Lib.hid hL
      clear hL
      go_wp2_with fail
      clear t1 nn
      generalize hpre : xs ++ 128 :: List.replicate k 0 = pre at *
      replace hpre := Lib.hid hpre
      go_loopw [3, 5] (fun x y wx => ∃ (t : Nat) (C : Option Addr) (f M : Nat), t ≤ 8 ∧ y = .int .i64 ((t : Int) - 1) ∧ x = .slice C M f ∧ M = L + (8 - t) ∧ Own wx w.heap.size C f (pre ++ nb.take (8 - t)) ∧ Below w.heap.size w wx) (fun _ y _ => (intOf y + 1).toNat)
      case atStart => exact ⟨8, B, d, L, by omega, rfl, rfl, by omega, by simpa using ho.out, BB.out⟩
      case round =>
        clear ho BB
        obtain ⟨t, C, f, M, ht, rfl, rfl, hM, ho, BB⟩ := hrel
        replace BB := Lib.hid BB
        replace ho := Lib.hid ho
        cases t with
        | succ s =>
          have es : ((s + 1 : Nat) : Int) - 1 = (s : Int) := by omega
          rw [es]
          have LX2 : (pre ++ nb.take (8 - (s + 1))).length = M := by rw [List.length_append, LX.out, List.length_take, HBL.out]; omega
          replace LX2 := Lib.hid LX2
          have BT := HBT.out (8 - (s + 1)) (by omega)
          rw [show 8 - (s + 1) + 1 = 8 - s by omega, show 7 - (8 - (s + 1)) = s by omega] at BT
          have sh := HSH.out s
          have AN := u64_and255 (N / 2 ^ (8 * s)) sh.1 sh.2
          have vb : 0 ≤ N / 2 ^ (8 * s) % 256 ∧ N / 2 ^ (8 * s) % 256 ≤ 255 := by omega
          have wv : IntKind.u8.wrap (N / 2 ^ (8 * s) % 256) = N / 2 ^ (8 * s) % 256 := by rw [IntKind.wrap_u8']; omega
          generalize N / 2 ^ (8 * s) % 256 = v at *
          replace BT := Lib.hid BT
          have hM2 : M ≤ 2000100 := by omega
          have HM := Lib.hid hM
          clear hM es
          go_wp2_with (at_builtin; refine Marker.mk ?_)
          refine Marker.in ?_
          clear AN wv sh
          have b3 := below_alloc1 wr (.cells #[.int .u8 v] 5)
          have o3 := own_below ho.out b3
          have r3 := one_byte (w := wr) v vb
          replace BB := Lib.hid (bt BB.out b3)
          generalize wr.alloc (.cells #[.int .u8 v] 5) = w5 at *
          generalize wr.heap.size = g5 at *
          replace o3 := Lib.hid o3
          replace r3 := Lib.hid r3
          clear b3
          (with_reducible refine wpList_append_bytes _ ?_ (.tmp 26) (.tmp 33) rfl w.heap.size C f M (pre ++ nb.take (8 - (s + 1))) LX2.out ?_ o3.out (some ⟨g5, 0, none⟩) 1 1 [v] rfl ?_ r3.out (by omega) BB.out.size ?_)
          · rfl
          · rfl
          · rfl
          intro A6 c6 w6 o6 b6
          replace BB := Lib.hid (BB.out.trans b6)
          rw [List.append_assoc, ← BT.out] at o6
          replace o6 := Lib.hid o6
          clear b6 o3 r3 BT
          go_wp2_with fail
          have hM := HM.out
          exact ⟨⟨s, A6, c6, M + 1, by omega, by first | rfl | simp, rfl, by omega, o6.out, BB.out⟩, by simp [intOf]⟩
        | zero =>
          have hM2 : M ≤ 2000100 := by omega
          obtain rfl : M = L + 8 := by omega
          have ha := ho.out
          rw [List.take_of_length_le (by rw [HBL.out]; omega)] at ha
          replace ha := Lib.hid ha
          clear hM
          go_wp2_with fail
          go_ret
          exact ⟨⟨C, f, by rw [← HL.out]; rfl, by rw [hpre.out]; exact ha.out⟩, BB.out⟩
end Go.Proofs.YtapednkmefbldaaDoor

/- sidestickref04.Sum. -/
namespace Go.Proofs.YtapednkmefbldaaDoor
open Go.RowKit

theorem u32_mask (k : Nat) (hk : k ≤ 31) (a : Int) (m : Int) (hm : m = ((2 ^ k - 1 : Nat) : Int)) : bits .and .u32 a m = a % (2 ^ k : Nat) := by
  subst hm
  have hp : 2 ^ k ≤ 2 ^ 31 := Nat.pow_le_pow_right (by omega) hk
  have hp0 : 0 < 2 ^ k := Nat.two_pow_pos k
  show IntKind.u32.wrap ((BitVec.ofInt 32 a &&& BitVec.ofInt 32 ((2 ^ k - 1 : Nat) : Int)).toNat : Int) = _
  rw [BitVec.toNat_and, BitVec.toNat_ofInt, BitVec.ofInt_natCast, BitVec.toNat_ofNat, Nat.mod_eq_of_lt (by omega), Nat.and_two_pow_sub_one_eq_mod]
  have e : (((a % ((2 ^ 32 : Nat) : Int)).toNat % 2 ^ k : Nat) : Int) = a % ((2 ^ k : Nat) : Int) := by
    rw [Int.natCast_emod, Int.toNat_of_nonneg (Int.emod_nonneg _ (by omega))]
    apply Int.emod_emod_of_dvd
    exact_mod_cast Nat.pow_dvd_pow 2 (by omega)
  rw [e]
  have h1 := Int.emod_nonneg a (b := ((2 ^ k : Nat) : Int)) (by omega)
  have h2 := Int.emod_lt_of_pos a (b := ((2 ^ k : Nat) : Int)) (by omega)
  exact wrap_u32_in _ h1 (by omega)
theorem u32_and255 (a : Int) : bits .and .u32 a 255 = a % 256 := u32_mask 8 (by omega) a 255 rfl
theorem own_blk {w : World} {base : Nat} {A : Option Addr} {cap : Nat} {xs : List Int} (h : Own w base A cap xs) (hp : 0 < xs.length) :
    ∃ g cur, A = some ⟨g, 0, none⟩ ∧ base ≤ g ∧ Blk w g cur 5 ∧ cur.toList.take xs.length = xs.map (Value.int .u8) ∧ xs.length ≤ cap := by
  rcases h.1.2 with ⟨hv, hn⟩ | ⟨g, cap', cur, hv, hg, hh, hl, hm, hs, ht⟩
  · omega
  · injection hv with h1 h2 h3
    rw [Nat.mul_one] at ht
    exact ⟨g, cur, h1, hg, hh, ht, by omega⟩
theorem row_cur {w : World} {g : Nat} {cur : Array Value} {T : TypeId} {P : List Int} (hk : Blk w g cur T) (ht : cur.toList.take P.length = P.map (Value.int .u8)) (hb : ∀ x ∈ P, 0 ≤ x ∧ x ≤ 255) (off n : Nat) :
    Row w (some ⟨g, off, none⟩) ((P.drop off).take n) := by
  refine ⟨.inr ⟨g, off, rfl, fun i hi => ?_⟩, fun x hx => hb x (List.mem_of_mem_drop (List.mem_of_mem_take hx))⟩
  have hi2 : off + i < P.length := by simp at hi; omega
  rw [hk.cell (off + i), ← Array.getElem?_toList, ← List.getElem?_take_of_lt hi2, ht]
  simp [hi2]
theorem digest_idx (q : St) (i : Nat) (hi : i < 32) : (digest q).getD i 0 = q.list.getD (i / 4) 0 / 2 ^ (8 * (3 - i % 4)) % 256 := by
  obtain ⟨h0, h1, h2, h3⟩ := digest_at q (i / 4) (by omega)
  have hc : i % 4 = 0 ∨ i % 4 = 1 ∨ i % 4 = 2 ∨ i % 4 = 3 := by omega
  rcases hc with h | h | h | h
  · rw [h]; conv => lhs; rw [show i = 4 * (i / 4) by omega]
    rw [h0]; rfl
  · rw [h]; conv => lhs; rw [show i = 4 * (i / 4) + 1 by omega]
    rw [h1]; rfl
  · rw [h]; conv => lhs; rw [show i = 4 * (i / 4) + 2 by omega]
    rw [h2]; rfl
  · rw [h]; conv => lhs; rw [show i = 4 * (i / 4) + 3 by omega]
    rw [h3]; show _ = _ / 1 % 256; rw [Int.ediv_one]
theorem build_x64 : Tryd.prog.built 87 [] = some (u8V (zeros 64)) := by kernel_rfl
theorem build_x32 : Tryd.prog.built 22 [] = some (u8V (zeros 32)) := by kernel_rfl
set_option maxRecDepth 100000 in
set_option maxHeartbeats 1600000 in
theorem rsum_any (A : Option Addr) (xs : List Int) (n c : Nat) (w : World) (hn : xs.length = n) (hr : Row w A xs) (hl : n ≤ 1000000) :
    Calls Tryd.prog 77 #[.slice A n c] w fun e w' => e = .returned (.agg (u8V (sha xs))) ∧ Below w.heap.size w w' := by
  obtain ⟨m, hm⟩ : ∃ m, wholeOf n / 64 = m := ⟨_, rfl⟩
  obtain ⟨P, hP⟩ : ∃ P, padL xs = P := ⟨_, rfl⟩
  obtain ⟨L, hL⟩ : ∃ L, wholeOf n = L := ⟨_, rfl⟩
  have hL2 : L = 64 * m := by rw [← hL, ← hm, wholeOf_div]
  have hPl : P.length = L := by rw [← hP, padL_len, hn, hL]
  have hPb : ∀ x ∈ P, 0 ≤ x ∧ x ≤ 255 := by rw [← hP]; exact padL_bytes xs hr.2
  have hm2 : 0 < m ∧ m ≤ 100000 := by rw [← hm]; unfold wholeOf; omega
  have hSha : sha xs = digest (sumTo P m) := by unfold sha shaS; rw [hn, hm, hP]
  rw [hSha]
  have CP := fun (W : World) (hb : Below w.heap.size w W) => rpad_any A xs n c W hn (row_below hr hb) hl
  rw [hP, hL] at CP
  replace CP := Lib.hid CP
  have HL2 := Lib.hid hL2
  have HPL := Lib.hid hPl
  have HPB := Lib.hid hPb
  have BX := Lib.hid build_x64
  have BY := Lib.hid build_x32
  have hL3 : L ≤ 10000000 := by omega
  have hL4 : 0 < L := by omega
  clear hn hr hP hPl hPb hSha hm hL2 hL hm2
  go_enter Tryd.func77, Tryd.ntmps77
  go_wp2_with ((with_reducible show wpList _ _ _ (⟨_, .alloc 22, _, _, _, none⟩ :: _) _ _); (with_reducible refine wpRow_alloc zeroT_b32 ?_ ?_ ?_); (· exact wanted0 rfl); (· rfl); refine Marker.mk ?_)
  refine Marker.in ?_
  have BB := Lib.hid (Below.refl w.heap.size w)
  have bel := below_alloc1 w (.cells (u8V (zeros 32)) 22)
  replace BB := Lib.hid (bt BB.out bel)
  have KR := Lib.hid (Blk.new w (u8V (zeros 32)) 22)
  clear bel
  generalize w.alloc (.cells (u8V (zeros 32)) 22) = w1 at *
  have l1 := KR.out.lt
  go_wp2_with fail
  ((with_reducible refine (CP.out _ BB.out).mono ?_))
  rintro e w2 ⟨⟨B2, d2, rfl, o2⟩, b2⟩
  replace KR := Lib.hid (KR.out.below b2)
  replace BB := Lib.hid (bt BB.out b2)
  obtain ⟨gp, cur, rfl, hgp, KP, hcur, hd2⟩ := own_blk o2 (by rw [HPL.out]; omega)
  rw [HPL.out] at hd2
  have n1 : w.heap.size < gp := by omega
  replace KP := Lib.hid KP
  replace hcur := Lib.hid hcur
  clear CP o2 b2 hgp
  go_wp2_with fail
  ((with_reducible refine (rstart_any _).mono ?_))
  rintro e w3 ⟨rfl, b3⟩
  replace KR := Lib.hid (KR.out.below b3)
  replace KP := Lib.hid (KP.out.below b3)
  replace BB := Lib.hid (bt BB.out b3)
  clear b3
  have l3 := KP.out.lt
  go_wp2_with ((with_reducible show wpList _ _ _ (⟨_, .alloc 112, _, _, _, none⟩ :: _) _ _); (with_reducible refine wpRow_alloc zeroT_8 ?_ ?_ ?_); (· exact wanted0 rfl); (· rfl); refine Marker.mk ?_)
  refine Marker.in ?_
  have bel := below_alloc1 w3 (.cells (u32V (zeros 8)) 112)
  replace KR := Lib.hid (KR.out.below bel)
  replace KP := Lib.hid (KP.out.below bel)
  replace BB := Lib.hid (bt BB.out bel)
  have KH := Lib.hid (Blk.new w3 (u32V (zeros 8)) 112)
  clear bel
  generalize w3.alloc (.cells (u32V (zeros 8)) 112) = w4 at *
  generalize w3.heap.size = g4 at *
  go_wp2_with ((with_reducible show wpList _ _ _ (⟨_, .store 112 _ _, _, _, _, none⟩ :: _) _ _); (with_reducible refine wpBlk_store (g := g4) (cs := startS.cells) agg_8 ?_ ?_ KH ?_ ?_ ?_ ?_); (· exact wanted0 rfl); (· exact ⟨rfl, rfl, rfl⟩); (· rw [u32V_size, zeros_len]); (· exact St.cells_size _); (· exact St.cells_one _); refine Marker.mk ?_)
  refine Marker.in ?_
  replace KR := Lib.hid (KR.out.setRow_other g4 startS.cells (by omega))
  replace KP := Lib.hid (KP.out.setRow_other g4 startS.cells (by omega))
  replace KH := Lib.hid (KH.out.setRow startS.cells)
  replace BB := Lib.hid (below_setRow (g := g4) BB.out (by omega) startS.cells)
  generalize w4.setRow g4 startS.cells = w5 at *
  go_wp2_with fail
  go_loopw [5] (fun y wr => ∃ i a : Nat, i ≤ m ∧ a = 64 * i ∧ y = .int .i64 a ∧ Blk wr w.heap.size (u8V (zeros 32)) 22 ∧ Blk wr g4 (sumTo P i).cells 112 ∧ Blk wr gp cur 5 ∧ Below w.heap.size w wr) (fun y _ => L - (intOf y).toNat)
  case atStart => exact ⟨0, 0, by omega, rfl, rfl, KR.out, KH.out, KP.out, BB.out⟩
  case round =>
    clear KR KH KP BB
    obtain ⟨i, a, hi, ha, rfl, KR, KH, KP, BB⟩ := hrel
    replace KR := Lib.hid KR
    replace KP := Lib.hid KP
    replace BB := Lib.hid BB
    have hL2 := HL2.out
    by_cases hlt : i < m
    · have t1 : decide (a < L) = true := decide_eq_true (by omega)
      have a1 : (a : Int) + 64 ≤ (d2 : Int) := by omega
      have a2 : d2 ≠ a := by omega
      have a3 : (a : Int) ≤ 10000000 := by omega
      have a4 : IntKind.i64.wrap ((a : Int) + 64) = (a : Int) + 64 := IntWalk.i64_in _ (by omega)
      obtain ⟨bl, hbl⟩ : ∃ bl, (P.drop a).take 64 = bl := ⟨_, rfl⟩
      have hbl1 : bl.length = 64 := by rw [← hbl]; simp; have := HPL.out; omega
      have hbl2 : ∀ x ∈ bl, 0 ≤ x ∧ x ≤ 255 := by rw [← hbl]; intro x hx; exact HPB.out x (List.mem_of_mem_drop (List.mem_of_mem_take hx))
      have STEP : sumTo P (i + 1) = blockS (sumTo P i) bl := by rw [← hbl, ha]; rfl
      generalize sumTo P i = q at *
      replace KH := Lib.hid KH
      replace STEP := Lib.hid STEP
      have HA := Lib.hid ha
      have HBL := Lib.hid hbl
      have HB1 := Lib.hid hbl1
      have HB2 := Lib.hid hbl2
      have CB := Lib.hid (rblock_any q bl hbl1 hbl2)
      clear hbl hbl1 hbl2 ha hL2
      have l4 := KH.out.lt
      have l5 := KP.out.lt
      have l6 := KR.out.lt
      go_wp2_with (first | ((with_reducible show wpList _ _ _ (⟨some 18, _, _, _, _, _⟩ :: _) _ _); refine wpList_build' rfl 87 _ rfl (u8V (zeros 64)) BX.out ?_) | ((with_reducible show wpList _ _ _ (⟨_, .alloc 87, _, _, _, none⟩ :: _) _ _); (with_reducible refine wpRow_alloc zeroT_b64 ?_ ?_ ?_); (· exact wanted0 rfl); (· rfl); refine Marker.mk ?_))
      refine Marker.in ?_
      have bel := below_alloc1 wr (.cells (u8V (zeros 64)) 87)
      replace KR := Lib.hid (KR.out.below bel)
      replace KH := Lib.hid (KH.out.below bel)
      replace KP := Lib.hid (KP.out.below bel)
      replace BB := Lib.hid (bt BB.out bel)
      have KX := Lib.hid (Blk.new wr (u8V (zeros 64)) 87)
      clear bel
      generalize wr.alloc (.cells (u8V (zeros 64)) 87) = w6 at *
      generalize wr.heap.size = g6 at *
      go_wp2_with ((with_reducible show wpList _ _ _ (⟨_, .store 87 _ _, _, _, _, none⟩ :: _) _ _); (with_reducible refine wpBlk_store (g := g6) (cs := u8V (zeros 64)) agg_b64 ?_ ?_ KX ?_ ?_ ?_ ?_); (· exact wanted0 rfl); (· exact ⟨rfl, rfl, rfl⟩); (· rw [u8V_size, zeros_len]); (· rw [u8V_size, zeros_len]); (· exact u8V_one _); refine Marker.mk ?_)
      refine Marker.in ?_
      replace KR := Lib.hid (KR.out.setRow_other g6 (u8V (zeros 64)) (by omega))
      replace KH := Lib.hid (KH.out.setRow_other g6 (u8V (zeros 64)) (by omega))
      replace KP := Lib.hid (KP.out.setRow_other g6 (u8V (zeros 64)) (by omega))
      replace KX := Lib.hid (KX.out.setRow (u8V (zeros 64)))
      replace BB := Lib.hid (below_setRow (g := g6) BB.out (by omega) (u8V (zeros 64)))
      generalize w6.setRow g6 (u8V (zeros 64)) = w7 at *
      go_wp2_with fail
      refine wp_region_qt' 6 (by kernel_rfl) (by kernel_rfl) ?_
      simp only [List.take_succ_cons, List.take_zero, List.drop_succ_cons, List.drop_zero]
      repeat (go_big_quiet_step (fail))
      refine wpQuiet_nil ?_
      intro _ hw'
      obtain ⟨nq, rfl⟩ := hw'
      replace KR := Lib.hid (KR.out.drewN nq)
      replace KH := Lib.hid (KH.out.drewN nq)
      replace KP := Lib.hid (KP.out.drewN nq)
      replace KX := Lib.hid (KX.out.drewN nq)
      replace BB := Lib.hid (below_drewN BB.out nq)
      generalize w7.drewN nq = w8 at *
      have r8 := row_cur KP.out (by rw [HPL.out]; have h := hcur.out; rw [HPL.out] at h; exact h) HPB.out a 64
      rw [HBL.out] at r8
      replace r8 := Lib.hid r8
      rw [Nat.add_sub_cancel_left]
      (with_reducible refine wpBlk_copy ?_ g6 0 64 64 (zeros 64) 87 (some ⟨gp, a, none⟩) 64 (d2 - a) bl 64 (some ⟨g6, 0, none⟩) ?_ KX HB1.out r8 ?_ ?_ ?_ ?_)
      · exact wanted0 rfl
      · exact ⟨rfl, _, _, rfl, rfl, rfl⟩
      · rfl
      · rw [zeros_len]; omega
      · exact fun _ => rfl
      intro w9 K9 b9 o9 s9
      have e9 : putAt (zeros 64) 0 (bl.take 64) = bl := by
        have h := HB1.out
        rw [List.take_of_length_le (by omega), full_of bl (by omega), h]
        simp [zeros]
      rw [e9] at K9
      replace KX := Lib.hid K9
      replace KR := Lib.hid (show Blk w9 w.heap.size (u8V (zeros 32)) 22 from (o9 _ (by omega)).trans KR.out)
      replace KH := Lib.hid (show Blk w9 g4 q.cells 112 from (o9 _ (by omega)).trans KH.out)
      replace KP := Lib.hid (show Blk w9 gp cur 5 from (o9 _ (by omega)).trans KP.out)
      replace BB := Lib.hid (BB.out.trans (b9.mono (by omega)))
      clear K9 b9 o9 s9 e9 r8 a1 a2 a4 t1
      go_wp2_with (first | ((with_reducible show wpList _ _ _ (⟨_, .load 112 _, _, _, _, none⟩ :: _) _ _); (with_reducible refine wpBlk_load (g := g4) agg_8 ?_ ?_ KH ?_ ?_); (· exact wanted0 rfl); (· exact ⟨rfl, rfl⟩); (· exact St.cells_size _)) | ((with_reducible show wpList _ _ _ (⟨_, .load 87 _, _, _, _, none⟩ :: _) _ _); (with_reducible refine wpBlk_load (g := g6) agg_b64 ?_ ?_ KX ?_ ?_); (· exact wanted0 rfl); (· exact ⟨rfl, rfl⟩); (· rw [u8V_size, HB1.out])))
      ((with_reducible refine (CB.out _).mono ?_))
      rintro e w10 ⟨rfl, b10⟩
      replace KR := Lib.hid (KR.out.below b10)
      replace KH := Lib.hid (KH.out.below b10)
      replace KP := Lib.hid (KP.out.below b10)
      replace KX := Lib.hid (KX.out.below b10)
      replace BB := Lib.hid (bt BB.out b10)
      clear b10 KX CB
      go_wp2_with ((with_reducible show wpList _ _ _ (⟨_, .store 112 _ _, _, _, _, none⟩ :: _) _ _); (with_reducible refine wpBlk_store (g := g4) (cs := (blockS q bl).cells) agg_8 ?_ ?_ KH ?_ ?_ ?_ ?_); (· exact wanted0 rfl); (· exact ⟨rfl, rfl, rfl⟩); (· exact St.cells_size _); (· exact St.cells_size _); (· exact St.cells_one _); refine Marker.mk ?_)
      refine Marker.in ?_
      replace KR := Lib.hid (KR.out.setRow_other g4 (blockS q bl).cells (by omega))
      replace KP := Lib.hid (KP.out.setRow_other g4 (blockS q bl).cells (by omega))
      replace KH := Lib.hid (KH.out.setRow (blockS q bl).cells)
      replace BB := Lib.hid (below_setRow (g := g4) BB.out (by omega) (blockS q bl).cells)
      generalize w10.setRow g4 (blockS q bl).cells = w11 at *
      go_wp2_with fail
      have hA := HA.out
      have hL2 := HL2.out
      exact ⟨⟨i + 1, a + 64, by omega, by omega, by simp, KR.out, by rw [STEP.out]; exact KH.out, KP.out, BB.out⟩, by simp [intOf]; omega⟩
    · obtain rfl : i = m := by omega
      obtain rfl : a = L := by omega
      have t1 : decide (a < a) = false := decide_eq_false (by omega)
      generalize hq : sumTo P i = q at *
      have HQ := Lib.hid hq
      replace KH := Lib.hid KH
      clear hq KP ha hL2
      have l4 := KH.out.lt
      have l6 := KR.out.lt
      go_wp2_with (first | ((with_reducible show wpList _ _ _ (⟨some 29, _, _, _, _, _⟩ :: _) _ _); refine wpList_build' rfl 22 _ rfl (u8V (zeros 32)) BY.out ?_) | ((with_reducible show wpList _ _ _ (⟨_, .alloc 22, _, _, _, none⟩ :: _) _ _); (with_reducible refine wpRow_alloc zeroT_b32 ?_ ?_ ?_); (· exact wanted0 rfl); (· rfl); refine Marker.mk ?_))
      refine Marker.in ?_
      clear t1
      have bel := below_alloc1 wr (.cells (u8V (zeros 32)) 22)
      replace KR := Lib.hid (KR.out.below bel)
      replace KH := Lib.hid (KH.out.below bel)
      replace BB := Lib.hid (bt BB.out bel)
      have KS := Lib.hid (Blk.new wr (u8V (zeros 32)) 22)
      clear bel
      generalize wr.alloc (.cells (u8V (zeros 32)) 22) = w6 at *
      generalize wr.heap.size = g7 at *
      go_wp2_with ((with_reducible show wpList _ _ _ (⟨_, .store 22 _ _, _, _, _, none⟩ :: _) _ _); (with_reducible refine wpBlk_store (g := g7) (cs := u8V (zeros 32)) agg_b32 ?_ ?_ KS ?_ ?_ ?_ ?_); (· exact wanted0 rfl); (· exact ⟨rfl, rfl, rfl⟩); (· rw [u8V_size, zeros_len]); (· rw [u8V_size, zeros_len]); (· exact u8V_one _); refine Marker.mk ?_)
      refine Marker.in ?_
      replace KR := Lib.hid (KR.out.setRow_other g7 (u8V (zeros 32)) (by omega))
      replace KH := Lib.hid (KH.out.setRow_other g7 (u8V (zeros 32)) (by omega))
      replace KS := Lib.hid (KS.out.setRow (u8V (zeros 32)))
      replace BB := Lib.hid (below_setRow (g := g7) BB.out (by omega) (u8V (zeros 32)))
      generalize w6.setRow g7 (u8V (zeros 32)) = w7 at *
      go_wp2_with fail
      go_loopw [8] (fun y wx => ∃ k : Nat, k ≤ 32 ∧ y = .int .i64 k ∧ Blk wx w.heap.size (u8V (zeros 32)) 22 ∧ Blk wx g4 q.cells 112 ∧ Blk wx g7 (u8V (over (digest q) (zeros 32) k)) 22 ∧ Below w.heap.size w wx) (fun y _ => 32 - (intOf y).toNat)
      case atStart => exact ⟨0, by omega, rfl, KR.out, KH.out, by rw [over_zero]; exact KS.out, BB.out⟩
      case round =>
        clear KR KH KS BB
        obtain ⟨k, hk, rfl, KR, KH, KS, BB⟩ := hrel
        have le : (digest q).length = (zeros 32).length := by rw [digest_len, zeros_len]
        by_cases hlt : k < 32
        · have DG := digest_idx q k hlt
          have lz := digest_len q
          have lo := over_len (digest q) (zeros 32) k le (by omega)
          have cq := KH.cell (k / 4)
          rw [show q.cells = u32V q.list from rfl, u32V_get _ _ (by show _ < 8; omega)] at cq
          have c0 := KS.cell k
          have f0 := KS.frozen k
          rw [u8V_get _ _ (by omega)] at c0
          have S1 := over_set (digest q) (zeros 32) k le (by omega)
          rw [DG] at S1
          obtain ⟨j, hj⟩ : ∃ j, k / 4 = j := ⟨_, rfl⟩
          obtain ⟨b, hb⟩ : ∃ b, k % 4 = b := ⟨_, rfl⟩
          obtain ⟨t, ht⟩ : ∃ t, 3 - b = t := ⟨_, rfl⟩
          rw [hj] at cq S1
          rw [hb, ht] at S1
          have e1 : (k : Int) / 4 = (j : Int) := by omega
          have e2 : (k : Int) % 4 = (b : Int) := by omega
          have e3 : (3 : Int) - (b : Int) = (t : Int) := by omega
          have j8 : j < 8 := by omega
          generalize q.list.getD j 0 = x at *
          have AN := u32_and255 (x / 2 ^ (8 * t))
          have vb : 0 ≤ x / 2 ^ (8 * t) % 256 ∧ x / 2 ^ (8 * t) % 256 ≤ 255 := by omega
          generalize x / 2 ^ (8 * t) % 256 = v at *
          have wv : IntKind.u8.wrap v = v := by rw [IntKind.wrap_u8']; omega
          replace S1 := Lib.hid S1
          replace KR := Lib.hid KR
          replace KH := Lib.hid KH
          replace KS := Lib.hid KS
          replace BB := Lib.hid BB
          clear DG le lz lo hj hb ht
          go_wp2_with fail
          have h := KS.out.set k (.int .u8 v)
          rw [u8V_set, S1.out] at h
          exact ⟨⟨k + 1, by omega, by simp, KR.out.other _ _ _ (by omega), KH.out.other _ _ _ (by omega), h, BB.out.setCell (by simp; omega) _⟩, by simp [intOf]; omega⟩
        · obtain rfl : k = 32 := by omega
          rw [show ((32 : Nat) : Int) = 32 from rfl]
          rw [over_all (digest q) (zeros 32) 32 (by rw [digest_len]; omega) (by rw [zeros_len]; omega)] at KS
          replace KR := Lib.hid KR
          replace KS := Lib.hid KS
          replace BB := Lib.hid BB
          clear le
          go_wp2_with (first | ((with_reducible show wpList _ _ _ (⟨_, .load 22 _, _, _, _, none⟩ :: _) _ _); (with_reducible refine wpBlk_load (g := g7) agg_b32 ?_ ?_ KS ?_ ?_); (· exact wanted0 rfl); (· exact ⟨rfl, rfl⟩); (· rw [u8V_size, digest_len])) | ((with_reducible show wpList _ _ _ (⟨_, .store 22 _ _, _, _, _, none⟩ :: _) _ _); (with_reducible refine wpBlk_store (g := w.heap.size) (cs := u8V (digest q)) agg_b32 ?_ ?_ KR ?_ ?_ ?_ ?_); (· exact wanted0 rfl); (· exact ⟨rfl, rfl, rfl⟩); (· rw [u8V_size, zeros_len]); (· rw [u8V_size, digest_len]); (· exact u8V_one _)))
          refine bodyPost_ret (v := .agg (u8V (digest q))) (results_blk agg_b32 rfl _ _ (w.heap.size) _ rfl (KR.out.setRow _) (by rw [u8V_size, digest_len])) rfl ⟨by rw [HQ.out], below_setRow BB.out (by omega) _⟩
end Go.Proofs.YtapednkmefbldaaDoor

/- sidestickref05.Of. -/
namespace Go.Proofs.YtapednkmefbldaaDoor
open Go.RowKit

theorem turnB_step' (l : List Int) (b : Int) (i : Nat) (h : i < l.length) : turnB (l.take (i + 1)) b = turnB (l.take i) b ++ [bits .xor .u8 (l.getD i 0) b] := by
  unfold turnB
  rw [List.take_succ_eq_append_getElem h, List.map_append]
  congr 1
  simp [h]
theorem cur_getM {cur : Array Value} {xs : List Int} (h : cur.toList.take xs.length = xs.map (Value.int .u8)) (i : Nat) (hi : i < xs.length) : cur[i]? = some (.int .u8 (xs.getD i 0)) := by
  rw [← Array.getElem?_toList, ← List.getElem?_take_of_lt hi, h]
  simp [hi]
set_option maxRecDepth 100000 in
set_option maxHeartbeats 1600000 in
theorem rof_short (A B : Option Addr) (k b : List Int) (n m c d : Nat) (w : World) (hn : k.length = n) (hm : b.length = m) (hk : Row w A k) (hb : Row w B b) (hl : n ≤ 64) (hl2 : m ≤ 900000) :
    Calls Tryd.prog 64 #[.slice A n c, .slice B m d] w fun e w' => e = .returned (.agg (u8V (hmac k b))) ∧ Below w.heap.size w w' := by
  have HKL := Lib.hid hn
  have HBL := Lib.hid hm
  have HKR := Lib.hid hk
  have HBR := Lib.hid hb
  obtain ⟨kk, hkk⟩ : ∃ x, keyed k = x := ⟨_, rfl⟩
  obtain ⟨kl, hkl⟩ : ∃ x, kk.length = x := ⟨_, rfl⟩
  have hkl2 : kl ≤ 64 := by rw [← hkl, ← hkk]; exact keyed_le k
  obtain ⟨full, hfull⟩ : ∃ x, key64 k = x := ⟨_, rfl⟩
  have hfu : kk ++ zeros (64 - kl) = full := by rw [← hfull, ← hkl, ← hkk]; rfl
  have FL : full.length = 64 := by rw [← hfull]; exact key64_len k
  have HM : hmac k b = sha (turnB full 92 ++ sha (turnB full 54 ++ b)) := by rw [← hfull]; rfl
  obtain ⟨ans, hans⟩ : ∃ a, hmac k b = a := ⟨_, rfl⟩
  rw [hans] at HM
  rw [hans]
  have AL : ans.length = 32 := by rw [← hans]; exact hmac_len k b
  have KKL := Lib.hid hkl
  have HFU := Lib.hid hfu
  replace FL := Lib.hid FL
  replace HM := Lib.hid HM
  replace AL := Lib.hid AL
  have hkk2 : k = kk := by rw [← hkk]; unfold keyed; rw [if_neg (by omega)]
  have HKK := Lib.hid hkk2
  clear hn hm hk hb hkl hfull hfu hans hkk hkk2
  have t0 : decide (64 < (n : Int)) = false := decide_eq_false (by omega)
  go_enter Tryd.func64, Tryd.ntmps64
  go_wp2_with ((with_reducible show wpList _ _ _ (⟨_, .alloc 22, _, _, _, none⟩ :: _) _ _); (with_reducible refine wpRow_alloc zeroT_b32 ?_ ?_ ?_); (· exact wanted0 rfl); (· rfl); refine Marker.mk ?_)
  refine Marker.in ?_
  have BB := Lib.hid (Below.refl w.heap.size w)
  have bel := below_alloc1 w (.cells (u8V (zeros 32)) 22)
  replace BB := Lib.hid (bt BB.out bel)
  have K4 := Lib.hid (Blk.new w (u8V (zeros 32)) 22)
  clear bel
  generalize w.alloc (.cells (u8V (zeros 32)) 22) = w1 at *
  have l1 := K4.out.lt
  have bl := Lib.hid (below_alloc1 w1 (.cells #[] 5))
  have o1 := Lib.hid (own_lit w1 w.heap.size (by omega))
  have HKR1 := Lib.hid ((row_below HKR.out (bt BB.out bl.out)))
  go_wp2_with ((with_reducible show wpList _ _ _ (⟨some 13, _, _, _, _, _⟩ :: _) _ _); (with_reducible refine wpList_append_bytes' _ (wanted0 rfl) (.tmp 11) (.tmp 12) rfl w.heap.size (some ⟨w1.heap.size, 0, none⟩) 0 0 [] rfl ?_ o1.out A c n k HKL.out ?_ HKR1.out (by omega) (by have := bl.out.size; omega) ?_); (· rfl); (· rfl); intro B2 d2 w2 o2 b2 k2; refine Marker.mk ?_)
  refine Marker.in ?_
  have k4 := k2 w.heap.size (by have := bl.out.size; omega) (fun a ha => by injection ha with ha; subst ha; show w1.heap.size ≠ _; omega)
  have ne2 := k4.2
  replace K4 := Lib.hid (show Blk w2 w.heap.size (u8V (zeros 32)) 22 from k4.1.trans (K4.out.below bl.out))
  replace BB := Lib.hid ((bt BB.out bl.out).trans b2)
  rw [List.nil_append] at o2
  replace o2 := Lib.hid o2
  try simp only [Nat.zero_add]
  clear k4 b2 k2 o1 HKR1 bl
  go_wp2_with fail
  clear t0
  rw [HKK.out] at o2 HKL
  have hkn : n = kl := by rw [← HKL.out, KKL.out]
  subst hkn
  have o3 := o2
  have ne3 := ne2
  clear o2 ne2
  go_loopw [5] (fun x wr => ∃ (j : Nat) (C : Option Addr) (f L : Nat), j ≤ 64 - n ∧ x = .slice C L f ∧ L = n + j ∧ Own wr w.heap.size C f (kk ++ zeros j) ∧ (∀ a, C = some a → a.block ≠ w.heap.size) ∧ Blk wr w.heap.size (u8V (zeros 32)) 22 ∧ Below w.heap.size w wr) (fun x _ => match x with | .slice _ L _ => 64 - L | _ => 0)
  case atStart => exact ⟨0, B2, d2, n, Nat.zero_le _, rfl, rfl, by simpa [zeros] using o3.out, ne3, K4.out, BB.out⟩
  case round =>
    clear o3 BB K4 ne3
    obtain ⟨j, C, f, L, hj, rfl, hL, ho, hne, K4, BB⟩ := hrel
    have LX : (kk ++ zeros j).length = L := by rw [List.length_append, zeros_len, KKL.out, hL]
    replace BB := Lib.hid BB
    replace ho := Lib.hid ho
    replace K4 := Lib.hid K4
    replace LX := Lib.hid LX
    by_cases hlt : L < 64
    · have t1 : decide ((L : Int) < 64) = true := decide_eq_true (by omega)
      have r1 := Lib.hid (one_byte (w := wr) 0 (by omega))
      have bl := Lib.hid (below_alloc1 wr (.cells #[.int .u8 0] 5))
      have l4 := K4.out.lt
      have HL := Lib.hid hL
      clear hL
      go_wp2_with ((with_reducible show wpList _ _ _ (⟨some 27, _, _, _, _, _⟩ :: _) _ _); (with_reducible refine wpList_append_bytes' _ (wanted0 rfl) (.tmp 25) (.tmp 26) rfl w.heap.size C f L (kk ++ zeros j) LX.out ?_ (own_below ho.out bl.out) (some ⟨wr.heap.size, 0, none⟩) 1 1 [0] rfl ?_ r1.out (by omega) (by have := bl.out.size; omega) ?_); (· rfl); (· rfl); intro B1 d1 w6 o6 b6 k6; refine Marker.mk ?_)
      refine Marker.in ?_
      have e6 : (kk ++ zeros j) ++ [0] = kk ++ zeros (j + 1) := by unfold zeros; rw [List.replicate_succ']; simp
      rw [e6] at o6
      have ne6 : ∀ a, B1 = some a → a.block ≠ w.heap.size := fun a ha => (k6 w.heap.size (by have := bl.out.size; omega) (fun a ha => hne a ha)).2 a ha
      have K46 : Blk w6 w.heap.size (u8V (zeros 32)) 22 := (k6 w.heap.size (by have := bl.out.size; omega) (fun a ha => hne a ha)).1.trans (K4.out.below bl.out)
      have BB6 := (BB.out.trans (bl.out.mono (by omega))).trans b6
      replace o6 := Lib.hid o6
      replace K46 := Lib.hid K46
      replace BB6 := Lib.hid BB6
      clear b6 k6 r1 bl e6 t1
      go_wp2_with fail
      have hL := HL.out
      exact ⟨⟨j + 1, B1, d1, L + 1, by omega, rfl, by omega, o6.out, ne6, K46.out, BB6.out⟩, by simp only; omega⟩
    · have hL64 : L = 64 := by omega
      have hj2 : j = 64 - n := by omega
      subst hj2
      subst hL64
      rw [HFU.out] at ho LX
      obtain ⟨gk, cur, rfl, hgk, KK, hcur, -⟩ := own_blk ho.out (by rw [LX.out]; omega)
      have nk := hne _ rfl
      replace KK := Lib.hid KK
      replace hcur := Lib.hid hcur
      clear ho hne hL
      have t1 : decide (((64 : Nat) : Int) < 64) = false := rfl
      go_wp2_with fail
      clear t1
      have l4 := K4.out.lt
      have lk := KK.out.lt
      obtain ⟨w9, rfl⟩ : ∃ w9, w9 = wr := ⟨_, rfl⟩
      go_loopw [7, 8, 9] (fun p q y wx => ∃ (i : Nat) (P : Option Addr) (cp : Nat) (Z : Option Addr) (cz : Nat), i ≤ 64 ∧ y = .int .i64 i ∧ p = .slice P i cp ∧ q = .slice Z i cz ∧ Own wx w9.heap.size P cp (turnB (full.take i) 54) ∧ Own wx w9.heap.size Z cz (turnB (full.take i) 92) ∧ (∀ b, Z = some b → Apart P b.block) ∧ Below w9.heap.size w9 wx) (fun _ _ y _ => 64 - (intOf y).toNat)
      case atStart =>
        have bl1 := below_alloc1 w9 (.cells #[] 5)
        have bl2 := below_alloc1 (w9.alloc (.cells #[] 5)) (.cells #[] 5)
        have e2 : (w9.alloc (.cells #[] 5)).heap.size = w9.heap.size + 1 := alloc_size _ _
        have o1 := own_below (own_lit w9 w9.heap.size (by omega)) bl2
        have o2 := own_lit (w9.alloc (.cells #[] 5)) w9.heap.size (by omega)
        rw [e2] at o2
        refine ⟨0, some ⟨w9.heap.size, 0, none⟩, 0, some ⟨w9.heap.size + 1, 0, none⟩, 0, Nat.zero_le _, rfl, rfl, rfl, o1, o2, fun b hb a ha => ?_, bt bl1 bl2⟩
        injection hb with hb
        injection ha with ha
        subst hb ha
        show w9.heap.size ≠ w9.heap.size + 1
        omega
      case round =>
        obtain ⟨i, P, cp, Z, cz, hi, rfl, rfl, rfl, oP, oZ, hap, b6⟩ := hrel
        replace oP := Lib.hid oP
        replace oZ := Lib.hid oZ
        replace hap := Lib.hid hap
        replace b6 := Lib.hid b6
        have KF1 : Hid (Blk wr gk cur 5) := Lib.hid ((b6.out.block gk lk).trans KK.out)
        have sz : w9.heap.size ≤ wr.heap.size := b6.out.size
        by_cases hlt : i < 64
        · have HS1 := Lib.hid (turnB_step' full 54 i (by rw [FL.out]; exact hlt))
          have HS2 := Lib.hid (turnB_step' full 92 i (by rw [FL.out]; exact hlt))
          have TL1 : Hid ((turnB (full.take i) 54).length = i) := Lib.hid (by rw [turnB_len, List.length_take, FL.out]; omega)
          have TL2 : Hid ((turnB (full.take i) 92).length = i) := Lib.hid (by rw [turnB_len, List.length_take, FL.out]; omega)
          have cd := KF1.out.cell i
          rw [cur_getM hcur.out i (by rw [FL.out]; exact hlt)] at cd
          generalize full.getD i 0 = f at *
          generalize turnB (full.take i) 54 = y1 at *
          generalize turnB (full.take i) 92 = y2 at *
          have t1 : decide ((i : Int) < 64) = true := decide_eq_true (by omega)
          have bl := Lib.hid (below_alloc1 wr (.cells #[.int .u8 (bits .xor .u8 f 54)] 5))
          have r1 := Lib.hid (one_byte (w := wr) (bits .xor .u8 f 54) (xor_byte _ _))
          go_wp2_with ((with_reducible show wpList _ _ _ (⟨some 41, _, _, _, _, _⟩ :: _) _ _); (with_reducible refine wpList_append_bytes' _ (wanted0 rfl) (.tmp 34) (.tmp 40) rfl w9.heap.size P cp i y1 TL1.out ?_ (own_below oP.out bl.out) (some ⟨wr.heap.size, 0, none⟩) 1 1 [bits .xor .u8 f 54] rfl ?_ r1.out (by omega) (Nat.le_trans sz bl.out.size) ?_); (· rfl); (· rfl); intro P1 cp1 w7 o7 b7 k7; refine Marker.mk ?_)
          refine Marker.in ?_
          rw [← HS1.out] at o7
          have oZ7 := own_apart (own_below oZ.out bl.out) hap.out (fun k h1 h2 => (k7 k h1 h2).1)
          have hap7 : ∀ b, Z = some b → Apart P1 b.block := fun b hb => (k7 b.block (own_lt (own_below oZ.out bl.out) b hb).2 (hap.out b hb)).2
          have b7' := (b6.out.trans (bl.out.mono sz)).trans b7
          have cd7 : w7.cell? ⟨gk, i, none⟩ = some (.int .u8 f) := by
            have h : Blk w7 gk cur 5 := (b7'.block gk lk).trans KK.out
            rw [h.cell i, ← KF1.out.cell i]; exact cd
          have sz7 : w9.heap.size ≤ w7.heap.size := b7'.size
          replace o7 := Lib.hid o7
          replace oZ7 := Lib.hid oZ7
          replace hap7 := Lib.hid hap7
          replace b7' := Lib.hid b7'
          have bl7 := Lib.hid (below_alloc1 w7 (.cells #[.int .u8 (bits .xor .u8 f 92)] 5))
          have r2 := Lib.hid (one_byte (w := w7) (bits .xor .u8 f 92) (xor_byte _ _))
          clear b7 k7 cd r1 bl oP oZ hap b6 KF1 HS1 TL1
          go_wp2_with ((with_reducible show wpList _ _ _ (⟨some 49, _, _, _, _, _⟩ :: _) _ _); (with_reducible refine wpList_append_bytes' _ (wanted0 rfl) (.tmp 42) (.tmp 48) rfl w9.heap.size Z cz i y2 TL2.out ?_ (own_below oZ7.out bl7.out) (some ⟨w7.heap.size, 0, none⟩) 1 1 [bits .xor .u8 f 92] rfl ?_ r2.out (by omega) (Nat.le_trans sz7 bl7.out.size) ?_); (· rfl); (· rfl); intro Z1 cz1 w8 o8 b8 k8; refine Marker.mk ?_)
          refine Marker.in ?_
          rw [← HS2.out] at o8
          have hap7s : ∀ a, P1 = some a → Apart Z a.block := fun a ha b hb e => hap7.out b hb a ha e.symm
          have oP8 := own_apart (own_below o7.out bl7.out) hap7s (fun k h1 h2 => (k8 k h1 h2).1)
          have hap8 : ∀ b, Z1 = some b → Apart P1 b.block := fun b hb a ha e => (k8 a.block (own_lt (own_below o7.out bl7.out) a ha).2 (hap7s a ha)).2 b hb e.symm
          have b8' := (b7'.out.trans (bl7.out.mono sz7)).trans b8
          replace o8 := Lib.hid o8
          replace oP8 := Lib.hid oP8
          replace hap8 := Lib.hid hap8
          replace b8' := Lib.hid b8'
          clear b8 k8 hap7s oZ7 o7 hap7 b7' bl7 r2 cd7
          go_wp2_with fail
          exact ⟨⟨i + 1, P1, cp1, Z1, cz1, by omega, by simp, rfl, rfl, oP8.out, o8.out, hap8.out, b8'.out⟩, by simp [intOf]; omega⟩
        · obtain rfl : i = 64 := by omega
          rw [show ((64 : Nat) : Int) = 64 from rfl]
          rw [List.take_of_length_le (by rw [FL.out]; omega)] at oP oZ
          have TL1 : Hid ((turnB full 54).length = 64) := Lib.hid (by rw [turnB_len, FL.out])
          have TL2 : Hid ((turnB full 92).length = 64) := Lib.hid (by rw [turnB_len, FL.out])
          generalize turnB full 54 = y1 at *
          generalize turnB full 92 = y2 at *
          replace K4 := Lib.hid (show Blk wr w.heap.size (u8V (zeros 32)) 22 from (b6.out.block _ l4).trans K4.out)
          replace BB := Lib.hid (BB.out.trans (b6.out.mono (by omega)))
          have rb := Lib.hid (row_below HBR.out BB.out)
          go_wp2_with ((with_reducible show wpList _ _ _ (⟨some 52, _, _, _, _, _⟩ :: _) _ _); (with_reducible refine wpList_append_bytes' _ (wanted0 rfl) (.tmp 50) (.tmp 51) rfl w9.heap.size P cp 64 y1 TL1.out ?_ oP.out B d m b HBL.out ?_ rb.out (by omega) sz ?_); (· rfl); (· rfl); intro P1 cp1 w10 o10 b10 k10; refine Marker.mk ?_)
          refine Marker.in ?_
          have oZ10 := Lib.hid (own_apart oZ.out hap.out (fun k h1 h2 => (k10 k h1 h2).1))
          have l44 := K4.out.lt
          replace K4 := Lib.hid (show Blk w10 w.heap.size (u8V (zeros 32)) 22 from (b10.block _ l4).trans K4.out)
          replace BB := Lib.hid (BB.out.trans (b10.mono (by omega)))
          have LJ : Hid ((y1 ++ b).length = 64 + m) := Lib.hid (by rw [List.length_append, TL1.out, HBL.out])
          have rj := Lib.hid o10.row
          have sz10 : w9.heap.size ≤ w10.heap.size := Nat.le_trans sz b10.size
          clear o10 k10 b10 oZ oP hap b6 KF1 rb
          generalize hJ : y1 ++ b = j1 at *
          replace hJ := Lib.hid hJ
          go_wp2_with fail
          ((with_reducible refine (rsum_any P1 j1 (64 + m) cp1 w10 LJ.out rj.out (by omega)).mono ?_))
          rintro e w11 ⟨rfl, b11⟩
          replace K4 := Lib.hid (K4.out.below b11)
          replace BB := Lib.hid (bt BB.out b11)
          replace oZ10 := Lib.hid (own_below oZ10.out b11)
          have S1L := sha_len j1
          have S1B := sha_bytes j1
          generalize hS : sha j1 = s1 at *
          replace hS := Lib.hid hS
          replace S1L := Lib.hid S1L
          replace S1B := Lib.hid S1B
          have l11 := K4.out.lt
          have sz11 : w9.heap.size ≤ w11.heap.size := Nat.le_trans sz10 b11.size
          clear b11 rj
          go_wp2_with ((with_reducible show wpList _ _ _ (⟨_, .alloc 22, _, _, _, none⟩ :: _) _ _); (with_reducible refine wpRow_alloc zeroT_b32 ?_ ?_ ?_); (· exact wanted0 rfl); (· rfl); refine Marker.mk ?_)
          refine Marker.in ?_
          have bel := below_alloc1 w11 (.cells (u8V (zeros 32)) 22)
          have zlt := fun a ha => (own_lt oZ10.out a ha).2
          replace K4 := Lib.hid (K4.out.below bel)
          replace BB := Lib.hid (bt BB.out bel)
          replace oZ10 := Lib.hid (own_below oZ10.out bel)
          have K10 := Lib.hid (Blk.new w11 (u8V (zeros 32)) 22)
          have sz12 := Nat.le_trans sz11 bel.size
          clear bel
          generalize w11.alloc (.cells (u8V (zeros 32)) 22) = w12 at *
          generalize w11.heap.size = g10 at *
          go_wp2_with ((with_reducible show wpList _ _ _ (⟨_, .store 22 _ _, _, _, _, none⟩ :: _) _ _); (with_reducible refine wpBlk_store (g := g10) (cs := u8V s1) agg_b32 ?_ ?_ K10 ?_ ?_ ?_ ?_); (· exact wanted0 rfl); (· exact ⟨rfl, rfl, rfl⟩); (· rw [u8V_size, zeros_len]); (· rw [u8V_size, S1L.out]); (· exact u8V_one _); refine Marker.mk ?_)
          refine Marker.in ?_
          replace K4 := Lib.hid (K4.out.setRow_other g10 (u8V s1) (by omega))
          replace oZ10 := Lib.hid (own_same (w' := w12.setRow g10 (u8V s1)) oZ10.out (fun a ha => setRow_other w12 g10 a.block (u8V s1) (by have := zlt a ha; omega)))
          replace K10 := Lib.hid (K10.out.setRow (u8V s1))
          replace BB := Lib.hid (below_setRow (g := g10) BB.out (by omega) (u8V s1))
          have l12 := K10.out.lt
          have sz13 : w9.heap.size ≤ (w12.setRow g10 (u8V s1)).heap.size := by simpa using sz12
          clear zlt
          generalize w12.setRow g10 (u8V s1) = w13 at *
          have rs := Lib.hid (u8V_row K10.out S1B.out)
          go_wp2_with ((with_reducible show wpList _ _ _ (⟨some 56, _, _, _, _, _⟩ :: _) _ _); (with_reducible refine wpList_append_bytes' _ (wanted0 rfl) (.tmp 54) (.tmp 55) rfl w9.heap.size Z cz 64 y2 TL2.out ?_ oZ10.out (some ⟨g10, 0, none⟩) 32 32 s1 S1L.out ?_ rs.out (by omega) sz13 ?_); (· rfl); (· rfl); intro Z1 cz1 w14 o14 b14 k14; refine Marker.mk ?_)
          refine Marker.in ?_
          replace K4 := Lib.hid (show Blk w14 w.heap.size (u8V (zeros 32)) 22 from (b14.block _ l4).trans K4.out)
          replace BB := Lib.hid (BB.out.trans (b14.mono (by omega)))
          have LJ2 : Hid ((y2 ++ s1).length = 96) := Lib.hid (by rw [List.length_append, TL2.out, S1L.out])
          have rj2 := Lib.hid o14.row
          clear o14 k14 b14 oZ10 rs K10
          have ea : sha (y2 ++ s1) = ans := HM.out.symm
          go_wp2_with fail
          ((with_reducible refine (rsum_any Z1 (y2 ++ s1) 96 cz1 w14 LJ2.out rj2.out (by omega)).mono ?_))
          rintro e w15 ⟨rfl, b15⟩
          rw [ea]
          replace K4 := Lib.hid (K4.out.below b15)
          replace BB := Lib.hid (bt BB.out b15)
          clear b15 rj2 ea
          go_wp2_with ((with_reducible show wpList _ _ _ (⟨_, .store 22 _ _, _, _, _, none⟩ :: _) _ _); (with_reducible refine wpBlk_store (g := w.heap.size) (cs := u8V ans) agg_b32 ?_ ?_ K4 ?_ ?_ ?_ ?_); (· exact wanted0 rfl); (· exact ⟨rfl, rfl, rfl⟩); (· rw [u8V_size, zeros_len]); (· rw [u8V_size, AL.out]); (· exact u8V_one _))
          refine bodyPost_ret (v := .agg (u8V ans)) (results_blk agg_b32 rfl _ _ (w.heap.size) _ rfl (K4.out.setRow _) (by rw [u8V_size, AL.out])) rfl ⟨rfl, below_setRow BB.out (by omega) _⟩
set_option maxRecDepth 100000 in
set_option maxHeartbeats 1600000 in
theorem rof_long (A B : Option Addr) (k b : List Int) (n m c d : Nat) (w : World) (hn : k.length = n) (hm : b.length = m) (hk : Row w A k) (hb : Row w B b) (hl : 64 < n ∧ n ≤ 1000000) (hl2 : m ≤ 900000) :
    Calls Tryd.prog 64 #[.slice A n c, .slice B m d] w fun e w' => e = .returned (.agg (u8V (hmac k b))) ∧ Below w.heap.size w w' := by
  have HKL := Lib.hid hn
  have HBL := Lib.hid hm
  have HKR := Lib.hid hk
  have HBR := Lib.hid hb
  obtain ⟨kk, hkk⟩ : ∃ x, keyed k = x := ⟨_, rfl⟩
  obtain ⟨kl, hkl⟩ : ∃ x, kk.length = x := ⟨_, rfl⟩
  have hkl2 : kl ≤ 64 := by rw [← hkl, ← hkk]; exact keyed_le k
  obtain ⟨full, hfull⟩ : ∃ x, key64 k = x := ⟨_, rfl⟩
  have hfu : kk ++ zeros (64 - kl) = full := by rw [← hfull, ← hkl, ← hkk]; rfl
  have FL : full.length = 64 := by rw [← hfull]; exact key64_len k
  have HM : hmac k b = sha (turnB full 92 ++ sha (turnB full 54 ++ b)) := by rw [← hfull]; rfl
  obtain ⟨ans, hans⟩ : ∃ a, hmac k b = a := ⟨_, rfl⟩
  rw [hans] at HM
  rw [hans]
  have AL : ans.length = 32 := by rw [← hans]; exact hmac_len k b
  have KKL := Lib.hid hkl
  have HFU := Lib.hid hfu
  replace FL := Lib.hid FL
  replace HM := Lib.hid HM
  replace AL := Lib.hid AL
  have hkk2 : sha k = kk := by rw [← hkk]; unfold keyed; rw [if_pos (by omega)]
  have HKK := Lib.hid hkk2
  clear hn hm hk hb hkl hfull hfu hans hkk hkk2
  have t0 : decide (64 < (n : Int)) = true := decide_eq_true (by omega)
  go_enter Tryd.func64, Tryd.ntmps64
  go_wp2_with ((with_reducible show wpList _ _ _ (⟨_, .alloc 22, _, _, _, none⟩ :: _) _ _); (with_reducible refine wpRow_alloc zeroT_b32 ?_ ?_ ?_); (· exact wanted0 rfl); (· rfl); refine Marker.mk ?_)
  refine Marker.in ?_
  have BB := Lib.hid (Below.refl w.heap.size w)
  have bel := below_alloc1 w (.cells (u8V (zeros 32)) 22)
  replace BB := Lib.hid (bt BB.out bel)
  have K4 := Lib.hid (Blk.new w (u8V (zeros 32)) 22)
  clear bel
  generalize w.alloc (.cells (u8V (zeros 32)) 22) = w1 at *
  have l1 := K4.out.lt
  have bl := Lib.hid (below_alloc1 w1 (.cells #[] 5))
  have o1 := Lib.hid (own_lit w1 w.heap.size (by omega))
  have HKR1 := Lib.hid ((row_below HKR.out (bt BB.out bl.out)))
  go_wp2_with ((with_reducible show wpList _ _ _ (⟨some 13, _, _, _, _, _⟩ :: _) _ _); (with_reducible refine wpList_append_bytes' _ (wanted0 rfl) (.tmp 11) (.tmp 12) rfl w.heap.size (some ⟨w1.heap.size, 0, none⟩) 0 0 [] rfl ?_ o1.out A c n k HKL.out ?_ HKR1.out (by omega) (by have := bl.out.size; omega) ?_); (· rfl); (· rfl); intro B2 d2 w2 o2 b2 k2; refine Marker.mk ?_)
  refine Marker.in ?_
  have k4 := k2 w.heap.size (by have := bl.out.size; omega) (fun a ha => by injection ha with ha; subst ha; show w1.heap.size ≠ _; omega)
  have ne2 := k4.2
  replace K4 := Lib.hid (show Blk w2 w.heap.size (u8V (zeros 32)) 22 from k4.1.trans (K4.out.below bl.out))
  replace BB := Lib.hid ((bt BB.out bl.out).trans b2)
  rw [List.nil_append] at o2
  replace o2 := Lib.hid o2
  try simp only [Nat.zero_add]
  clear k4 b2 k2 o1 HKR1 bl
  go_wp2_with fail
  clear t0
  ((with_reducible refine (rsum_any B2 k n d2 w2 HKL.out o2.out.row (by omega)).mono ?_))
  rintro e w3 ⟨rfl, b3⟩
  rw [HKK.out]
  replace K4 := Lib.hid (K4.out.below b3)
  replace BB := Lib.hid (bt BB.out b3)
  clear b3 o2
  have SL : Hid (kk.length = 32) := Lib.hid (by rw [← HKK.out]; exact sha_len k)
  have SB : Hid (∀ x ∈ kk, 0 ≤ x ∧ x ≤ 255) := Lib.hid (by rw [← HKK.out]; exact sha_bytes k)
  have l3 := K4.out.lt
  go_wp2_with ((with_reducible show wpList _ _ _ (⟨_, .alloc 22, _, _, _, none⟩ :: _) _ _); (with_reducible refine wpRow_alloc zeroT_b32 ?_ ?_ ?_); (· exact wanted0 rfl); (· rfl); refine Marker.mk ?_)
  refine Marker.in ?_
  have bel := below_alloc1 w3 (.cells (u8V (zeros 32)) 22)
  replace K4 := Lib.hid (K4.out.below bel)
  replace BB := Lib.hid (bt BB.out bel)
  have K6 := Lib.hid (Blk.new w3 (u8V (zeros 32)) 22)
  clear bel
  generalize w3.alloc (.cells (u8V (zeros 32)) 22) = w4 at *
  generalize w3.heap.size = g6 at *
  go_wp2_with ((with_reducible show wpList _ _ _ (⟨_, .store 22 _ _, _, _, _, none⟩ :: _) _ _); (with_reducible refine wpBlk_store (g := g6) (cs := u8V kk) agg_b32 ?_ ?_ K6 ?_ ?_ ?_ ?_); (· exact wanted0 rfl); (· exact ⟨rfl, rfl, rfl⟩); (· rw [u8V_size, zeros_len]); (· rw [u8V_size, SL.out]); (· exact u8V_one _); refine Marker.mk ?_)
  refine Marker.in ?_
  replace K4 := Lib.hid (K4.out.setRow_other g6 (u8V kk) (by omega))
  replace K6 := Lib.hid (K6.out.setRow (u8V kk))
  replace BB := Lib.hid (below_setRow (g := g6) BB.out (by omega) (u8V kk))
  generalize w4.setRow g6 (u8V kk) = w5 at *
  have l5 := K4.out.lt
  have bl := Lib.hid (below_alloc1 w5 (.cells #[] 5))
  have o1 := Lib.hid (own_lit w5 w.heap.size (by omega))
  have r5 := Lib.hid (row_below (u8V_row K6.out SB.out) bl.out)
  go_wp2_with ((with_reducible show wpList _ _ _ (⟨some 21, _, _, _, _, _⟩ :: _) _ _); (with_reducible refine wpList_append_bytes' _ (wanted0 rfl) (.tmp 19) (.tmp 20) rfl w.heap.size (some ⟨w5.heap.size, 0, none⟩) 0 0 [] rfl ?_ o1.out (some ⟨g6, 0, none⟩) 32 32 kk SL.out ?_ r5.out (by omega) (by have := bl.out.size; omega) ?_); (· rfl); (· rfl); intro B6 d6 w6 o6 b6 k6; refine Marker.mk ?_)
  refine Marker.in ?_
  have k4 := k6 w.heap.size (by have := bl.out.size; omega) (fun a ha => by injection ha with ha; subst ha; show w5.heap.size ≠ _; omega)
  have ne3 := k4.2
  replace K4 := Lib.hid (show Blk w6 w.heap.size (u8V (zeros 32)) 22 from k4.1.trans (K4.out.below bl.out))
  replace BB := Lib.hid ((bt BB.out bl.out).trans b6)
  rw [List.nil_append] at o6
  replace o6 := Lib.hid o6
  try simp only [Nat.zero_add]
  have h32 : kl = 32 := by rw [← KKL.out, SL.out]
  subst h32
  clear k4 b6 k6 o1 r5 bl K6
  go_wp2_with fail
  have o3 := o6
  go_loopw [5] (fun x wr => ∃ (j : Nat) (C : Option Addr) (f L : Nat), j ≤ 64 - 32 ∧ x = .slice C L f ∧ L = 32 + j ∧ Own wr w.heap.size C f (kk ++ zeros j) ∧ (∀ a, C = some a → a.block ≠ w.heap.size) ∧ Blk wr w.heap.size (u8V (zeros 32)) 22 ∧ Below w.heap.size w wr) (fun x _ => match x with | .slice _ L _ => 64 - L | _ => 0)
  case atStart => exact ⟨0, B6, d6, 32, Nat.zero_le _, rfl, rfl, by simpa [zeros] using o3.out, ne3, K4.out, BB.out⟩
  case round =>
    clear o3 BB K4 ne3
    obtain ⟨j, C, f, L, hj, rfl, hL, ho, hne, K4, BB⟩ := hrel
    have LX : (kk ++ zeros j).length = L := by rw [List.length_append, zeros_len, KKL.out, hL]
    replace BB := Lib.hid BB
    replace ho := Lib.hid ho
    replace K4 := Lib.hid K4
    replace LX := Lib.hid LX
    by_cases hlt : L < 64
    · have t1 : decide ((L : Int) < 64) = true := decide_eq_true (by omega)
      have r1 := Lib.hid (one_byte (w := wr) 0 (by omega))
      have bl := Lib.hid (below_alloc1 wr (.cells #[.int .u8 0] 5))
      have l4 := K4.out.lt
      have HL := Lib.hid hL
      clear hL
      go_wp2_with ((with_reducible show wpList _ _ _ (⟨some 27, _, _, _, _, _⟩ :: _) _ _); (with_reducible refine wpList_append_bytes' _ (wanted0 rfl) (.tmp 25) (.tmp 26) rfl w.heap.size C f L (kk ++ zeros j) LX.out ?_ (own_below ho.out bl.out) (some ⟨wr.heap.size, 0, none⟩) 1 1 [0] rfl ?_ r1.out (by omega) (by have := bl.out.size; omega) ?_); (· rfl); (· rfl); intro B1 d1 w6 o6 b6 k6; refine Marker.mk ?_)
      refine Marker.in ?_
      have e6 : (kk ++ zeros j) ++ [0] = kk ++ zeros (j + 1) := by unfold zeros; rw [List.replicate_succ']; simp
      rw [e6] at o6
      have ne6 : ∀ a, B1 = some a → a.block ≠ w.heap.size := fun a ha => (k6 w.heap.size (by have := bl.out.size; omega) (fun a ha => hne a ha)).2 a ha
      have K46 : Blk w6 w.heap.size (u8V (zeros 32)) 22 := (k6 w.heap.size (by have := bl.out.size; omega) (fun a ha => hne a ha)).1.trans (K4.out.below bl.out)
      have BB6 := (BB.out.trans (bl.out.mono (by omega))).trans b6
      replace o6 := Lib.hid o6
      replace K46 := Lib.hid K46
      replace BB6 := Lib.hid BB6
      clear b6 k6 r1 bl e6 t1
      go_wp2_with fail
      have hL := HL.out
      exact ⟨⟨j + 1, B1, d1, L + 1, by omega, rfl, by omega, o6.out, ne6, K46.out, BB6.out⟩, by simp only; omega⟩
    · have hL64 : L = 64 := by omega
      have hj2 : j = 64 - 32 := by omega
      subst hj2
      subst hL64
      rw [HFU.out] at ho LX
      obtain ⟨gk, cur, rfl, hgk, KK, hcur, -⟩ := own_blk ho.out (by rw [LX.out]; omega)
      have nk := hne _ rfl
      replace KK := Lib.hid KK
      replace hcur := Lib.hid hcur
      clear ho hne hL
      have t1 : decide (((64 : Nat) : Int) < 64) = false := rfl
      go_wp2_with fail
      clear t1
      have l4 := K4.out.lt
      have lk := KK.out.lt
      obtain ⟨w9, rfl⟩ : ∃ w9, w9 = wr := ⟨_, rfl⟩
      go_loopw [7, 8, 9] (fun p q y wx => ∃ (i : Nat) (P : Option Addr) (cp : Nat) (Z : Option Addr) (cz : Nat), i ≤ 64 ∧ y = .int .i64 i ∧ p = .slice P i cp ∧ q = .slice Z i cz ∧ Own wx w9.heap.size P cp (turnB (full.take i) 54) ∧ Own wx w9.heap.size Z cz (turnB (full.take i) 92) ∧ (∀ b, Z = some b → Apart P b.block) ∧ Below w9.heap.size w9 wx) (fun _ _ y _ => 64 - (intOf y).toNat)
      case atStart =>
        have bl1 := below_alloc1 w9 (.cells #[] 5)
        have bl2 := below_alloc1 (w9.alloc (.cells #[] 5)) (.cells #[] 5)
        have e2 : (w9.alloc (.cells #[] 5)).heap.size = w9.heap.size + 1 := alloc_size _ _
        have o1 := own_below (own_lit w9 w9.heap.size (by omega)) bl2
        have o2 := own_lit (w9.alloc (.cells #[] 5)) w9.heap.size (by omega)
        rw [e2] at o2
        refine ⟨0, some ⟨w9.heap.size, 0, none⟩, 0, some ⟨w9.heap.size + 1, 0, none⟩, 0, Nat.zero_le _, rfl, rfl, rfl, o1, o2, fun b hb a ha => ?_, bt bl1 bl2⟩
        injection hb with hb
        injection ha with ha
        subst hb ha
        show w9.heap.size ≠ w9.heap.size + 1
        omega
      case round =>
        obtain ⟨i, P, cp, Z, cz, hi, rfl, rfl, rfl, oP, oZ, hap, b6⟩ := hrel
        replace oP := Lib.hid oP
        replace oZ := Lib.hid oZ
        replace hap := Lib.hid hap
        replace b6 := Lib.hid b6
        have KF1 : Hid (Blk wr gk cur 5) := Lib.hid ((b6.out.block gk lk).trans KK.out)
        have sz : w9.heap.size ≤ wr.heap.size := b6.out.size
        by_cases hlt : i < 64
        · have HS1 := Lib.hid (turnB_step' full 54 i (by rw [FL.out]; exact hlt))
          have HS2 := Lib.hid (turnB_step' full 92 i (by rw [FL.out]; exact hlt))
          have TL1 : Hid ((turnB (full.take i) 54).length = i) := Lib.hid (by rw [turnB_len, List.length_take, FL.out]; omega)
          have TL2 : Hid ((turnB (full.take i) 92).length = i) := Lib.hid (by rw [turnB_len, List.length_take, FL.out]; omega)
          have cd := KF1.out.cell i
          rw [cur_getM hcur.out i (by rw [FL.out]; exact hlt)] at cd
          generalize full.getD i 0 = f at *
          generalize turnB (full.take i) 54 = y1 at *
          generalize turnB (full.take i) 92 = y2 at *
          have t1 : decide ((i : Int) < 64) = true := decide_eq_true (by omega)
          have bl := Lib.hid (below_alloc1 wr (.cells #[.int .u8 (bits .xor .u8 f 54)] 5))
          have r1 := Lib.hid (one_byte (w := wr) (bits .xor .u8 f 54) (xor_byte _ _))
          go_wp2_with ((with_reducible show wpList _ _ _ (⟨some 41, _, _, _, _, _⟩ :: _) _ _); (with_reducible refine wpList_append_bytes' _ (wanted0 rfl) (.tmp 34) (.tmp 40) rfl w9.heap.size P cp i y1 TL1.out ?_ (own_below oP.out bl.out) (some ⟨wr.heap.size, 0, none⟩) 1 1 [bits .xor .u8 f 54] rfl ?_ r1.out (by omega) (Nat.le_trans sz bl.out.size) ?_); (· rfl); (· rfl); intro P1 cp1 w7 o7 b7 k7; refine Marker.mk ?_)
          refine Marker.in ?_
          rw [← HS1.out] at o7
          have oZ7 := own_apart (own_below oZ.out bl.out) hap.out (fun k h1 h2 => (k7 k h1 h2).1)
          have hap7 : ∀ b, Z = some b → Apart P1 b.block := fun b hb => (k7 b.block (own_lt (own_below oZ.out bl.out) b hb).2 (hap.out b hb)).2
          have b7' := (b6.out.trans (bl.out.mono sz)).trans b7
          have cd7 : w7.cell? ⟨gk, i, none⟩ = some (.int .u8 f) := by
            have h : Blk w7 gk cur 5 := (b7'.block gk lk).trans KK.out
            rw [h.cell i, ← KF1.out.cell i]; exact cd
          have sz7 : w9.heap.size ≤ w7.heap.size := b7'.size
          replace o7 := Lib.hid o7
          replace oZ7 := Lib.hid oZ7
          replace hap7 := Lib.hid hap7
          replace b7' := Lib.hid b7'
          have bl7 := Lib.hid (below_alloc1 w7 (.cells #[.int .u8 (bits .xor .u8 f 92)] 5))
          have r2 := Lib.hid (one_byte (w := w7) (bits .xor .u8 f 92) (xor_byte _ _))
          clear b7 k7 cd r1 bl oP oZ hap b6 KF1 HS1 TL1
          go_wp2_with ((with_reducible show wpList _ _ _ (⟨some 49, _, _, _, _, _⟩ :: _) _ _); (with_reducible refine wpList_append_bytes' _ (wanted0 rfl) (.tmp 42) (.tmp 48) rfl w9.heap.size Z cz i y2 TL2.out ?_ (own_below oZ7.out bl7.out) (some ⟨w7.heap.size, 0, none⟩) 1 1 [bits .xor .u8 f 92] rfl ?_ r2.out (by omega) (Nat.le_trans sz7 bl7.out.size) ?_); (· rfl); (· rfl); intro Z1 cz1 w8 o8 b8 k8; refine Marker.mk ?_)
          refine Marker.in ?_
          rw [← HS2.out] at o8
          have hap7s : ∀ a, P1 = some a → Apart Z a.block := fun a ha b hb e => hap7.out b hb a ha e.symm
          have oP8 := own_apart (own_below o7.out bl7.out) hap7s (fun k h1 h2 => (k8 k h1 h2).1)
          have hap8 : ∀ b, Z1 = some b → Apart P1 b.block := fun b hb a ha e => (k8 a.block (own_lt (own_below o7.out bl7.out) a ha).2 (hap7s a ha)).2 b hb e.symm
          have b8' := (b7'.out.trans (bl7.out.mono sz7)).trans b8
          replace o8 := Lib.hid o8
          replace oP8 := Lib.hid oP8
          replace hap8 := Lib.hid hap8
          replace b8' := Lib.hid b8'
          clear b8 k8 hap7s oZ7 o7 hap7 b7' bl7 r2 cd7
          go_wp2_with fail
          exact ⟨⟨i + 1, P1, cp1, Z1, cz1, by omega, by simp, rfl, rfl, oP8.out, o8.out, hap8.out, b8'.out⟩, by simp [intOf]; omega⟩
        · obtain rfl : i = 64 := by omega
          rw [show ((64 : Nat) : Int) = 64 from rfl]
          rw [List.take_of_length_le (by rw [FL.out]; omega)] at oP oZ
          have TL1 : Hid ((turnB full 54).length = 64) := Lib.hid (by rw [turnB_len, FL.out])
          have TL2 : Hid ((turnB full 92).length = 64) := Lib.hid (by rw [turnB_len, FL.out])
          generalize turnB full 54 = y1 at *
          generalize turnB full 92 = y2 at *
          replace K4 := Lib.hid (show Blk wr w.heap.size (u8V (zeros 32)) 22 from (b6.out.block _ l4).trans K4.out)
          replace BB := Lib.hid (BB.out.trans (b6.out.mono (by omega)))
          have rb := Lib.hid (row_below HBR.out BB.out)
          go_wp2_with ((with_reducible show wpList _ _ _ (⟨some 52, _, _, _, _, _⟩ :: _) _ _); (with_reducible refine wpList_append_bytes' _ (wanted0 rfl) (.tmp 50) (.tmp 51) rfl w9.heap.size P cp 64 y1 TL1.out ?_ oP.out B d m b HBL.out ?_ rb.out (by omega) sz ?_); (· rfl); (· rfl); intro P1 cp1 w10 o10 b10 k10; refine Marker.mk ?_)
          refine Marker.in ?_
          have oZ10 := Lib.hid (own_apart oZ.out hap.out (fun k h1 h2 => (k10 k h1 h2).1))
          have l44 := K4.out.lt
          replace K4 := Lib.hid (show Blk w10 w.heap.size (u8V (zeros 32)) 22 from (b10.block _ l4).trans K4.out)
          replace BB := Lib.hid (BB.out.trans (b10.mono (by omega)))
          have LJ : Hid ((y1 ++ b).length = 64 + m) := Lib.hid (by rw [List.length_append, TL1.out, HBL.out])
          have rj := Lib.hid o10.row
          have sz10 : w9.heap.size ≤ w10.heap.size := Nat.le_trans sz b10.size
          clear o10 k10 b10 oZ oP hap b6 KF1 rb
          generalize hJ : y1 ++ b = j1 at *
          replace hJ := Lib.hid hJ
          go_wp2_with fail
          ((with_reducible refine (rsum_any P1 j1 (64 + m) cp1 w10 LJ.out rj.out (by omega)).mono ?_))
          rintro e w11 ⟨rfl, b11⟩
          replace K4 := Lib.hid (K4.out.below b11)
          replace BB := Lib.hid (bt BB.out b11)
          replace oZ10 := Lib.hid (own_below oZ10.out b11)
          have S1L := sha_len j1
          have S1B := sha_bytes j1
          generalize hS : sha j1 = s1 at *
          replace hS := Lib.hid hS
          replace S1L := Lib.hid S1L
          replace S1B := Lib.hid S1B
          have l11 := K4.out.lt
          have sz11 : w9.heap.size ≤ w11.heap.size := Nat.le_trans sz10 b11.size
          clear b11 rj
          go_wp2_with ((with_reducible show wpList _ _ _ (⟨_, .alloc 22, _, _, _, none⟩ :: _) _ _); (with_reducible refine wpRow_alloc zeroT_b32 ?_ ?_ ?_); (· exact wanted0 rfl); (· rfl); refine Marker.mk ?_)
          refine Marker.in ?_
          have bel := below_alloc1 w11 (.cells (u8V (zeros 32)) 22)
          have zlt := fun a ha => (own_lt oZ10.out a ha).2
          replace K4 := Lib.hid (K4.out.below bel)
          replace BB := Lib.hid (bt BB.out bel)
          replace oZ10 := Lib.hid (own_below oZ10.out bel)
          have K10 := Lib.hid (Blk.new w11 (u8V (zeros 32)) 22)
          have sz12 := Nat.le_trans sz11 bel.size
          clear bel
          generalize w11.alloc (.cells (u8V (zeros 32)) 22) = w12 at *
          generalize w11.heap.size = g10 at *
          go_wp2_with ((with_reducible show wpList _ _ _ (⟨_, .store 22 _ _, _, _, _, none⟩ :: _) _ _); (with_reducible refine wpBlk_store (g := g10) (cs := u8V s1) agg_b32 ?_ ?_ K10 ?_ ?_ ?_ ?_); (· exact wanted0 rfl); (· exact ⟨rfl, rfl, rfl⟩); (· rw [u8V_size, zeros_len]); (· rw [u8V_size, S1L.out]); (· exact u8V_one _); refine Marker.mk ?_)
          refine Marker.in ?_
          replace K4 := Lib.hid (K4.out.setRow_other g10 (u8V s1) (by omega))
          replace oZ10 := Lib.hid (own_same (w' := w12.setRow g10 (u8V s1)) oZ10.out (fun a ha => setRow_other w12 g10 a.block (u8V s1) (by have := zlt a ha; omega)))
          replace K10 := Lib.hid (K10.out.setRow (u8V s1))
          replace BB := Lib.hid (below_setRow (g := g10) BB.out (by omega) (u8V s1))
          have l12 := K10.out.lt
          have sz13 : w9.heap.size ≤ (w12.setRow g10 (u8V s1)).heap.size := by simpa using sz12
          clear zlt
          generalize w12.setRow g10 (u8V s1) = w13 at *
          have rs := Lib.hid (u8V_row K10.out S1B.out)
          go_wp2_with ((with_reducible show wpList _ _ _ (⟨some 56, _, _, _, _, _⟩ :: _) _ _); (with_reducible refine wpList_append_bytes' _ (wanted0 rfl) (.tmp 54) (.tmp 55) rfl w9.heap.size Z cz 64 y2 TL2.out ?_ oZ10.out (some ⟨g10, 0, none⟩) 32 32 s1 S1L.out ?_ rs.out (by omega) sz13 ?_); (· rfl); (· rfl); intro Z1 cz1 w14 o14 b14 k14; refine Marker.mk ?_)
          refine Marker.in ?_
          replace K4 := Lib.hid (show Blk w14 w.heap.size (u8V (zeros 32)) 22 from (b14.block _ l4).trans K4.out)
          replace BB := Lib.hid (BB.out.trans (b14.mono (by omega)))
          have LJ2 : Hid ((y2 ++ s1).length = 96) := Lib.hid (by rw [List.length_append, TL2.out, S1L.out])
          have rj2 := Lib.hid o14.row
          clear o14 k14 b14 oZ10 rs K10
          have ea : sha (y2 ++ s1) = ans := HM.out.symm
          go_wp2_with fail
          ((with_reducible refine (rsum_any Z1 (y2 ++ s1) 96 cz1 w14 LJ2.out rj2.out (by omega)).mono ?_))
          rintro e w15 ⟨rfl, b15⟩
          rw [ea]
          replace K4 := Lib.hid (K4.out.below b15)
          replace BB := Lib.hid (bt BB.out b15)
          clear b15 rj2 ea
          go_wp2_with ((with_reducible show wpList _ _ _ (⟨_, .store 22 _ _, _, _, _, none⟩ :: _) _ _); (with_reducible refine wpBlk_store (g := w.heap.size) (cs := u8V ans) agg_b32 ?_ ?_ K4 ?_ ?_ ?_ ?_); (· exact wanted0 rfl); (· exact ⟨rfl, rfl, rfl⟩); (· rw [u8V_size, zeros_len]); (· rw [u8V_size, AL.out]); (· exact u8V_one _))
          refine bodyPost_ret (v := .agg (u8V ans)) (results_blk agg_b32 rfl _ _ (w.heap.size) _ rfl (K4.out.setRow _) (by rw [u8V_size, AL.out])) rfl ⟨rfl, below_setRow BB.out (by omega) _⟩
theorem rof_any (A B : Option Addr) (k b : List Int) (n m c d : Nat) (w : World) (hn : k.length = n) (hm : b.length = m) (hk : Row w A k) (hb : Row w B b) (hl : n ≤ 1000000) (hl2 : m ≤ 900000) :
    Calls Tryd.prog 64 #[.slice A n c, .slice B m d] w fun e w' => e = .returned (.agg (u8V (hmac k b))) ∧ Below w.heap.size w w' := by
  rcases Nat.lt_or_ge 64 n with h | h
  · exact rof_long A B k b n m c d w hn hm hk hb ⟨h, hl⟩ hl2
  · exact rof_short A B k b n m c d w hn hm hk hb h hl2
theorem build_y8 : Tryd.prog.built 29 [] = some (u8V (zeros 8)) := by kernel_rfl
set_option maxRecDepth 100000 in
set_option maxHeartbeats 800000 in
theorem rtag_any (A B : Option Addr) (k b : List Int) (n m c d : Nat) (w : World) (hn : k.length = n) (hm : b.length = m) (hk : Row w A k) (hb : Row w B b) (hl : n ≤ 1000000) (hl2 : m ≤ 900000) :
    Calls Tryd.prog 52 #[.slice A n c, .slice B m d] w fun e w' => e = .returned (.agg (u8V ((hmac k b).take 8))) ∧ Below w.heap.size w w' := by
  have C := fun (W : World) (hb' : Below w.heap.size w W) => rof_any A B k b n m c d W hn hm (row_below hk hb') (row_below hb hb') hl hl2
  have AL := hmac_len k b
  generalize hmac k b = ans at *
  have AL2 := Lib.hid AL
  have C2 := Lib.hid C
  have TL : (ans.take 8).length = 8 := by rw [List.length_take, AL2.out]; rfl
  have TG : ∀ i, i < 8 → (ans.take 8).getD i 0 = ans.getD i 0 := fun i hi => by
    simp only [List.getD_eq_getElem?_getD]
    rw [List.getElem?_take_of_lt hi]
  generalize ans.take 8 = tg at *
  replace TL := Lib.hid TL
  replace TG := Lib.hid TG
  have B8 := Lib.hid build_y8
  clear C AL hk hb hn hm
  go_enter Tryd.func52, Tryd.ntmps52
  go_wp2_with ((with_reducible show wpList _ _ _ (⟨_, .alloc 29, _, _, _, none⟩ :: _) _ _); (with_reducible refine wpRow_alloc zeroT_b8 ?_ ?_ ?_); (· exact wanted0 rfl); (· rfl); refine Marker.mk ?_)
  refine Marker.in ?_
  have BB := Lib.hid (Below.refl w.heap.size w)
  have bel := below_alloc1 w (.cells (u8V (zeros 8)) 29)
  replace BB := Lib.hid (bt BB.out bel)
  have K4 := Lib.hid (Blk.new w (u8V (zeros 8)) 29)
  clear bel
  generalize w.alloc (.cells (u8V (zeros 8)) 29) = w1 at *
  go_wp2_with fail
  ((with_reducible refine (C2.out _ BB.out).mono ?_))
  rintro e w2 ⟨rfl, b2⟩
  replace K4 := Lib.hid (K4.out.below b2)
  replace BB := Lib.hid (bt BB.out b2)
  clear b2 C2
  have l2 := K4.out.lt
  go_wp2_with ((with_reducible show wpList _ _ _ (⟨_, .alloc 22, _, _, _, none⟩ :: _) _ _); (with_reducible refine wpRow_alloc zeroT_b32 ?_ ?_ ?_); (· exact wanted0 rfl); (· rfl); refine Marker.mk ?_)
  refine Marker.in ?_
  have bel := below_alloc1 w2 (.cells (u8V (zeros 32)) 22)
  replace K4 := Lib.hid (K4.out.below bel)
  replace BB := Lib.hid (bt BB.out bel)
  have K5 := Lib.hid (Blk.new w2 (u8V (zeros 32)) 22)
  clear bel
  generalize w2.alloc (.cells (u8V (zeros 32)) 22) = w3 at *
  generalize w2.heap.size = g5 at *
  go_wp2_with ((with_reducible show wpList _ _ _ (⟨_, .store 22 _ _, _, _, _, none⟩ :: _) _ _); (with_reducible refine wpBlk_store (g := g5) (cs := u8V ans) agg_b32 ?_ ?_ K5 ?_ ?_ ?_ ?_); (· exact wanted0 rfl); (· exact ⟨rfl, rfl, rfl⟩); (· rw [u8V_size, zeros_len]); (· rw [u8V_size, AL2.out]); (· exact u8V_one _); refine Marker.mk ?_)
  refine Marker.in ?_
  replace K4 := Lib.hid (K4.out.setRow_other g5 (u8V ans) (by omega))
  replace K5 := Lib.hid (K5.out.setRow (u8V ans))
  replace BB := Lib.hid (below_setRow (g := g5) BB.out (by omega) (u8V ans))
  generalize w3.setRow g5 (u8V ans) = w4 at *
  have l5 := K5.out.lt
  go_wp2_with (first | ((with_reducible show wpList _ _ _ (⟨some 11, _, _, _, _, _⟩ :: _) _ _); refine wpList_build' rfl 29 _ rfl (u8V (zeros 8)) B8.out ?_) | ((with_reducible show wpList _ _ _ (⟨_, .alloc 29, _, _, _, none⟩ :: _) _ _); (with_reducible refine wpRow_alloc zeroT_b8 ?_ ?_ ?_); (· exact wanted0 rfl); (· rfl); refine Marker.mk ?_))
  refine Marker.in ?_
  have bel := below_alloc1 w4 (.cells (u8V (zeros 8)) 29)
  replace K4 := Lib.hid (K4.out.below bel)
  replace K5 := Lib.hid (K5.out.below bel)
  replace BB := Lib.hid (bt BB.out bel)
  have K6 := Lib.hid (Blk.new w4 (u8V (zeros 8)) 29)
  clear bel
  generalize w4.alloc (.cells (u8V (zeros 8)) 29) = w5 at *
  generalize w4.heap.size = g6 at *
  go_wp2_with ((with_reducible show wpList _ _ _ (⟨_, .store 29 _ _, _, _, _, none⟩ :: _) _ _); (with_reducible refine wpBlk_store (g := g6) (cs := u8V (zeros 8)) agg_b8 ?_ ?_ K6 ?_ ?_ ?_ ?_); (· exact wanted0 rfl); (· exact ⟨rfl, rfl, rfl⟩); (· rw [u8V_size, zeros_len]); (· rw [u8V_size, zeros_len]); (· exact u8V_one _); refine Marker.mk ?_)
  refine Marker.in ?_
  replace K4 := Lib.hid (K4.out.setRow_other g6 (u8V (zeros 8)) (by omega))
  replace K5 := Lib.hid (K5.out.setRow_other g6 (u8V (zeros 8)) (by omega))
  replace K6 := Lib.hid (K6.out.setRow (u8V (zeros 8)))
  replace BB := Lib.hid (below_setRow (g := g6) BB.out (by omega) (u8V (zeros 8)))
  generalize w5.setRow g6 (u8V (zeros 8)) = w6 at *
  go_wp2_with fail
  go_loopw [7] (fun y wr => ∃ i : Nat, i ≤ 8 ∧ y = .int .i64 i ∧ Blk wr w.heap.size (u8V (zeros 8)) 29 ∧ Blk wr g5 (u8V ans) 22 ∧ Blk wr g6 (u8V (over tg (zeros 8) i)) 29 ∧ Below w.heap.size w wr) (fun y _ => 8 - (intOf y).toNat)
  case atStart => exact ⟨0, by omega, rfl, K4.out, K5.out, by rw [over_zero]; exact K6.out, BB.out⟩
  case round =>
    clear K4 K5 K6 BB
    obtain ⟨i, hi, rfl, K4, K5, K6, BB⟩ := hrel
    have le : tg.length = (zeros 8).length := by rw [TL.out, zeros_len]
    have lz := TL.out
    by_cases hlt : i < 8
    · have lo := over_len tg (zeros 8) i le (by omega)
      have c5 := K5.cell i
      rw [u8V_get _ _ (by rw [AL2.out]; omega)] at c5
      have c6 := K6.cell i
      have f6 := K6.frozen i
      rw [u8V_get _ _ (by omega)] at c6
      have S1 := over_set tg (zeros 8) i le (by omega)
      rw [TG.out i hlt] at S1
      generalize ans.getD i 0 = x at *
      replace S1 := Lib.hid S1
      replace K4 := Lib.hid K4
      replace K5 := Lib.hid K5
      replace K6 := Lib.hid K6
      replace BB := Lib.hid BB
      clear le lz lo
      go_wp2_with fail
      have h := K6.out.set i (.int .u8 x)
      rw [u8V_set, S1.out] at h
      exact ⟨⟨i + 1, by omega, by simp, K4.out.other _ _ _ (by omega), K5.out.other _ _ _ (by omega), h, BB.out.setCell (by simp; omega) _⟩, by simp [intOf]; omega⟩
    · obtain rfl : i = 8 := by omega
      rw [show ((8 : Nat) : Int) = 8 from rfl]
      rw [over_all tg (zeros 8) 8 (by omega) (by rw [zeros_len]; omega)] at K6
      replace K4 := Lib.hid K4
      replace K6 := Lib.hid K6
      replace BB := Lib.hid BB
      clear le lz
      go_wp2_with (first | ((with_reducible show wpList _ _ _ (⟨_, .load 29 _, _, _, _, none⟩ :: _) _ _); (with_reducible refine wpBlk_load (g := g6) agg_b8 ?_ ?_ K6 ?_ ?_); (· exact wanted0 rfl); (· exact ⟨rfl, rfl⟩); (· rw [u8V_size, TL.out])) | ((with_reducible show wpList _ _ _ (⟨_, .store 29 _ _, _, _, _, none⟩ :: _) _ _); (with_reducible refine wpBlk_store (g := w.heap.size) (cs := u8V tg) agg_b8 ?_ ?_ K4 ?_ ?_ ?_ ?_); (· exact wanted0 rfl); (· exact ⟨rfl, rfl, rfl⟩); (· rw [u8V_size, zeros_len]); (· rw [u8V_size, TL.out]); (· exact u8V_one _)))
      refine bodyPost_ret (v := .agg (u8V tg)) (results_blk agg_b8 rfl _ _ (w.heap.size) _ rfl (K4.out.setRow _) (by rw [u8V_size, TL.out])) rfl ⟨rfl, below_setRow BB.out (by omega) _⟩
end Go.Proofs.YtapednkmefbldaaDoor
