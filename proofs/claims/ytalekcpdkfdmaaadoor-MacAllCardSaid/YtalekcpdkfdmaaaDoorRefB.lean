/- sidestickref04.Block. -/
import Derived.Test.YtalekcpdkfdmaaaDoorRefA
namespace Go.Proofs.YtalekcpdkfdmaaaDoor
open Go.RowKit

def tOnex (k w e f g h : Int) : Int := h + S1 e + chx e f g + k + w
def round1x (k w : Int) (s : St) : St :=
  ⟨(tOnex k w s.e s.f s.g s.h + tTwo s.a s.b s.c) % 4294967296, s.a, s.b, s.c, (s.d + tOnex k w s.e s.f s.g s.h) % 4294967296, s.e, s.f, s.g⟩
theorem round1x_eq (k w : Int) (s : St) : round1x k w s = round1 k w s := by
  unfold round1x round1 tOnex tOne
  rw [chx_cho]
set_option maxRecDepth 100000 in
set_option maxHeartbeats 1600000 in
theorem rblock_of (h0 r : St) (b sl : List Int) (hl : b.length = 64) (hb : ∀ x ∈ b, 0 ≤ x ∧ x ≤ 255) (hs : IsSched b sl) (hr : rounds64 rootsL sl h0 64 = r) (w : World) :
    Calls Tryd.prog 20 #[.agg h0.cells, .agg (u8V b)] w fun e w' => e = .returned (.agg (add8 r h0).cells) ∧ Below w.heap.size w w' := by
  have HL := Lib.hid hl
  have HB := Lib.hid hb
  have HS := Lib.hid hs
  have HR := Lib.hid hr
  have BW := Lib.hid build_w64
  clear hl hb hs hr
  go_enter Tryd.func20, Tryd.ntmps20
  go_wp2_with ((with_reducible show wpList _ _ _ (⟨_, .alloc 24, _, _, _, none⟩ :: _) _ _); (with_reducible refine wpRow_alloc zeroT_8 ?_ ?_ ?_); (· exact wanted0 rfl); (· rfl); refine Marker.mk ?_)
  refine Marker.in ?_
  have KH := Lib.hid (((Blk.new w h0.cells 24).alloc (.cells (u8V b) 25)).alloc (.cells (u32V (zeros 8)) 24))
  have KB := Lib.hid ((Blk.new' (w.alloc (.cells h0.cells 24)) (u8V b) 25 (g := w.heap.size + 1) (by simp)).alloc (.cells (u32V (zeros 8)) 24))
  have KR := Lib.hid (Blk.new' ((w.alloc (.cells h0.cells 24)).alloc (.cells (u8V b) 25)) (u32V (zeros 8)) 24 (g := w.heap.size + 1 + 1) (by simp))
  have BB := Lib.hid (below_alloc3 w (.cells h0.cells 24) (.cells (u8V b) 25) (.cells (u32V (zeros 8)) 24))
  generalize ((w.alloc (.cells h0.cells 24)).alloc (.cells (u8V b) 25)).alloc (.cells (u32V (zeros 8)) 24) = w3 at *
  obtain ⟨g3, hg3⟩ : ∃ g, w.heap.size + 1 = g := ⟨_, rfl⟩
  rw [hg3] at KB KR
  simp only [hg3]
  obtain ⟨g4, hg4⟩ : ∃ g, g3 + 1 = g := ⟨_, rfl⟩
  rw [hg4] at KR
  simp only [hg4]
  have n3 : w.heap.size < g3 := by omega
  have n4 : g3 < g4 := by omega
  clear hg3 hg4
  have l4 := KR.out.lt
  go_wp2_with (first | ((with_reducible show wpList _ _ _ (⟨some 18, _, _, _, _, _⟩ :: _) _ _); refine wpList_build' rfl 56 _ rfl (u32V (zeros 64)) BW.out ?_) | ((with_reducible show wpList _ _ _ (⟨_, .alloc 56, _, _, _, none⟩ :: _) _ _); (with_reducible refine wpRow_alloc zeroT_64 ?_ ?_ ?_); (· exact wanted0 rfl); (· rfl); refine Marker.mk ?_))
  refine Marker.in ?_
  have bel := below_alloc1 w3 (.cells (u32V (zeros 64)) 56)
  replace KH := Lib.hid (KH.out.below bel)
  replace KB := Lib.hid (KB.out.below bel)
  replace KR := Lib.hid (KR.out.below bel)
  replace BB := Lib.hid (bt BB.out bel)
  have KW := Lib.hid (Blk.new w3 (u32V (zeros 64)) 56)
  clear bel
  generalize w3.alloc (.cells (u32V (zeros 64)) 56) = w4 at *
  generalize w3.heap.size = g5 at *
  go_wp2_with ((with_reducible show wpList _ _ _ (⟨_, .store 56 _ _, _, _, _, none⟩ :: _) _ _); (with_reducible refine wpBlk_store (g := g5) (cs := u32V (zeros 64)) agg_64 ?_ ?_ KW ?_ ?_ ?_ ?_); (· exact wanted0 rfl); (· exact ⟨rfl, rfl, rfl⟩); (· rw [u32V_size, zeros_len]); (· rw [u32V_size, zeros_len]); (· exact u32V_one _); refine Marker.mk ?_)
  refine Marker.in ?_
  replace KH := Lib.hid (KH.out.setRow_other g5 (u32V (zeros 64)) (by omega))
  replace KB := Lib.hid (KB.out.setRow_other g5 (u32V (zeros 64)) (by omega))
  replace KR := Lib.hid (KR.out.setRow_other g5 (u32V (zeros 64)) (by omega))
  replace KW := Lib.hid (KW.out.setRow (u32V (zeros 64)))
  replace BB := Lib.hid (below_setRow (g := g5) BB.out (by omega) (u32V (zeros 64)))
  generalize w4.setRow g5 (u32V (zeros 64)) = w5 at *
  go_wp2_with fail
  go_loopw [6] (fun y wr => ∃ i : Nat, i ≤ 16 ∧ y = .int .i64 i ∧ Blk wr w.heap.size h0.cells 24 ∧ Blk wr g3 (u8V b) 25 ∧ Blk wr g4 (u32V (zeros 8)) 24 ∧ Blk wr g5 (u32V (part sl i)) 56 ∧ Below w.heap.size w wr) (fun y _ => 16 - (intOf y).toNat)
  case atStart => exact ⟨0, by omega, rfl, KH.out, KB.out, KR.out, by rw [part_zero, HS.out.1]; exact KW.out, BB.out⟩
  case round =>
    clear KH KB KR KW BB
    obtain ⟨i, hi, rfl, KH, KB, KR, KW, hB⟩ := hrel
    by_cases hlt : i < 16
    · have c0 := KB.cell (4 * i)
      have c1 := KB.cell (4 * i + 1)
      have c2 := KB.cell (4 * i + 2)
      have c3 := KB.cell (4 * i + 3)
      rw [u8V_get _ _ (by rw [HL.out]; omega)] at c0 c1 c2 c3
      have byt : ∀ k, 0 ≤ b.getD k 0 ∧ b.getD k 0 ≤ 255 := fun k => getD_byte HB.out k
      have WD := HS.out.2 i (by omega)
      rw [if_pos hlt] at WD
      unfold wordAt at WD
      have b0 := byt (4 * i)
      have b1 := byt (4 * i + 1)
      have b2 := byt (4 * i + 2)
      have b3 := byt (4 * i + 3)
      clear byt
      generalize b.getD (4 * i) 0 = x0 at *
      generalize b.getD (4 * i + 1) 0 = x1 at *
      generalize b.getD (4 * i + 2) 0 = x2 at *
      generalize b.getD (4 * i + 3) 0 = x3 at *
      have v0 : IntKind.u32.wrap x0 = x0 := wrap_u32_in _ (by omega) (by omega)
      have v1 : IntKind.u32.wrap x1 = x1 := wrap_u32_in _ (by omega) (by omega)
      have v2 : IntKind.u32.wrap x2 = x2 := wrap_u32_in _ (by omega) (by omega)
      have v3 : IntKind.u32.wrap x3 = x3 := wrap_u32_in _ (by omega) (by omega)
      have cw := KW.cell i
      have fw := KW.frozen i
      rw [u32V_get _ _ (by rw [part_len _ _ (by rw [HS.out.1]; omega), HS.out.1]; omega)] at cw
      replace WD := Lib.hid WD
      replace KH := Lib.hid KH
      replace KB := Lib.hid KB
      replace KR := Lib.hid KR
      replace KW := Lib.hid KW
      replace hB := Lib.hid hB
      go_wp2_with fail
      refine wp_region_qt' 31 (by kernel_rfl) (by kernel_rfl) ?_
      simp only [List.take_succ_cons, List.take_zero, List.drop_succ_cons, List.drop_zero]
      repeat (go_big_quiet_step (fail))
      refine wpQuiet_nil ?_
      intro _ hw'
      obtain ⟨nq, rfl⟩ := hw'
      go_wp2_with fail
      have e : bits .or .u32 (bits .or .u32 (bits .or .u32 (x0 * 16777216) (x1 * 65536)) (x2 * 256)) x3 = sl.getD i 0 := by rw [WD.out]; exact (word4_in b0.1 b0.2 b1.1 b1.2 b2.1 b2.2).symm
      rw [e]
      have hl2 := HS.out.1
      refine ⟨⟨i + 1, by omega, by simp, (KH.out.drewN nq).other _ _ _ (by omega), (KB.out.drewN nq).other _ _ _ (by omega), (KR.out.drewN nq).other _ _ _ (by omega), ?_, (below_drewN hB.out nq).setCell (by simp; omega) _⟩, by simp [intOf]; omega⟩
      have h := (KW.out.drewN nq).set i (.int .u32 (sl.getD i 0))
      rw [u32V_set, part_set _ _ (by omega)] at h
      exact h
    · obtain rfl : i = 16 := by omega
      rw [show ((16 : Nat) : Int) = 16 from rfl]
      replace KH := Lib.hid KH
      replace KR := Lib.hid KR
      replace KW := Lib.hid KW
      replace hB := Lib.hid hB
      go_wp2_with fail
      go_loopw [7] (fun y wx => ∃ i : Nat, 16 ≤ i ∧ i ≤ 64 ∧ y = .int .i64 i ∧ Blk wx w.heap.size h0.cells 24 ∧ Blk wx g4 (u32V (zeros 8)) 24 ∧ Blk wx g5 (u32V (part sl i)) 56 ∧ Below w.heap.size w wx) (fun y _ => 64 - (intOf y).toNat)
      case atStart => exact ⟨16, by omega, by omega, rfl, KH.out, KR.out, KW.out, hB.out⟩
      case round =>
        clear KH KB KR KW hB
        obtain ⟨i, hi0, hi, rfl, KH, KR, KW, hB⟩ := hrel
        by_cases hlt : i < 64
        · have hl2 := HS.out.1
          have lp : (part sl i).length = 64 := by rw [part_len _ _ (by omega), hl2]
          have c0 := KW.cell (i - 16)
          have c1 := KW.cell (i - 7)
          have c2 := KW.cell (i - 15)
          have c3 := KW.cell (i - 2)
          have cw := KW.cell i
          have fw := KW.frozen i
          rw [u32V_get _ _ (by omega)] at c0 c1 c2 c3 cw
          rw [part_getD _ _ _ (by omega) (by omega)] at c0 c1 c2 c3
          have WD := HS.out.2 i hlt
          rw [if_neg (by omega)] at WD
          unfold nxtAt at WD
          generalize sl.getD (i - 16) 0 = x0 at *
          generalize sl.getD (i - 7) 0 = x1 at *
          generalize sl.getD (i - 15) 0 = x2 at *
          generalize sl.getD (i - 2) 0 = x3 at *
          replace WD := Lib.hid WD
          replace KH := Lib.hid KH
          replace KR := Lib.hid KR
          replace KW := Lib.hid KW
          replace hB := Lib.hid hB
          replace hl2 := Lib.hid hl2
          clear lp
          go_wp2_with fail
          refine wp_region_qt' 29 (by kernel_rfl) (by kernel_rfl) ?_
          simp only [List.take_succ_cons, List.take_zero, List.drop_succ_cons, List.drop_zero]
          repeat (go_big_quiet_step (((with_reducible refine (turn_all _ _ _ ?_).mono ?_); (· decide); (rintro e w2 ⟨rfl, qq, rfl⟩; exact ⟨rfl, _, drew2 _ _ _⟩))))
          refine wpQuiet_nil ?_
          intro _ hw'
          obtain ⟨nq2, rfl⟩ := hw'
          go_wp2_with fail
          have hl2 := hl2.out
          have e : (x0 + x1 + sg0 x2 + sg1 x3) % 4294967296 = sl.getD i 0 := by rw [WD.out]; rfl
          refine ⟨⟨i + 1, by omega, by omega, by simp, (KH.out.drewN _).other _ _ _ (by omega), (KR.out.drewN _).other _ _ _ (by omega), ?_, (below_drewN hB.out _).setCell (by simp; omega) _⟩, by simp [intOf]; omega⟩
          have h := (KW.out.drewN nq2).set i (.int .u32 (sl.getD i 0))
          rw [u32V_set, part_set _ _ (by omega), ← e] at h
          exact h
        · obtain rfl : i = 64 := by omega
          rw [show ((64 : Nat) : Int) = 64 from rfl]
          rw [part_all _ _ (by rw [HS.out.1]; omega)] at KW
          replace KH := Lib.hid KH
          replace KR := Lib.hid KR
          replace KW := Lib.hid KW
          replace hB := Lib.hid hB
          go_wp2_with fail
          ((with_reducible refine (rroots_any _).mono ?_))
          rintro e w6 ⟨rfl, b6⟩
          replace KH := Lib.hid (KH.out.below b6)
          replace KR := Lib.hid (KR.out.below b6)
          replace KW := Lib.hid (KW.out.below b6)
          replace hB := Lib.hid (bt hB.out b6)
          clear b6
          have l5 := KW.out.lt
          go_wp2_with ((with_reducible show wpList _ _ _ (⟨_, .alloc 56, _, _, _, none⟩ :: _) _ _); (with_reducible refine wpRow_alloc zeroT_64 ?_ ?_ ?_); (· exact wanted0 rfl); (· rfl); refine Marker.mk ?_)
          refine Marker.in ?_
          have bel := below_alloc1 w6 (.cells (u32V (zeros 64)) 56)
          replace KH := Lib.hid (KH.out.below bel)
          replace KR := Lib.hid (KR.out.below bel)
          replace KW := Lib.hid (KW.out.below bel)
          replace hB := Lib.hid (bt hB.out bel)
          have KT := Lib.hid (Blk.new w6 (u32V (zeros 64)) 56)
          clear bel
          generalize w6.alloc (.cells (u32V (zeros 64)) 56) = w7 at *
          generalize w6.heap.size = g10 at *
          go_wp2_with ((with_reducible show wpList _ _ _ (⟨_, .store 56 _ _, _, _, _, none⟩ :: _) _ _); (with_reducible refine wpBlk_store (g := g10) (cs := u32V rootsL) agg_64 ?_ ?_ KT ?_ ?_ ?_ ?_); (· exact wanted0 rfl); (· exact ⟨rfl, rfl, rfl⟩); (· rw [u32V_size, zeros_len]); (· rw [u32V_size, rootsL_len]); (· exact u32V_one _); refine Marker.mk ?_)
          refine Marker.in ?_
          replace KH := Lib.hid (KH.out.setRow_other g10 (u32V rootsL) (by omega))
          replace KR := Lib.hid (KR.out.setRow_other g10 (u32V rootsL) (by omega))
          replace KW := Lib.hid (KW.out.setRow_other g10 (u32V rootsL) (by omega))
          replace KT := Lib.hid (KT.out.setRow (u32V rootsL))
          replace hB := Lib.hid (below_setRow (g := g10) hB.out (by omega) (u32V rootsL))
          generalize w7.setRow g10 (u32V rootsL) = w8 at *
          have l10 := KT.out.lt
          go_wp2_with (first | ((with_reducible show wpList _ _ _ (⟨_, .load 24 _, _, _, _, none⟩ :: _) _ _); (with_reducible refine wpBlk_load (g := w.heap.size) agg_8 ?_ ?_ KH ?_ ?_); (· exact wanted0 rfl); (· exact ⟨rfl, rfl⟩); (· exact St.cells_size _)) | ((with_reducible show wpList _ _ _ (⟨_, .alloc 24, _, _, _, none⟩ :: _) _ _); (with_reducible refine wpRow_alloc zeroT_8 ?_ ?_ ?_); (· exact wanted0 rfl); (· rfl); refine Marker.mk ?_))
          refine Marker.in ?_
          have bel := below_alloc1 w8 (.cells (u32V (zeros 8)) 24)
          replace KH := Lib.hid (KH.out.below bel)
          replace KR := Lib.hid (KR.out.below bel)
          replace KW := Lib.hid (KW.out.below bel)
          replace KT := Lib.hid (KT.out.below bel)
          replace hB := Lib.hid (bt hB.out bel)
          have KV := Lib.hid (Blk.new w8 (u32V (zeros 8)) 24)
          clear bel
          generalize w8.alloc (.cells (u32V (zeros 8)) 24) = w9 at *
          generalize w8.heap.size = g11 at *
          go_wp2_with ((with_reducible show wpList _ _ _ (⟨_, .store 24 _ _, _, _, _, none⟩ :: _) _ _); (with_reducible refine wpBlk_store (g := g11) (cs := h0.cells) agg_8 ?_ ?_ KV ?_ ?_ ?_ ?_); (· exact wanted0 rfl); (· exact ⟨rfl, rfl, rfl⟩); (· rw [u32V_size, zeros_len]); (· exact St.cells_size _); (· exact St.cells_one _); refine Marker.mk ?_)
          refine Marker.in ?_
          replace KH := Lib.hid (KH.out.setRow_other g11 h0.cells (by omega))
          replace KR := Lib.hid (KR.out.setRow_other g11 h0.cells (by omega))
          replace KW := Lib.hid (KW.out.setRow_other g11 h0.cells (by omega))
          replace KT := Lib.hid (KT.out.setRow_other g11 h0.cells (by omega))
          replace KV := Lib.hid (KV.out.setRow h0.cells)
          replace hB := Lib.hid (below_setRow (g := g11) hB.out (by omega) h0.cells)
          generalize w9.setRow g11 h0.cells = w10 at *
          go_wp2_with fail
          go_loopw [12] (fun y wr => ∃ i : Nat, i ≤ 64 ∧ y = .int .i64 i ∧ Blk wr g11 (rounds64 rootsL sl h0 i).cells 24 ∧ Blk wr g10 (u32V rootsL) 56 ∧ Blk wr g5 (u32V sl) 56 ∧ Blk wr w.heap.size h0.cells 24 ∧ Blk wr g4 (u32V (zeros 8)) 24 ∧ Below w.heap.size w wr) (fun y _ => 64 - (intOf y).toNat)
          case atStart => exact ⟨0, by omega, rfl, KV.out, KT.out, KW.out, KH.out, KR.out, hB.out⟩
          case round =>
            clear KV KT KW KH KR hB
            obtain ⟨i, hi, rfl, KV, KT, KW, KH, KR, hB⟩ := hrel
            by_cases hlt : i < 64
            · have STEP : rounds64 rootsL sl h0 (i + 1) = round1 (rootsL.getD i 0) (sl.getD i 0) (rounds64 rootsL sl h0 i) := rfl
              have cr := KT.cell i
              rw [u32V_get _ _ (by rw [rootsL_len]; omega)] at cr
              have cw := KW.cell i
              rw [u32V_get _ _ (by rw [HS.out.1]; omega)] at cw
              generalize hq : rounds64 rootsL sl h0 i = q at *
              generalize rootsL.getD i 0 = k at *
              generalize sl.getD i 0 = x at *
              replace STEP := Lib.hid STEP
              obtain ⟨qa, qb, qc, qd, qe, qf, qg, qh⟩ := q
              clear hq
              have cn := fun j => KV.cell j
              simp only [St.cells] at cn
              replace KV := Lib.hid KV
              replace KT := Lib.hid KT
              replace KW := Lib.hid KW
              replace KH := Lib.hid KH
              replace KR := Lib.hid KR
              replace hB := Lib.hid hB
              go_wp2_with fail
              go_quiet (((with_reducible refine (turn_all _ _ _ ?_).mono ?_); (· decide); (rintro e w2 ⟨rfl, qq, rfl⟩; exact ⟨rfl, _, drew2 _ _ _⟩)))
              replace cr : (wr.drewN nq).cell? _ = _ := cr
              replace cw : (wr.drewN nq).cell? _ = _ := cw
              replace cn : ∀ j, (wr.drewN nq).cell? _ = _ := cn
              replace KV := Lib.hid (KV.out.drewN nq)
              replace KT := Lib.hid (KT.out.drewN nq)
              replace KW := Lib.hid (KW.out.drewN nq)
              replace KH := Lib.hid (KH.out.drewN nq)
              replace KR := Lib.hid (KR.out.drewN nq)
              replace hB := Lib.hid (below_drewN hB.out nq)
              generalize wr.drewN nq = wq at *
              go_wp2_with fail
              go_quiet (((with_reducible refine (turn_all _ _ _ ?_).mono ?_); (· decide); (rintro e w2 ⟨rfl, qq, rfl⟩; exact ⟨rfl, _, drew2 _ _ _⟩)))
              have KV2 := Lib.hid (KV.out.drewN nq)
              go_wp2_with ((with_reducible show wpList _ _ _ (⟨_, .store 24 _ _, _, _, _, none⟩ :: _) _ _); (with_reducible refine wpBlk_store (g := g11) (cs := (round1x k x ⟨qa, qb, qc, qd, qe, qf, qg, qh⟩).cells) agg_8 ?_ ?_ KV2 ?_ ?_ ?_ ?_); (· exact wanted0 rfl); (· exact ⟨rfl, rfl, rfl⟩); (· exact St.cells_size _); (· exact St.cells_size _); (· exact St.cells_one _); refine Marker.mk ?_)
              refine Marker.in ?_
              clear cr cw cn
              go_wp2_with fail
              refine ⟨⟨i + 1, by omega, by simp, ?_, (KT.out.drewN _).setRow_other _ _ (by omega), (KW.out.drewN _).setRow_other _ _ (by omega), (KH.out.drewN _).setRow_other _ _ (by omega), (KR.out.drewN _).setRow_other _ _ (by omega), below_setRow (below_drewN hB.out _) (by omega) _⟩, by simp [intOf]; omega⟩
              rw [STEP.out, ← round1x_eq]
              exact KV2.out.setRow _
            · obtain rfl : i = 64 := by omega
              rw [show ((64 : Nat) : Int) = 64 from rfl]
              rw [HR.out] at KV
              replace KV := Lib.hid KV
              replace KH := Lib.hid KH
              replace KR := Lib.hid KR
              replace hB := Lib.hid hB
              clear KT KW
              go_wp2_with fail
              go_loopw [17] (fun y wx => ∃ i : Nat, i ≤ 8 ∧ y = .int .i64 i ∧ Blk wx w.heap.size (u32V (over (add8 r h0).list h0.list i)) 24 ∧ Blk wx g11 r.cells 24 ∧ Blk wx g4 (u32V (zeros 8)) 24 ∧ Below w.heap.size w wx) (fun y _ => 8 - (intOf y).toNat)
              case atStart => exact ⟨0, by omega, rfl, by rw [over_zero]; exact KH.out, KV.out, KR.out, hB.out⟩
              case round =>
                clear KV KH KR hB
                obtain ⟨i, hi, rfl, KH, KV, KR, hB⟩ := hrel
                by_cases hlt : i < 8
                · have c0 := KH.cell i
                  have c1 := KV.cell i
                  have f0 := KH.frozen i
                  rw [u32V_get _ _ (by rw [over_len (add8 r h0).list h0.list i rfl hi]; exact hlt), over_getD (add8 r h0).list h0.list i i rfl (Nat.le_refl _) hlt] at c0
                  rw [show r.cells = u32V r.list from rfl, u32V_get _ _ (by exact hlt)] at c1
                  have AD := add8_at r h0 i hlt
                  generalize r.list.getD i 0 = x0 at *
                  generalize h0.list.getD i 0 = x1 at *
                  rw [Int.add_comm x0 x1] at AD
                  replace AD := Lib.hid AD
                  replace KV := Lib.hid KV
                  replace KH := Lib.hid KH
                  replace KR := Lib.hid KR
                  replace hB := Lib.hid hB
                  go_wp2_with fail
                  refine wp_region_qt' 9 (by kernel_rfl) (by kernel_rfl) ?_
                  simp only [List.take_succ_cons, List.take_zero, List.drop_succ_cons, List.drop_zero]
                  repeat (go_big_quiet_step (fail))
                  refine wpQuiet_nil ?_
                  intro _ hw'
                  obtain ⟨nq, rfl⟩ := hw'
                  go_wp2_with fail
                  refine ⟨⟨i + 1, by omega, by simp, ?_, (KV.out.drewN _).other _ _ _ (by omega), (KR.out.drewN _).other _ _ _ (by omega), (below_drewN hB.out _).setCell (by simp) _⟩, by simp [intOf]; omega⟩
                  have hh := (KH.out.drewN nq).set i (.int .u32 ((add8 r h0).list.getD i 0))
                  rw [u32V_set, over_set (add8 r h0).list h0.list i rfl hlt, AD.out] at hh
                  exact hh
                · obtain rfl : i = 8 := by omega
                  rw [show ((8 : Nat) : Int) = 8 from rfl]
                  rw [over_all (add8 r h0).list h0.list 8 (Nat.le_refl 8) (Nat.le_refl 8)] at KH
                  replace KH := Lib.hid (show Blk wr w.heap.size (add8 r h0).cells 24 from KH)
                  replace KR := Lib.hid KR
                  replace hB := Lib.hid hB
                  go_wp2_with (first | ((with_reducible show wpList _ _ _ (⟨_, .load 24 _, _, _, _, none⟩ :: _) _ _); (with_reducible refine wpBlk_load (g := w.heap.size) agg_8 ?_ ?_ KH ?_ ?_); (· exact wanted0 rfl); (· exact ⟨rfl, rfl⟩); (· exact St.cells_size _)) | ((with_reducible show wpList _ _ _ (⟨_, .store 24 _ _, _, _, _, none⟩ :: _) _ _); (with_reducible refine wpBlk_store (g := g4) (cs := (add8 r h0).cells) agg_8 ?_ ?_ KR ?_ ?_ ?_ ?_); (· exact wanted0 rfl); (· exact ⟨rfl, rfl, rfl⟩); (· rw [u32V_size, zeros_len]); (· exact St.cells_size _); (· exact St.cells_one _)))
                  refine bodyPost_ret (v := .agg (add8 r h0).cells) (results_blk agg_8 rfl _ _ g4 _ rfl (KR.out.setRow _) (St.cells_size _)) rfl ⟨rfl, below_setRow hB.out (by omega) _⟩
theorem rblock_any (q : St) (b : List Int) (hl : b.length = 64) (hb : ∀ x ∈ b, 0 ≤ x ∧ x ≤ 255) (w : World) :
    Calls Tryd.prog 20 #[.agg q.cells, .agg (u8V b)] w fun e w' => e = .returned (.agg (blockS q b).cells) ∧ Below w.heap.size w w' :=
  rblock_of q _ b _ hl hb (sched_is b) rfl w
end Go.Proofs.YtalekcpdkfdmaaaDoor
