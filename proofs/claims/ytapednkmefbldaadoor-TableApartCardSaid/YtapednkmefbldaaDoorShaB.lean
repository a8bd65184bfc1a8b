/- sha.Block. -/
import Derived.Test.YtapednkmefbldaaDoorShaW
namespace Go.Proofs.YtapednkmefbldaaDoor
open Go.RowKit

def Roots (w : World) : Prop := ∀ i : Nat, i < 64 → w.cell? ⟨0, i, none⟩ = some (.int .u32 (rootsL.getD i 0))
theorem Roots.below {w w' : World} (h : Roots w) (hb : Below w.heap.size w w') : Roots w' := fun i hi => by
  rw [hb.cell (World.block_lt_of_cell? _ _ (h i hi))]; exact h i hi
theorem Roots.drewN {w : World} (h : Roots w) (n : Nat) : Roots (w.drewN n) := h
theorem Roots.lt {w : World} (h : Roots w) : 0 < w.heap.size := World.block_lt_of_cell? _ _ (h 0 (by omega))
theorem Roots.setRow {w : World} (h : Roots w) (g : Nat) (cs : Array Value) (hg : 0 ≠ g) : Roots (w.setRow g cs) := fun i hi => by
  rw [cell_setRow_other _ _ _ _ hg]; exact h i hi
theorem Roots.setCell {w : World} (h : Roots w) (g j : Nat) (v : Value) (hg : 0 ≠ g) : Roots (w.setCell ⟨g, j, none⟩ v) := fun i hi => by
  rw [World.cell?_of_block (Below.heap_setCell w ⟨g, j, none⟩ v _ hg)]; exact h i hi
theorem St.cells_size (s : St) : s.cells.size = 8 := rfl
theorem St.cells_one (s : St) : s.cells.all (·.oneCell') = true := by simp [St.cells, Value.oneCell']
set_option maxRecDepth 100000 in
set_option maxHeartbeats 800000 in
theorem block_of (h0 r : St) (b sl : List Int) (hl : b.length = 64) (hb : ∀ x ∈ b, 0 ≤ x ∧ x ≤ 255) (hs : IsSched b sl) (hr : rounds64 rootsL sl h0 64 = r) (w : World) (hR : Roots w) :
    Calls Tryd.prog 57 #[.agg h0.cells, .agg (u8V b)] w fun e w' => e = .returned (.agg (add8 r h0).cells) ∧ Below w.heap.size w w' := by
  have HL := Lib.hid hl
  have HB := Lib.hid hb
  have HS := Lib.hid hs
  have HR := Lib.hid hr
  have RT := Lib.hid hR
  have rl := hR.lt
  clear hl hb hs hr hR
  go_enter Tryd.func57, Tryd.ntmps57
  go_wp2_with ((with_reducible show wpList _ _ _ (⟨_, .alloc 112, _, _, _, none⟩ :: _) _ _); (with_reducible refine wpRow_alloc zeroT_8 ?_ ?_ ?_); (· exact wanted0 rfl); (· rfl); refine Marker.mk ?_)
  refine Marker.in ?_
  have KH := Lib.hid (((Blk.new w h0.cells 112).alloc (.cells (u8V b) 87)).alloc (.cells (u32V (zeros 8)) 112))
  have KB := Lib.hid ((Blk.new' (w.alloc (.cells h0.cells 112)) (u8V b) 87 (g := w.heap.size + 1) (by simp)).alloc (.cells (u32V (zeros 8)) 112))
  have KR := Lib.hid (Blk.new' ((w.alloc (.cells h0.cells 112)).alloc (.cells (u8V b) 87)) (u32V (zeros 8)) 112 (g := w.heap.size + 1 + 1) (by simp))
  have BB := Lib.hid (below_alloc3 w (.cells h0.cells 112) (.cells (u8V b) 87) (.cells (u32V (zeros 8)) 112))
  generalize ((w.alloc (.cells h0.cells 112)).alloc (.cells (u8V b) 87)).alloc (.cells (u32V (zeros 8)) 112) = w3 at *
  replace RT := Lib.hid (RT.out.below BB.out)
  go_wp2_with ((with_reducible show wpList _ _ _ (⟨_, .load 87 _, _, _, _, none⟩ :: _) _ _); (with_reducible refine wpBlk_load (g := w.heap.size + 1) agg_b64 ?_ ?_ KB ?_ ?_); (· exact wanted0 rfl); (· exact ⟨rfl, rfl⟩); (· rw [u8V_size, HL.out]))
  ((with_reducible refine (words_of b sl HL.out HB.out HS.out _).mono ?_))
  rintro e w4 ⟨rfl, b4⟩
  replace KH := Lib.hid (KH.out.below b4)
  replace KR := Lib.hid (KR.out.below b4)
  replace RT := Lib.hid (RT.out.below b4)
  replace BB := Lib.hid (bt BB.out b4)
  clear b4 KB
  have l4 := KR.out.lt
  go_wp2_with ((with_reducible show wpList _ _ _ (⟨_, .alloc 126, _, _, _, none⟩ :: _) _ _); (with_reducible refine wpRow_alloc zeroT_64 ?_ ?_ ?_); (· exact wanted0 rfl); (· rfl); refine Marker.mk ?_)
  refine Marker.in ?_
  have bel := below_alloc1 w4 (.cells (u32V (zeros 64)) 126)
  replace KH := Lib.hid (KH.out.below bel)
  replace KR := Lib.hid (KR.out.below bel)
  replace RT := Lib.hid (RT.out.below bel)
  replace BB := Lib.hid (bt BB.out bel)
  have KW := Lib.hid (Blk.new w4 (u32V (zeros 64)) 126)
  clear bel
  generalize w4.alloc (.cells (u32V (zeros 64)) 126) = w5 at *
  go_wp2_with ((with_reducible show wpList _ _ _ (⟨_, .store 126 _ _, _, _, _, none⟩ :: _) _ _); (with_reducible refine wpBlk_store (g := w4.heap.size) (cs := u32V sl) agg_64 ?_ ?_ KW ?_ ?_ ?_ ?_); (· exact wanted0 rfl); (· exact ⟨rfl, rfl, rfl⟩); (· rw [u32V_size, zeros_len]); (· rw [u32V_size, HS.out.1]); (· exact u32V_one _); refine Marker.mk ?_)
  refine Marker.in ?_
  replace KH := Lib.hid (KH.out.setRow_other w4.heap.size (u32V sl) (by omega))
  replace KR := Lib.hid (KR.out.setRow_other w4.heap.size (u32V sl) (by omega))
  replace RT := Lib.hid (RT.out.setRow w4.heap.size (u32V sl) (by omega))
  replace KW := Lib.hid (KW.out.setRow (u32V sl))
  replace BB := Lib.hid (below_setRow (g := w4.heap.size) BB.out (by omega) (u32V sl))
  generalize w5.setRow w4.heap.size (u32V sl) = w6 at *
  go_wp2_with (first | ((with_reducible show wpList _ _ _ (⟨_, .load 112 _, _, _, _, none⟩ :: _) _ _); (with_reducible refine wpBlk_load (g := w.heap.size) agg_8 ?_ ?_ KH ?_ ?_); (· exact wanted0 rfl); (· exact ⟨rfl, rfl⟩); (· exact St.cells_size _)) | ((with_reducible show wpList _ _ _ (⟨_, .alloc 112, _, _, _, none⟩ :: _) _ _); (with_reducible refine wpRow_alloc zeroT_8 ?_ ?_ ?_); (· exact wanted0 rfl); (· rfl); refine Marker.mk ?_))
  refine Marker.in ?_
  have l6 := KW.out.lt
  have bel := below_alloc1 w6 (.cells (u32V (zeros 8)) 112)
  replace KH := Lib.hid (KH.out.below bel)
  replace KR := Lib.hid (KR.out.below bel)
  replace KW := Lib.hid (KW.out.below bel)
  replace RT := Lib.hid (RT.out.below bel)
  replace BB := Lib.hid (bt BB.out bel)
  have KN := Lib.hid (Blk.new w6 (u32V (zeros 8)) 112)
  clear bel
  generalize w6.alloc (.cells (u32V (zeros 8)) 112) = w7 at *
  go_wp2_with ((with_reducible show wpList _ _ _ (⟨_, .store 112 _ _, _, _, _, none⟩ :: _) _ _); (with_reducible refine wpBlk_store (g := w6.heap.size) (cs := h0.cells) agg_8 ?_ ?_ KN ?_ ?_ ?_ ?_); (· exact wanted0 rfl); (· exact ⟨rfl, rfl, rfl⟩); (· rw [u32V_size, zeros_len]); (· exact St.cells_size _); (· exact St.cells_one _); refine Marker.mk ?_)
  refine Marker.in ?_
  replace KH := Lib.hid (KH.out.setRow_other w6.heap.size h0.cells (by omega))
  replace KR := Lib.hid (KR.out.setRow_other w6.heap.size h0.cells (by omega))
  replace KW := Lib.hid (KW.out.setRow_other w6.heap.size h0.cells (by omega))
  replace RT := Lib.hid (RT.out.setRow w6.heap.size h0.cells (by omega))
  replace KN := Lib.hid (KN.out.setRow h0.cells)
  replace BB := Lib.hid (below_setRow (g := w6.heap.size) BB.out (by omega) h0.cells)
  generalize w7.setRow w6.heap.size h0.cells = w8 at *
  go_wp2_with fail
  go_loopw [17] (fun y wr => ∃ i : Nat, i ≤ 64 ∧ y = .int .i64 i ∧ Blk wr w6.heap.size (rounds64 rootsL sl h0 i).cells 112 ∧ Blk wr w4.heap.size (u32V sl) 126 ∧ Blk wr w.heap.size h0.cells 112 ∧ Blk wr (w.heap.size + 1 + 1) (u32V (zeros 8)) 112 ∧ Roots wr ∧ Below w.heap.size w wr) (fun y _ => 64 - (intOf y).toNat)
  case atStart => exact ⟨0, by omega, rfl, KN.out, KW.out, KH.out, KR.out, RT.out, BB.out⟩
  case round =>
    clear KN KW KH KR RT BB
    obtain ⟨i, hi, rfl, KN, KW, KH, KR, RT, BB⟩ := hrel
    by_cases hlt : i < 64
    · have STEP : rounds64 rootsL sl h0 (i + 1) = round1 (rootsL.getD i 0) (sl.getD i 0) (rounds64 rootsL sl h0 i) := rfl
      have cr := RT i hlt
      have cw := KW.cell i
      rw [u32V_get _ _ (by rw [HS.out.1]; omega)] at cw
      generalize hq : rounds64 rootsL sl h0 i = q at *
      generalize rootsL.getD i 0 = k at *
      generalize sl.getD i 0 = x at *
      replace STEP := Lib.hid STEP
      obtain ⟨qa, qb, qc, qd, qe, qf, qg, qh⟩ := q
      clear hq
      have cn := fun j => KN.cell j
      simp only [St.cells] at cn
      replace KN := Lib.hid KN
      replace KW := Lib.hid KW
      replace KH := Lib.hid KH
      replace KR := Lib.hid KR
      replace RT := Lib.hid RT
      replace BB := Lib.hid BB
      go_wp2_with fail
      go_quiet (fail)
      revert nq; intro n1
      go_wp2_with fail
      go_quiet (((with_reducible refine (right_all _ _ _ ?_).mono ?_); (· decide); (rintro e w2 ⟨rfl, rfl⟩; exact ⟨rfl, _, rfl⟩)))
      revert nq; intro n2
      go_wp2_with fail
      go_quiet (((with_reducible refine (right_all _ _ _ ?_).mono ?_); (· decide); (rintro e w2 ⟨rfl, rfl⟩; exact ⟨rfl, _, rfl⟩)))
      revert nq; intro n3
      have KN2 := Lib.hid (KN.out.drewN (n1 + n2 + n3))
      go_wp2_with ((with_reducible show wpList _ _ _ (⟨_, .store 112 _ _, _, _, _, none⟩ :: _) _ _); (with_reducible refine wpBlk_store (g := w6.heap.size) (cs := (round1 k x ⟨qa, qb, qc, qd, qe, qf, qg, qh⟩).cells) agg_8 ?_ ?_ KN2 ?_ ?_ ?_ ?_); (· exact wanted0 rfl); (· exact ⟨rfl, rfl, rfl⟩); (· exact St.cells_size _); (· exact St.cells_size _); (· exact St.cells_one _); refine Marker.mk ?_)
      refine Marker.in ?_
      go_wp2_with fail
      rename_i hsg
      refine ⟨⟨i + 1, by omega, by simp, ?_, (KW.out.drewN _).setRow_other _ _ (by omega), (KH.out.drewN _).setRow_other _ _ (by omega), (KR.out.drewN _).setRow_other _ _ (by omega), (RT.out.drewN _).setRow _ _ (by omega), below_setRow (below_drewN BB.out _) (by omega) _⟩, by simp [intOf]; omega⟩
      rw [STEP.out]
      exact KN2.out.setRow _
    · obtain rfl : i = 64 := by omega
      rw [show ((64 : Nat) : Int) = 64 from rfl]
      rw [HR.out] at KN
      replace KN := Lib.hid KN
      replace KW := Lib.hid KW
      replace KH := Lib.hid KH
      replace KR := Lib.hid KR
      replace RT := Lib.hid RT
      replace BB := Lib.hid BB
      go_wp2_with fail
      go_loopw [100] (fun y wx => ∃ i : Nat, i ≤ 8 ∧ y = .int .i64 i ∧ Blk wx w6.heap.size (u32V (over (add8 r h0).list r.list i)) 112 ∧ Blk wx w.heap.size h0.cells 112 ∧ Blk wx (w.heap.size + 1 + 1) (u32V (zeros 8)) 112 ∧ Below w.heap.size w wx) (fun y _ => 8 - (intOf y).toNat)
      case atStart => exact ⟨0, by omega, rfl, by rw [over_zero]; exact KN.out, KH.out, KR.out, BB.out⟩
      case round =>
        clear KN KW KH KR RT BB
        obtain ⟨i, hi, rfl, KN, KH, KR, BB⟩ := hrel
        by_cases hlt : i < 8
        · have c0 := KN.cell i
          have c1 := KH.cell i
          have f0 := KN.frozen i
          rw [u32V_get _ _ (by rw [over_len (add8 r h0).list r.list i rfl hi]; exact hlt), over_getD (add8 r h0).list r.list i i rfl (Nat.le_refl _) hlt] at c0
          rw [show h0.cells = u32V h0.list from rfl, u32V_get _ _ (by exact hlt)] at c1
          have AD := add8_at r h0 i hlt
          generalize r.list.getD i 0 = x0 at *
          generalize h0.list.getD i 0 = x1 at *
          replace AD := Lib.hid AD
          replace KN := Lib.hid KN
          replace KH := Lib.hid KH
          replace KR := Lib.hid KR
          replace BB := Lib.hid BB
          go_wp2_with fail
          refine wp_region_qt' 8 (by kernel_rfl) (by kernel_rfl) ?_
          simp only [List.take_succ_cons, List.take_zero, List.drop_succ_cons, List.drop_zero]
          repeat (go_big_quiet_step (fail))
          refine wpQuiet_nil ?_
          intro _ hw'
          obtain ⟨nq, rfl⟩ := hw'
          go_wp2_with fail
          refine ⟨⟨i + 1, by omega, by simp, ?_, (KH.out.drewN _).other _ _ _ (by omega), (KR.out.drewN _).other _ _ _ (by omega), (below_drewN BB.out _).setCell (by simp; omega) _⟩, by simp [intOf]; omega⟩
          have hh := (KN.out.drewN nq).set i (.int .u32 ((add8 r h0).list.getD i 0))
          rw [u32V_set, over_set (add8 r h0).list r.list i rfl hlt, AD.out] at hh
          exact hh
        · obtain rfl : i = 8 := by omega
          rw [show ((8 : Nat) : Int) = 8 from rfl]
          rw [over_all (add8 r h0).list r.list 8 (Nat.le_refl 8) (Nat.le_refl 8)] at KN
          replace KN := Lib.hid (show Blk wr w6.heap.size (add8 r h0).cells 112 from KN)
          replace KR := Lib.hid KR
          replace BB := Lib.hid BB
          go_wp2_with (first | ((with_reducible show wpList _ _ _ (⟨_, .load 112 _, _, _, _, none⟩ :: _) _ _); (with_reducible refine wpBlk_load (g := w6.heap.size) agg_8 ?_ ?_ KN ?_ ?_); (· exact wanted0 rfl); (· exact ⟨rfl, rfl⟩); (· exact St.cells_size _)) | ((with_reducible show wpList _ _ _ (⟨_, .store 112 _ _, _, _, _, none⟩ :: _) _ _); (with_reducible refine wpBlk_store (g := w.heap.size + 1 + 1) (cs := (add8 r h0).cells) agg_8 ?_ ?_ KR ?_ ?_ ?_ ?_); (· exact wanted0 rfl); (· exact ⟨rfl, rfl, rfl⟩); (· rw [u32V_size, zeros_len]); (· exact St.cells_size _); (· exact St.cells_one _)))
          refine bodyPost_ret (v := .agg (add8 r h0).cells) (results_blk agg_8 rfl _ _ (w.heap.size + 1 + 1) _ rfl (KR.out.setRow _) (St.cells_size _)) rfl ⟨rfl, below_setRow BB.out (by omega) _⟩
end Go.Proofs.YtapednkmefbldaaDoor
