/- The walk of ChainBytes. -/
import Derived.Test.YtalekcpdkfdmaaaDoorChainL
import Derived.Test.YtalekcpdkfdmaaaDoorShaC
namespace Go.Proofs.YtalekcpdkfdmaaaDoor
open Go.RowKit

set_option maxRecDepth 100000 in
set_option maxHeartbeats 2400000 in
theorem walk_ChainBytes (v0 v1 v2 : Value) (w : World) (hR : Roots w) (q0 : ∃ b0, Value.okWide Tryd.prog w .any b0 48 v0) (q1 : ∃ b0, Value.okWide Tryd.prog w .any b0 48 v1) (q2 : ∃ n : Int, v2 = .int .u8 n ∧ 0 ≤ n ∧ n ≤ 255) :
    Calls Tryd.prog 11 #[v0, v1, v2] w fun e w' => e = .returned (.bool true) ∧ Below w.heap.size w w' := by
  obtain ⟨b, q0⟩ := q0
  obtain ⟨d, q1⟩ := q1
  obtain ⟨a0, a1, a2, a3, a4, a5, rfl, -⟩ := flat_rec _ _ _ q0
  obtain ⟨b0, b1, b2, b3, b4, b5, rfl, -⟩ := flat_rec _ _ _ q1
  obtain ⟨n, rfl, n0, n1⟩ := q2
  clear q0 q1 hR
  have SA := fun W : World => small_any a0 a1 a2 a3 a4 a5 W
  have SB := fun W : World => small_any b0 b1 b2 b3 b4 b5 W
  obtain ⟨x0, hx0⟩ : ∃ x, a0 % 256 = x := ⟨_, rfl⟩
  obtain ⟨y0, hy0⟩ : ∃ x, b0 % 256 = x := ⟨_, rfl⟩
  have x0l : 0 ≤ x0 ∧ x0 < 256 := by omega
  have y0l : 0 ≤ y0 ∧ y0 < 256 := by omega
  obtain ⟨x1, hx1⟩ : ∃ x, a1 % 256 = x := ⟨_, rfl⟩
  obtain ⟨y1, hy1⟩ : ∃ x, b1 % 256 = x := ⟨_, rfl⟩
  have x1l : 0 ≤ x1 ∧ x1 < 256 := by omega
  have y1l : 0 ≤ y1 ∧ y1 < 256 := by omega
  obtain ⟨x2, hx2⟩ : ∃ x, a2 % 4294967296 = x := ⟨_, rfl⟩
  obtain ⟨y2, hy2⟩ : ∃ x, b2 % 4294967296 = x := ⟨_, rfl⟩
  have x2l : 0 ≤ x2 ∧ x2 < 4294967296 := by omega
  have y2l : 0 ≤ y2 ∧ y2 < 4294967296 := by omega
  obtain ⟨x3, hx3⟩ : ∃ x, a3 % 65536 = x := ⟨_, rfl⟩
  obtain ⟨y3, hy3⟩ : ∃ x, b3 % 65536 = x := ⟨_, rfl⟩
  have x3l : 0 ≤ x3 ∧ x3 < 65536 := by omega
  have y3l : 0 ≤ y3 ∧ y3 < 65536 := by omega
  obtain ⟨x4, hx4⟩ : ∃ x, a4 % 256 = x := ⟨_, rfl⟩
  obtain ⟨y4, hy4⟩ : ∃ x, b4 % 256 = x := ⟨_, rfl⟩
  have x4l : 0 ≤ x4 ∧ x4 < 256 := by omega
  have y4l : 0 ≤ y4 ∧ y4 < 256 := by omega
  obtain ⟨x5, hx5⟩ : ∃ x, a5 % 256 = x := ⟨_, rfl⟩
  obtain ⟨y5, hy5⟩ : ∃ x, b5 % 256 = x := ⟨_, rfl⟩
  have x5l : 0 ≤ x5 ∧ x5 < 256 := by omega
  have y5l : 0 ≤ y5 ∧ y5 < 256 := by omega
  simp only [hx0, hy0, hx1, hy1, hx2, hy2, hx3, hy3, hx4, hy4, hx5, hy5] at SA SB
  clear hx0 hy0 hx1 hy1 hx2 hy2 hx3 hy3 hx4 hy4 hx5 hy5
  replace SA := Lib.hid SA
  replace SB := Lib.hid SB
  go_enter Tryd.func11, Tryd.ntmps11
  go_wp2_with fail
  have K3 := Lib.hid ((Blk.new w #[.int .i64 a0, .int .i64 a1, .int .i64 a2, .int .i64 a3, .int .i64 a4, .int .i64 a5] 48).alloc (.cells #[.int .i64 b0, .int .i64 b1, .int .i64 b2, .int .i64 b3, .int .i64 b4, .int .i64 b5] 48))
  have K4 := Lib.hid (Blk.new' (w.alloc (.cells #[.int .i64 a0, .int .i64 a1, .int .i64 a2, .int .i64 a3, .int .i64 a4, .int .i64 a5] 48)) #[.int .i64 b0, .int .i64 b1, .int .i64 b2, .int .i64 b3, .int .i64 b4, .int .i64 b5] 48 (g := w.heap.size + 1) (by simp))
  have BB := Lib.hid (below_alloc2 w (.cells #[.int .i64 a0, .int .i64 a1, .int .i64 a2, .int .i64 a3, .int .i64 a4, .int .i64 a5] 48) (.cells #[.int .i64 b0, .int .i64 b1, .int .i64 b2, .int .i64 b3, .int .i64 b4, .int .i64 b5] 48))
  generalize (w.alloc (.cells #[.int .i64 a0, .int .i64 a1, .int .i64 a2, .int .i64 a3, .int .i64 a4, .int .i64 a5] 48)).alloc (.cells #[.int .i64 b0, .int .i64 b1, .int .i64 b2, .int .i64 b3, .int .i64 b4, .int .i64 b5] 48) = w1 at *
  have g4e : w.heap.size ≤ w.heap.size + 1 := Nat.le_succ _
  generalize w.heap.size + 1 = g4 at *
  ((with_reducible refine (shown23 _).mono ?_))
  rintro e w2 ⟨rfl, b2⟩
  replace K3 := Lib.hid (K3.out.below b2)
  replace K4 := Lib.hid (K4.out.below b2)
  replace BB := Lib.hid (bt BB.out b2)
  clear b2
  go_wp2_with ((with_reducible show wpList _ _ _ (⟨_, .load 48 _, _, _, _, none⟩ :: _) _ _); (with_reducible refine wpBlk_load (g := w.heap.size) agg_rec ?_ ?_ K3 ?_ ?_); (· exact wanted0 rfl); (· exact ⟨rfl, rfl⟩); (· rfl))
  ((with_reducible refine (SA.out _).mono ?_))
  rintro e w3 ⟨rfl, b3⟩
  replace K3 := Lib.hid (K3.out.below b3)
  replace K4 := Lib.hid (K4.out.below b3)
  replace BB := Lib.hid (bt BB.out b3)
  clear b3 SA
  have l4 := K4.out.lt
  go_wp2_with ((with_reducible show wpList _ _ _ (⟨_, .alloc 48, _, _, _, none⟩ :: _) _ _); (with_reducible refine wpRow_alloc zeroT_rec ?_ ?_ ?_); (· exact wanted0 rfl); (· rfl); refine Marker.mk ?_)
  refine Marker.in ?_
  have bel := below_alloc1 w3 (.cells (i64V (zeros 6)) 48)
  replace K3 := Lib.hid (K3.out.below bel)
  replace K4 := Lib.hid (K4.out.below bel)
  replace BB := Lib.hid (bt BB.out bel)
  have K8 := Lib.hid (Blk.new w3 (i64V (zeros 6)) 48)
  clear bel
  generalize w3.alloc (.cells (i64V (zeros 6)) 48) = w4 at *
  generalize w3.heap.size = g8 at *
  go_wp2_with ((with_reducible show wpList _ _ _ (⟨_, .store 48 _ _, _, _, _, none⟩ :: _) _ _); (with_reducible refine wpBlk_store (g := g8) (cs := #[.int .i64 x0, .int .i64 x1, .int .i64 x2, .int .i64 x3, .int .i64 x4, .int .i64 x5]) agg_rec ?_ ?_ K8 ?_ ?_ ?_ ?_); (· exact wanted0 rfl); (· exact ⟨rfl, rfl, rfl⟩); (· rfl); (· rfl); (· simp [Value.oneCell']); refine Marker.mk ?_)
  refine Marker.in ?_
  replace K3 := Lib.hid (K3.out.setRow_other g8 #[.int .i64 x0, .int .i64 x1, .int .i64 x2, .int .i64 x3, .int .i64 x4, .int .i64 x5] (by omega))
  replace K4 := Lib.hid (K4.out.setRow_other g8 #[.int .i64 x0, .int .i64 x1, .int .i64 x2, .int .i64 x3, .int .i64 x4, .int .i64 x5] (by omega))
  replace K8 := Lib.hid (K8.out.setRow #[.int .i64 x0, .int .i64 x1, .int .i64 x2, .int .i64 x3, .int .i64 x4, .int .i64 x5])
  replace BB := Lib.hid (below_setRow (g := g8) BB.out (by omega) #[.int .i64 x0, .int .i64 x1, .int .i64 x2, .int .i64 x3, .int .i64 x4, .int .i64 x5])
  generalize w4.setRow g8 #[.int .i64 x0, .int .i64 x1, .int .i64 x2, .int .i64 x3, .int .i64 x4, .int .i64 x5] = w5 at *
  clear K3
  go_wp2_with ((with_reducible show wpList _ _ _ (⟨_, .load 48 _, _, _, _, none⟩ :: _) _ _); (with_reducible refine wpBlk_load (g := g4) agg_rec ?_ ?_ K4 ?_ ?_); (· exact wanted0 rfl); (· exact ⟨rfl, rfl⟩); (· rfl))
  ((with_reducible refine (SB.out _).mono ?_))
  rintro e w6 ⟨rfl, b6⟩
  replace K4 := Lib.hid (K4.out.below b6)
  replace K8 := Lib.hid (K8.out.below b6)
  replace BB := Lib.hid (bt BB.out b6)
  clear b6 SB K4
  have l8 := K8.out.lt
  go_wp2_with ((with_reducible show wpList _ _ _ (⟨_, .alloc 48, _, _, _, none⟩ :: _) _ _); (with_reducible refine wpRow_alloc zeroT_rec ?_ ?_ ?_); (· exact wanted0 rfl); (· rfl); refine Marker.mk ?_)
  refine Marker.in ?_
  have bel := below_alloc1 w6 (.cells (i64V (zeros 6)) 48)
  replace K8 := Lib.hid (K8.out.below bel)
  replace BB := Lib.hid (bt BB.out bel)
  have K9 := Lib.hid (Blk.new w6 (i64V (zeros 6)) 48)
  clear bel
  generalize w6.alloc (.cells (i64V (zeros 6)) 48) = w7 at *
  generalize w6.heap.size = g9 at *
  go_wp2_with ((with_reducible show wpList _ _ _ (⟨_, .store 48 _ _, _, _, _, none⟩ :: _) _ _); (with_reducible refine wpBlk_store (g := g9) (cs := #[.int .i64 y0, .int .i64 y1, .int .i64 y2, .int .i64 y3, .int .i64 y4, .int .i64 y5]) agg_rec ?_ ?_ K9 ?_ ?_ ?_ ?_); (· exact wanted0 rfl); (· exact ⟨rfl, rfl, rfl⟩); (· rfl); (· rfl); (· simp [Value.oneCell']); refine Marker.mk ?_)
  refine Marker.in ?_
  replace K8 := Lib.hid (K8.out.setRow_other g9 #[.int .i64 y0, .int .i64 y1, .int .i64 y2, .int .i64 y3, .int .i64 y4, .int .i64 y5] (by omega))
  replace K9 := Lib.hid (K9.out.setRow #[.int .i64 y0, .int .i64 y1, .int .i64 y2, .int .i64 y3, .int .i64 y4, .int .i64 y5])
  replace BB := Lib.hid (below_setRow (g := g9) BB.out (by omega) #[.int .i64 y0, .int .i64 y1, .int .i64 y2, .int .i64 y3, .int .i64 y4, .int .i64 y5])
  generalize w7.setRow g9 #[.int .i64 y0, .int .i64 y1, .int .i64 y2, .int .i64 y3, .int .i64 y4, .int .i64 y5] = w8 at *
  have l9 := K9.out.lt
  have m1 : IntKind.i64.wrap (256 * n) = 256 * n := IntWalk.i64_in _ ⟨by omega, by omega⟩
  have m2 : IntKind.i64.wrap (65536 * n) = 65536 * n := IntWalk.i64_in _ ⟨by omega, by omega⟩
  have m3 : IntKind.i64.wrap (n * 4294967296) = n * 4294967296 := IntWalk.i64_in _ ⟨by omega, by omega⟩
  have m4 : IntKind.i64.wrap (x0 + 256 * n) = x0 + 256 * n := IntWalk.i64_in _ ⟨by omega, by omega⟩
  have m5 : IntKind.i64.wrap (x1 - 256 * n) = x1 - 256 * n := IntWalk.i64_in _ ⟨by omega, by omega⟩
  have m6 : IntKind.i64.wrap (x2 + n * 4294967296) = x2 + n * 4294967296 := IntWalk.i64_in _ ⟨by omega, by omega⟩
  have m7 : IntKind.i64.wrap (x3 + 65536 * n) = x3 + 65536 * n := IntWalk.i64_in _ ⟨by omega, by omega⟩
  have m8 : IntKind.i64.wrap (x5 + 256 * n) = x5 + 256 * n := IntWalk.i64_in _ ⟨by omega, by omega⟩
  have ck := (blk_cells K8.out).1
  go_wp2_with ((with_reducible show wpList _ _ _ (⟨_, .alloc 48, _, _, _, none⟩ :: _) _ _); (with_reducible refine wpRow_alloc zeroT_rec ?_ ?_ ?_); (· exact wanted0 rfl); (· rfl); refine Marker.mk ?_)
  refine Marker.in ?_
  clear ck m1 m2 m3 m4 m5 m6 m7 m8
  have bel := below_alloc1 w8 (.cells (i64V (zeros 6)) 48)
  replace K8 := Lib.hid (K8.out.below bel)
  replace K9 := Lib.hid (K9.out.below bel)
  replace BB := Lib.hid (bt BB.out bel)
  have K10 := Lib.hid (Blk.new w8 (i64V (zeros 6)) 48)
  clear bel
  generalize w8.alloc (.cells (i64V (zeros 6)) 48) = w9 at *
  generalize w8.heap.size = g10 at *
  go_wp2_with ((with_reducible show wpList _ _ _ (⟨_, .store 48 _ _, _, _, _, none⟩ :: _) _ _); (with_reducible refine wpBlk_store (g := g10) (cs := #[.int .i64 (x0 + 256 * n), .int .i64 (x1 - 256 * n), .int .i64 (x2 + n * 4294967296), .int .i64 (x3 + 65536 * n), .int .i64 x4, .int .i64 (x5 + 256 * n)]) agg_rec ?_ ?_ K10 ?_ ?_ ?_ ?_); (· exact wanted0 rfl); (· exact ⟨rfl, rfl, rfl⟩); (· rfl); (· rfl); (· simp [Value.oneCell']); refine Marker.mk ?_)
  refine Marker.in ?_
  replace K8 := Lib.hid (K8.out.setRow_other g10 #[.int .i64 (x0 + 256 * n), .int .i64 (x1 - 256 * n), .int .i64 (x2 + n * 4294967296), .int .i64 (x3 + 65536 * n), .int .i64 x4, .int .i64 (x5 + 256 * n)] (by omega))
  replace K9 := Lib.hid (K9.out.setRow_other g10 #[.int .i64 (x0 + 256 * n), .int .i64 (x1 - 256 * n), .int .i64 (x2 + n * 4294967296), .int .i64 (x3 + 65536 * n), .int .i64 x4, .int .i64 (x5 + 256 * n)] (by omega))
  replace K10 := Lib.hid (K10.out.setRow #[.int .i64 (x0 + 256 * n), .int .i64 (x1 - 256 * n), .int .i64 (x2 + n * 4294967296), .int .i64 (x3 + 65536 * n), .int .i64 x4, .int .i64 (x5 + 256 * n)])
  replace BB := Lib.hid (below_setRow (g := g10) BB.out (by omega) #[.int .i64 (x0 + 256 * n), .int .i64 (x1 - 256 * n), .int .i64 (x2 + n * 4294967296), .int .i64 (x3 + 65536 * n), .int .i64 x4, .int .i64 (x5 + 256 * n)])
  generalize w9.setRow g10 #[.int .i64 (x0 + 256 * n), .int .i64 (x1 - 256 * n), .int .i64 (x2 + n * 4294967296), .int .i64 (x3 + 65536 * n), .int .i64 x4, .int .i64 (x5 + 256 * n)] = w10 at *
  have CX := fun W : World => rec_any x0 x1 x2 x3 x4 x5 W
  have CY := fun W : World => rec_any y0 y1 y2 y3 y4 y5 W
  have CZ := fun W : World => rec_any (x0 + 256 * n) (x1 - 256 * n) (x2 + n * 4294967296) (x3 + 65536 * n) x4 (x5 + 256 * n) W
  have hz : recB (x0 + 256 * n) (x1 - 256 * n) (x2 + n * 4294967296) (x3 + 65536 * n) x4 (x5 + 256 * n) = recB x0 x1 x2 x3 x4 x5 := (recB_inj _ _ _ _ _ _ _ _ _ _ _ _).2 ⟨by omega, by omega, by omega, by omega, rfl, by omega⟩
  rw [hz] at CZ
  clear hz
  have LX := recB_len x0 x1 x2 x3 x4 x5
  have LY := recB_len y0 y1 y2 y3 y4 y5
  have EQ1 := eql_b10 _ _ LX LY
  have EQ3 := eql_b10 _ _ LX LX
  have EQ2 := eql_rec x0 x1 x2 x3 x4 x5 y0 y1 y2 y3 y4 y5
  have hD : decide (recB x0 x1 x2 x3 x4 x5 = recB y0 y1 y2 y3 y4 y5) = decide (x0 = y0 ∧ x1 = y1 ∧ x2 = y2 ∧ x3 = y3 ∧ x4 = y4 ∧ x5 = y5) := by
    apply decide_eq_decide.2
    rw [recB_inj]
    omega
  rw [hD] at EQ1
  rw [decide_eq_true rfl] at EQ3
  clear hD LX LY
  generalize decide (x0 = y0 ∧ x1 = y1 ∧ x2 = y2 ∧ x3 = y3 ∧ x4 = y4 ∧ x5 = y5) = D at *
  generalize recB x0 x1 x2 x3 x4 x5 = rx at *
  generalize recB y0 y1 y2 y3 y4 y5 = ry at *
  have EQB : ∀ W, (binOp .eql 4 (.bool D) (.bool D)).run Tryd.prog W = .ok (.bool true) W := fun W => by cases D <;> simp [go_sem]
  replace CX := Lib.hid CX
  replace CY := Lib.hid CY
  replace CZ := Lib.hid CZ
  go_wp2_with fail
  have c8 := exw_cell K8.out
  have c9 := exw_cell K9.out
  have c10 := exw_cell K10.out
  clear x0l y0l x1l y1l x2l y2l x3l y3l x4l y4l x5l y5l n0 n1
  refine wp_region_ext (by kernel_rfl) (by kernel_rfl) ?_
  repeat (first
      | go_big_quiet_skip
      | (go_big_quiet_want
         first
           | (go_big_quiet_op
              first
                | go_big_quiet_on
                | go_big_quiet_call (((first | (with_reducible exact ext_of (CX.out _)) | (with_reducible exact ext_of (CY.out _)) | (with_reducible exact ext_of (CZ.out _))))))))
  refine wpQuiet_nil ?_
  intro _ hw'
  obtain ⟨y, rfl⟩ := hw'
  replace BB := Lib.hid (bt BB.out (exw_bel y))
  generalize exw w10 y = w11 at *
  go_wp2_with fail
  go_ret
  exact ⟨rfl, BB.out⟩
end Go.Proofs.YtalekcpdkfdmaaaDoor
