/- chain.Bytes. -/
import Derived.Test.YtalekcpdkfdmaaaDoorEqB
import Derived.Test.YtalekcpdkfdmaaaDoorConv
namespace Go.Proofs.YtalekcpdkfdmaaaDoor
open Go.RowKit

def i64V (l : List Int) : Array Value := (l.map (Value.int .i64)).toArray
theorem i64V_one (l : List Int) : (i64V l).all (·.oneCell') = true := by
  simp [i64V, Value.oneCell']
theorem agg_b10 : AggT Tryd.prog 44 10 := ⟨⟨_, Tryd.underlying44, rfl⟩, by kernel_rfl⟩
theorem agg_fld : AggT Tryd.prog 63 2 := ⟨⟨_, Tryd.underlying63, rfl⟩, by kernel_rfl⟩
theorem agg_six : AggT Tryd.prog 64 12 := ⟨⟨_, Tryd.underlying64, rfl⟩, by kernel_rfl⟩
theorem agg_rec : AggT Tryd.prog 48 6 := ⟨⟨_, Tryd.underlying48, rfl⟩, by kernel_rfl⟩
theorem zeroT_b10 : ZeroT Tryd.prog 44 (u8V (zeros 10)) := by
  intro ev o w ho
  unfold execOp
  simp only [ho]
  simp [go_sem]
  exact congrArg (fun c => w.alloc (.cells c 44)) (by kernel_rfl)
theorem zeroT_fld : ZeroT Tryd.prog 63 (i64V (zeros 2)) := by
  intro ev o w ho
  unfold execOp
  simp only [ho]
  simp [go_sem]
  exact congrArg (fun c => w.alloc (.cells c 63)) (by kernel_rfl)
theorem zeroT_six : ZeroT Tryd.prog 64 (i64V (zeros 12)) := by
  intro ev o w ho
  unfold execOp
  simp only [ho]
  simp [go_sem]
  exact congrArg (fun c => w.alloc (.cells c 64)) (by kernel_rfl)
theorem zeroT_rec : ZeroT Tryd.prog 48 (i64V (zeros 6)) := by
  intro ev o w ho
  unfold execOp
  simp only [ho]
  simp [go_sem]
  exact congrArg (fun c => w.alloc (.cells c 48)) (by kernel_rfl)

theorem info_fld : ∃ i, Tryd.prog.info? 63 = some i ∧ i.size = 2 := by
  have h : (Tryd.prog.info? 63).map (·.size) = some 2 := by kernel_rfl
  cases hi : Tryd.prog.info? 63 with
  | none => rw [hi] at h; cases h
  | some i => rw [hi] at h; exact ⟨i, rfl, by simpa using h⟩
theorem index_six (cs : Array Value) (i : Nat) (h : i < 6) (W : World) : (Instr.index 64 (.agg cs) (.int .i64 (i : Int))).run Tryd.prog W = .ok (.agg (cs.extract (i * 2) (i * 2 + 2))) W := by
  obtain ⟨i0, hi, h1⟩ := info_fld
  unfold Instr.index
  have c1 : (0 : Int) ≤ (i : Int) ∧ (i : Int) < (6 : Int) := by omega
  simp [asIntOf, run_underlying Tryd.underlying64, c1, sizeOf, typeInfo, hi, h1, Go.part, isAgg, run_underlying Tryd.underlying63]
  omega
/-- a record's bytes -/
def recB (k s q e c h : Int) : List Int := be (k % 256) 1 ++ be (s % 256) 1 ++ be (q % 4294967296) 4 ++ be (e % 65536) 2 ++ be (c % 256) 1 ++ be (h % 256) 1
theorem recB_len (k s q e c h : Int) : (recB k s q e c h).length = 10 := by simp [recB, be_len]
theorem recB_bytes (k s q e c h : Int) : ∀ x ∈ recB k s q e c h, 0 ≤ x ∧ x ≤ 255 := by
  intro x hx
  simp only [recB, List.mem_append] at hx
  rcases hx with ((((h | h) | h) | h) | h) | h <;> exact be_bytes _ _ x h
/-- what a number counts, masked -/
theorem mask_any (n : Int) (k : Nat) (m : Int) (hk : k ≤ 63) (hm : IntKind.u64.wrap (IntKind.u64.wrap (2 ^ k) - 1) = m) (hd : (2 : Int) ^ k ∣ 18446744073709551616) : bits .and .u64 (IntKind.u64.wrap n) m = n % 2 ^ k := by
  have e : IntKind.u64.wrap n = n % 18446744073709551616 := by unfold IntKind.wrap; rfl
  rw [e, ← hm, u64_mask k hk _ (by omega) (by omega)]
  exact Int.emod_emod_of_dvd n hd
theorem mask8 (n : Int) : bits .and .u64 (IntKind.u64.wrap n) 255 = n % 256 := mask_any n 8 255 (by omega) (by decide) (by decide)
theorem mask16 (n : Int) : bits .and .u64 (IntKind.u64.wrap n) 65535 = n % 65536 := mask_any n 16 65535 (by omega) (by decide) (by decide)
theorem mask32 (n : Int) : bits .and .u64 (IntKind.u64.wrap n) 4294967295 = n % 4294967296 := mask_any n 32 4294967295 (by omega) (by decide) (by decide)
theorem putAt_pre (p y : List Int) (n at_ : Nat) (hp : p.length = at_) : putAt (p ++ zeros n) at_ y = (p ++ y) ++ zeros (n - y.length) := by
  subst hp
  unfold putAt zeros
  simp [List.drop_append]
set_option maxRecDepth 100000 in
set_option maxHeartbeats 800000 in
theorem rec_any (k s q e c h : Int) (w : World) :
    Calls Tryd.prog 33 #[.agg #[.int .i64 k, .int .i64 s, .int .i64 q, .int .i64 e, .int .i64 c, .int .i64 h]] w fun e' w' => e' = .returned (.agg (u8V (recB k s q e c h))) ∧ Below w.heap.size w w' := by
  have BB := Lib.hid (Below.refl w.heap.size w)
  go_enter Tryd.func33, Tryd.ntmps33
  go_wp2_with ((with_reducible show wpList _ _ _ (⟨_, .alloc 44, _, _, _, none⟩ :: _) _ _); (with_reducible refine wpRow_alloc zeroT_b10 ?_ ?_ ?_); (· exact wanted0 rfl); (· rfl); refine Marker.mk ?_)
  refine Marker.in ?_
  have KR := Lib.hid ((Blk.new w #[.int .i64 k, .int .i64 s, .int .i64 q, .int .i64 e, .int .i64 c, .int .i64 h] 48).alloc (.cells (u8V (zeros 10)) 44))
  have K2 := Lib.hid (Blk.new' (w.alloc (.cells #[.int .i64 k, .int .i64 s, .int .i64 q, .int .i64 e, .int .i64 c, .int .i64 h] 48)) (u8V (zeros 10)) 44 (g := w.heap.size + 1) (by simp))
  replace BB := Lib.hid (below_alloc2 w (.cells #[.int .i64 k, .int .i64 s, .int .i64 q, .int .i64 e, .int .i64 c, .int .i64 h] 48) (.cells (u8V (zeros 10)) 44))
  generalize (w.alloc (.cells #[.int .i64 k, .int .i64 s, .int .i64 q, .int .i64 e, .int .i64 c, .int .i64 h] 48)).alloc (.cells (u8V (zeros 10)) 44) = w1 at *
  have g2e : w.heap.size ≤ w.heap.size + 1 := Nat.le_succ _
  generalize w.heap.size + 1 = g2 at *
  have ck := (blk_cells KR.out).1
  have l1 := K2.out.lt
  go_wp2_with ((with_reducible show wpList _ _ _ (⟨_, .alloc 64, _, _, _, none⟩ :: _) _ _); (with_reducible refine wpRow_alloc zeroT_six ?_ ?_ ?_); (· exact wanted0 rfl); (· rfl); refine Marker.mk ?_)
  refine Marker.in ?_
  have bel := below_alloc1 w1 (.cells (i64V (zeros 12)) 64)
  replace KR := Lib.hid (KR.out.below bel)
  replace K2 := Lib.hid (K2.out.below bel)
  replace BB := Lib.hid (bt BB.out bel)
  have K3 := Lib.hid (Blk.new w1 (i64V (zeros 12)) 64)
  clear bel
  generalize w1.alloc (.cells (i64V (zeros 12)) 64) = w2 at *
  generalize w1.heap.size = g3 at *
  clear ck
  go_wp2_with ((with_reducible show wpList _ _ _ (⟨_, .store 64 _ _, _, _, _, none⟩ :: _) _ _); (with_reducible refine wpBlk_store (g := g3) (cs := #[.int .i64 k, .int .i64 1, .int .i64 s, .int .i64 1, .int .i64 q, .int .i64 4, .int .i64 e, .int .i64 2, .int .i64 c, .int .i64 1, .int .i64 h, .int .i64 1]) agg_six ?_ ?_ K3 ?_ ?_ ?_ ?_); (· exact wanted0 rfl); (· exact ⟨rfl, rfl, rfl⟩); (· rfl); (· rfl); (· simp [Value.oneCell']); refine Marker.mk ?_)
  refine Marker.in ?_
  replace KR := Lib.hid (KR.out.setRow_other g3 (#[.int .i64 k, .int .i64 1, .int .i64 s, .int .i64 1, .int .i64 q, .int .i64 4, .int .i64 e, .int .i64 2, .int .i64 c, .int .i64 1, .int .i64 h, .int .i64 1]) (by omega))
  replace K2 := Lib.hid (K2.out.setRow_other g3 (#[.int .i64 k, .int .i64 1, .int .i64 s, .int .i64 1, .int .i64 q, .int .i64 4, .int .i64 e, .int .i64 2, .int .i64 c, .int .i64 1, .int .i64 h, .int .i64 1]) (by omega))
  replace K3 := Lib.hid (K3.out.setRow (#[.int .i64 k, .int .i64 1, .int .i64 s, .int .i64 1, .int .i64 q, .int .i64 4, .int .i64 e, .int .i64 2, .int .i64 c, .int .i64 1, .int .i64 h, .int .i64 1]))
  replace BB := Lib.hid (below_setRow (g := g3) BB.out (by omega) (#[.int .i64 k, .int .i64 1, .int .i64 s, .int .i64 1, .int .i64 q, .int .i64 4, .int .i64 e, .int .i64 2, .int .i64 c, .int .i64 1, .int .i64 h, .int .i64 1]))
  generalize w2.setRow g3 (#[.int .i64 k, .int .i64 1, .int .i64 s, .int .i64 1, .int .i64 q, .int .i64 4, .int .i64 e, .int .i64 2, .int .i64 c, .int .i64 1, .int .i64 h, .int .i64 1]) = w3 at *
  have l3 := K3.out.lt
  go_wp2_with ((with_reducible show wpList _ _ _ (⟨_, .alloc 44, _, _, _, none⟩ :: _) _ _); (with_reducible refine wpRow_alloc zeroT_b10 ?_ ?_ ?_); (· exact wanted0 rfl); (· rfl); refine Marker.mk ?_)
  refine Marker.in ?_
  have bel := below_alloc1 w3 (.cells (u8V (zeros 10)) 44)
  replace KR := Lib.hid (KR.out.below bel)
  replace K2 := Lib.hid (K2.out.below bel)
  replace K3 := Lib.hid (K3.out.below bel)
  replace BB := Lib.hid (bt BB.out bel)
  have K4 := Lib.hid (Blk.new w3 (u8V (zeros 10)) 44)
  clear bel
  generalize w3.alloc (.cells (u8V (zeros 10)) 44) = w4 at *
  generalize w3.heap.size = g4 at *
  clear KR
  have K3c : Hid (Blk w4 g3 (#[.int .i64 k, .int .i64 1, .int .i64 s, .int .i64 1, .int .i64 q, .int .i64 4, .int .i64 e, .int .i64 2, .int .i64 c, .int .i64 1, .int .i64 h, .int .i64 1]) 64) := K3
  go_wp2_with ((with_reducible show wpList _ _ _ (⟨_, .load 64 _, _, _, _, none⟩ :: _) _ _); (with_reducible refine wpBlk_load (g := g3) agg_six ?_ ?_ K3 ?_ ?_); (· exact wanted0 rfl); (· exact ⟨rfl, rfl⟩); (· rfl))
  refine wp_loop_rounds 7 ?_
  have l4 := K4.out.lt
  have P0L : Hid ((([] : List Int) ++ zeros 10).length = 10) := Lib.hid (by simp [be_len, zeros_len])
  have P0E : Hid (putAt (([] : List Int) ++ zeros 10) 0 (be (k % 256) 1) = (([] : List Int) ++ be (k % 256) 1) ++ zeros 9) := Lib.hid (by rw [putAt_pre _ _ _ _ (by simp [be_len]), be_len])
  have P1L : Hid (((([] : List Int) ++ be (k % 256) 1) ++ zeros 9).length = 10) := Lib.hid (by simp [be_len, zeros_len])
  have P1E : Hid (putAt ((([] : List Int) ++ be (k % 256) 1) ++ zeros 9) 1 (be (s % 256) 1) = ((([] : List Int) ++ be (k % 256) 1) ++ be (s % 256) 1) ++ zeros 8) := Lib.hid (by rw [putAt_pre _ _ _ _ (by simp [be_len]), be_len])
  have P2L : Hid ((((([] : List Int) ++ be (k % 256) 1) ++ be (s % 256) 1) ++ zeros 8).length = 10) := Lib.hid (by simp [be_len, zeros_len])
  have P2E : Hid (putAt (((([] : List Int) ++ be (k % 256) 1) ++ be (s % 256) 1) ++ zeros 8) 2 (be (q % 4294967296) 4) = (((([] : List Int) ++ be (k % 256) 1) ++ be (s % 256) 1) ++ be (q % 4294967296) 4) ++ zeros 4) := Lib.hid (by rw [putAt_pre _ _ _ _ (by simp [be_len]), be_len])
  have P3L : Hid (((((([] : List Int) ++ be (k % 256) 1) ++ be (s % 256) 1) ++ be (q % 4294967296) 4) ++ zeros 4).length = 10) := Lib.hid (by simp [be_len, zeros_len])
  have P3E : Hid (putAt ((((([] : List Int) ++ be (k % 256) 1) ++ be (s % 256) 1) ++ be (q % 4294967296) 4) ++ zeros 4) 6 (be (e % 65536) 2) = ((((([] : List Int) ++ be (k % 256) 1) ++ be (s % 256) 1) ++ be (q % 4294967296) 4) ++ be (e % 65536) 2) ++ zeros 2) := Lib.hid (by rw [putAt_pre _ _ _ _ (by simp [be_len]), be_len])
  have P4L : Hid ((((((([] : List Int) ++ be (k % 256) 1) ++ be (s % 256) 1) ++ be (q % 4294967296) 4) ++ be (e % 65536) 2) ++ zeros 2).length = 10) := Lib.hid (by simp [be_len, zeros_len])
  have P4E : Hid (putAt (((((([] : List Int) ++ be (k % 256) 1) ++ be (s % 256) 1) ++ be (q % 4294967296) 4) ++ be (e % 65536) 2) ++ zeros 2) 8 (be (c % 256) 1) = (((((([] : List Int) ++ be (k % 256) 1) ++ be (s % 256) 1) ++ be (q % 4294967296) 4) ++ be (e % 65536) 2) ++ be (c % 256) 1) ++ zeros 1) := Lib.hid (by rw [putAt_pre _ _ _ _ (by simp [be_len]), be_len])
  have P5L : Hid (((((((([] : List Int) ++ be (k % 256) 1) ++ be (s % 256) 1) ++ be (q % 4294967296) 4) ++ be (e % 65536) 2) ++ be (c % 256) 1) ++ zeros 1).length = 10) := Lib.hid (by simp [be_len, zeros_len])
  have P5E : Hid (putAt ((((((([] : List Int) ++ be (k % 256) 1) ++ be (s % 256) 1) ++ be (q % 4294967296) 4) ++ be (e % 65536) 2) ++ be (c % 256) 1) ++ zeros 1) 9 (be (h % 256) 1) = ((((((([] : List Int) ++ be (k % 256) 1) ++ be (s % 256) 1) ++ be (q % 4294967296) 4) ++ be (e % 65536) 2) ++ be (c % 256) 1) ++ be (h % 256) 1) ++ zeros 0) := Lib.hid (by rw [putAt_pre _ _ _ _ (by simp [be_len]), be_len])
  replace K4 : Hid (Blk w4 g4 (u8V (([] : List Int) ++ zeros 10)) 44) := K4
  clear K3c K3
  rw [rounds_succ]
  have IX : ∀ W, (Instr.index 64 (.agg #[.int .i64 k, .int .i64 1, .int .i64 s, .int .i64 1, .int .i64 q, .int .i64 4, .int .i64 e, .int .i64 2, .int .i64 c, .int .i64 1, .int .i64 h, .int .i64 1]) (.int .i64 0)).run Tryd.prog W = .ok (.agg #[.int .i64 k, .int .i64 1]) W := fun W => index_six _ 0 (by omega) W
  go_wp2_with ((with_reducible show wpList _ _ _ (⟨_, .alloc 63, _, _, _, none⟩ :: _) _ _); (with_reducible refine wpRow_alloc zeroT_fld ?_ ?_ ?_); (· exact wanted0 rfl); (· rfl); refine Marker.mk ?_)
  refine Marker.in ?_
  have bel := below_alloc1 w4 (.cells (i64V (zeros 2)) 63)
  replace K2 := Lib.hid (K2.out.below bel)
  replace K4 := Lib.hid (K4.out.below bel)
  replace BB := Lib.hid (bt BB.out bel)
  have K7 := Lib.hid (Blk.new w4 (i64V (zeros 2)) 63)
  clear bel
  generalize w4.alloc (.cells (i64V (zeros 2)) 63) = w0a at *
  generalize w4.heap.size = gf0 at *
  go_wp2_with ((with_reducible show wpList _ _ _ (⟨_, .store 63 _ _, _, _, _, none⟩ :: _) _ _); (with_reducible refine wpBlk_store (g := gf0) (cs := i64V [k, 1]) agg_fld ?_ ?_ K7 ?_ ?_ ?_ ?_); (· exact wanted0 rfl); (· exact ⟨rfl, rfl, rfl⟩); (· rfl); (· rfl); (· exact i64V_one _); refine Marker.mk ?_)
  refine Marker.in ?_
  replace K2 := Lib.hid (K2.out.setRow_other gf0 (i64V [k, 1]) (by omega))
  replace K4 := Lib.hid (K4.out.setRow_other gf0 (i64V [k, 1]) (by omega))
  replace K7 := Lib.hid (K7.out.setRow (i64V [k, 1]))
  replace BB := Lib.hid (below_setRow (g := gf0) BB.out (by omega) (i64V [k, 1]))
  generalize w0a.setRow gf0 (i64V [k, 1]) = w0b at *
  have cf : ∀ i, w0b.cell? ⟨gf0, i, none⟩ = (#[.int .i64 k, .int .i64 1] : Array Value)[i]? := (blk_cells K7.out).1
  clear IX
  have PUT : ∀ W : World, Calls Tryd.prog 42 #[.int .u64 (k % 256), .int .i64 1] W fun en w' => en = .returned (.tuple #[.slice (some ⟨W.heap.size, 0, none⟩) 1 1, .int .i64 0]) ∧ Row w' (some ⟨W.heap.size, 0, none⟩) (be (k % 256) 1) ∧ Below W.heap.size W w' := fun W => put_row (k % 256) 1 W (by omega) (by omega) (by omega) (by show (k % 256) / 256 = 0; omega)
  go_wp2_with fail
  rw [mask8]
  ((with_reducible refine (PUT _).mono ?_))
  rintro e' w0c ⟨rfl, RP, bp⟩
  clear PUT cf
  replace K2 := Lib.hid (K2.out.below bp)
  replace K4 := Lib.hid (K4.out.below bp)
  replace K7 := Lib.hid (K7.out.below bp)
  replace BB := Lib.hid (bt BB.out bp)
  clear bp K7
  replace RP := Lib.hid RP
  go_wp2_with ((with_reducible show wpList _ _ _ (⟨some 60, _, _, _, _, _⟩ :: _) _ _); refine Marker.mk ?_)
  refine Marker.in ?_
  (with_reducible refine wpBlk_copy ?_ g4 0 1 1 (([] : List Int) ++ zeros 10) 44 (some ⟨w0b.heap.size, 0, none⟩) 1 1 (be (k % 256) 1) 1 (some ⟨g4, 0, none⟩) ?_ K4 (be_len _ _) RP ?_ ?_ ?_ ?_)
  · exact wanted0 rfl
  · exact ⟨rfl, _, _, rfl, rfl, rfl⟩
  · rfl
  · rw [P0L.out]; omega
  · exact fun _ => rfl
  intro w0d K4' b5 o5 s5
  rw [List.take_of_length_le (by rw [be_len]; omega), P0E.out] at K4'
  replace BB := Lib.hid (BB.out.trans (b5.mono (by omega)))
  replace K2 := Lib.hid (show Blk w0d g2 (u8V (zeros 10)) 44 from (o5 _ (by omega)).trans K2.out)
  clear K4 o5 s5 b5 RP
  replace K4 := Lib.hid K4'
  clear K4'
  have l4 := K4.out.lt
  go_wp2_with fail
  rw [rounds_succ]
  have IX : ∀ W, (Instr.index 64 (.agg #[.int .i64 k, .int .i64 1, .int .i64 s, .int .i64 1, .int .i64 q, .int .i64 4, .int .i64 e, .int .i64 2, .int .i64 c, .int .i64 1, .int .i64 h, .int .i64 1]) (.int .i64 1)).run Tryd.prog W = .ok (.agg #[.int .i64 s, .int .i64 1]) W := fun W => index_six _ 1 (by omega) W
  go_wp2_with ((with_reducible show wpList _ _ _ (⟨_, .alloc 63, _, _, _, none⟩ :: _) _ _); (with_reducible refine wpRow_alloc zeroT_fld ?_ ?_ ?_); (· exact wanted0 rfl); (· rfl); refine Marker.mk ?_)
  refine Marker.in ?_
  have bel := below_alloc1 w0d (.cells (i64V (zeros 2)) 63)
  replace K2 := Lib.hid (K2.out.below bel)
  replace K4 := Lib.hid (K4.out.below bel)
  replace BB := Lib.hid (bt BB.out bel)
  have K7 := Lib.hid (Blk.new w0d (i64V (zeros 2)) 63)
  clear bel
  generalize w0d.alloc (.cells (i64V (zeros 2)) 63) = w1a at *
  generalize w0d.heap.size = gf1 at *
  go_wp2_with ((with_reducible show wpList _ _ _ (⟨_, .store 63 _ _, _, _, _, none⟩ :: _) _ _); (with_reducible refine wpBlk_store (g := gf1) (cs := i64V [s, 1]) agg_fld ?_ ?_ K7 ?_ ?_ ?_ ?_); (· exact wanted0 rfl); (· exact ⟨rfl, rfl, rfl⟩); (· rfl); (· rfl); (· exact i64V_one _); refine Marker.mk ?_)
  refine Marker.in ?_
  replace K2 := Lib.hid (K2.out.setRow_other gf1 (i64V [s, 1]) (by omega))
  replace K4 := Lib.hid (K4.out.setRow_other gf1 (i64V [s, 1]) (by omega))
  replace K7 := Lib.hid (K7.out.setRow (i64V [s, 1]))
  replace BB := Lib.hid (below_setRow (g := gf1) BB.out (by omega) (i64V [s, 1]))
  generalize w1a.setRow gf1 (i64V [s, 1]) = w1b at *
  have cf : ∀ i, w1b.cell? ⟨gf1, i, none⟩ = (#[.int .i64 s, .int .i64 1] : Array Value)[i]? := (blk_cells K7.out).1
  clear IX
  have PUT : ∀ W : World, Calls Tryd.prog 42 #[.int .u64 (s % 256), .int .i64 1] W fun en w' => en = .returned (.tuple #[.slice (some ⟨W.heap.size, 0, none⟩) 1 1, .int .i64 0]) ∧ Row w' (some ⟨W.heap.size, 0, none⟩) (be (s % 256) 1) ∧ Below W.heap.size W w' := fun W => put_row (s % 256) 1 W (by omega) (by omega) (by omega) (by show (s % 256) / 256 = 0; omega)
  go_wp2_with fail
  rw [mask8]
  ((with_reducible refine (PUT _).mono ?_))
  rintro e' w1c ⟨rfl, RP, bp⟩
  clear PUT cf
  replace K2 := Lib.hid (K2.out.below bp)
  replace K4 := Lib.hid (K4.out.below bp)
  replace K7 := Lib.hid (K7.out.below bp)
  replace BB := Lib.hid (bt BB.out bp)
  clear bp K7
  replace RP := Lib.hid RP
  go_wp2_with ((with_reducible show wpList _ _ _ (⟨some 60, _, _, _, _, _⟩ :: _) _ _); refine Marker.mk ?_)
  refine Marker.in ?_
  (with_reducible refine wpBlk_copy ?_ g4 1 1 1 ((([] : List Int) ++ be (k % 256) 1) ++ zeros 9) 44 (some ⟨w1b.heap.size, 0, none⟩) 1 1 (be (s % 256) 1) 1 (some ⟨g4, 1, none⟩) ?_ K4 (be_len _ _) RP ?_ ?_ ?_ ?_)
  · exact wanted0 rfl
  · exact ⟨rfl, _, _, rfl, rfl, rfl⟩
  · rfl
  · rw [P1L.out]; omega
  · exact fun _ => rfl
  intro w1d K4' b5 o5 s5
  rw [List.take_of_length_le (by rw [be_len]; omega), P1E.out] at K4'
  replace BB := Lib.hid (BB.out.trans (b5.mono (by omega)))
  replace K2 := Lib.hid (show Blk w1d g2 (u8V (zeros 10)) 44 from (o5 _ (by omega)).trans K2.out)
  clear K4 o5 s5 b5 RP
  replace K4 := Lib.hid K4'
  clear K4'
  have l4 := K4.out.lt
  go_wp2_with fail
  rw [rounds_succ]
  have IX : ∀ W, (Instr.index 64 (.agg #[.int .i64 k, .int .i64 1, .int .i64 s, .int .i64 1, .int .i64 q, .int .i64 4, .int .i64 e, .int .i64 2, .int .i64 c, .int .i64 1, .int .i64 h, .int .i64 1]) (.int .i64 2)).run Tryd.prog W = .ok (.agg #[.int .i64 q, .int .i64 4]) W := fun W => index_six _ 2 (by omega) W
  go_wp2_with ((with_reducible show wpList _ _ _ (⟨_, .alloc 63, _, _, _, none⟩ :: _) _ _); (with_reducible refine wpRow_alloc zeroT_fld ?_ ?_ ?_); (· exact wanted0 rfl); (· rfl); refine Marker.mk ?_)
  refine Marker.in ?_
  have bel := below_alloc1 w1d (.cells (i64V (zeros 2)) 63)
  replace K2 := Lib.hid (K2.out.below bel)
  replace K4 := Lib.hid (K4.out.below bel)
  replace BB := Lib.hid (bt BB.out bel)
  have K7 := Lib.hid (Blk.new w1d (i64V (zeros 2)) 63)
  clear bel
  generalize w1d.alloc (.cells (i64V (zeros 2)) 63) = w2a at *
  generalize w1d.heap.size = gf2 at *
  go_wp2_with ((with_reducible show wpList _ _ _ (⟨_, .store 63 _ _, _, _, _, none⟩ :: _) _ _); (with_reducible refine wpBlk_store (g := gf2) (cs := i64V [q, 4]) agg_fld ?_ ?_ K7 ?_ ?_ ?_ ?_); (· exact wanted0 rfl); (· exact ⟨rfl, rfl, rfl⟩); (· rfl); (· rfl); (· exact i64V_one _); refine Marker.mk ?_)
  refine Marker.in ?_
  replace K2 := Lib.hid (K2.out.setRow_other gf2 (i64V [q, 4]) (by omega))
  replace K4 := Lib.hid (K4.out.setRow_other gf2 (i64V [q, 4]) (by omega))
  replace K7 := Lib.hid (K7.out.setRow (i64V [q, 4]))
  replace BB := Lib.hid (below_setRow (g := gf2) BB.out (by omega) (i64V [q, 4]))
  generalize w2a.setRow gf2 (i64V [q, 4]) = w2b at *
  have cf : ∀ i, w2b.cell? ⟨gf2, i, none⟩ = (#[.int .i64 q, .int .i64 4] : Array Value)[i]? := (blk_cells K7.out).1
  clear IX
  have PUT : ∀ W : World, Calls Tryd.prog 42 #[.int .u64 (q % 4294967296), .int .i64 4] W fun en w' => en = .returned (.tuple #[.slice (some ⟨W.heap.size, 0, none⟩) 4 4, .int .i64 0]) ∧ Row w' (some ⟨W.heap.size, 0, none⟩) (be (q % 4294967296) 4) ∧ Below W.heap.size W w' := fun W => put_row (q % 4294967296) 4 W (by omega) (by omega) (by omega) (by show (q % 4294967296) / 4294967296 = 0; omega)
  go_wp2_with fail
  rw [mask32]
  ((with_reducible refine (PUT _).mono ?_))
  rintro e' w2c ⟨rfl, RP, bp⟩
  clear PUT cf
  replace K2 := Lib.hid (K2.out.below bp)
  replace K4 := Lib.hid (K4.out.below bp)
  replace K7 := Lib.hid (K7.out.below bp)
  replace BB := Lib.hid (bt BB.out bp)
  clear bp K7
  replace RP := Lib.hid RP
  go_wp2_with ((with_reducible show wpList _ _ _ (⟨some 60, _, _, _, _, _⟩ :: _) _ _); refine Marker.mk ?_)
  refine Marker.in ?_
  (with_reducible refine wpBlk_copy ?_ g4 2 4 4 (((([] : List Int) ++ be (k % 256) 1) ++ be (s % 256) 1) ++ zeros 8) 44 (some ⟨w2b.heap.size, 0, none⟩) 4 4 (be (q % 4294967296) 4) 4 (some ⟨g4, 2, none⟩) ?_ K4 (be_len _ _) RP ?_ ?_ ?_ ?_)
  · exact wanted0 rfl
  · exact ⟨rfl, _, _, rfl, rfl, rfl⟩
  · rfl
  · rw [P2L.out]; omega
  · exact fun _ => rfl
  intro w2d K4' b5 o5 s5
  rw [List.take_of_length_le (by rw [be_len]; omega), P2E.out] at K4'
  replace BB := Lib.hid (BB.out.trans (b5.mono (by omega)))
  replace K2 := Lib.hid (show Blk w2d g2 (u8V (zeros 10)) 44 from (o5 _ (by omega)).trans K2.out)
  clear K4 o5 s5 b5 RP
  replace K4 := Lib.hid K4'
  clear K4'
  have l4 := K4.out.lt
  go_wp2_with fail
  rw [rounds_succ]
  have IX : ∀ W, (Instr.index 64 (.agg #[.int .i64 k, .int .i64 1, .int .i64 s, .int .i64 1, .int .i64 q, .int .i64 4, .int .i64 e, .int .i64 2, .int .i64 c, .int .i64 1, .int .i64 h, .int .i64 1]) (.int .i64 3)).run Tryd.prog W = .ok (.agg #[.int .i64 e, .int .i64 2]) W := fun W => index_six _ 3 (by omega) W
  go_wp2_with ((with_reducible show wpList _ _ _ (⟨_, .alloc 63, _, _, _, none⟩ :: _) _ _); (with_reducible refine wpRow_alloc zeroT_fld ?_ ?_ ?_); (· exact wanted0 rfl); (· rfl); refine Marker.mk ?_)
  refine Marker.in ?_
  have bel := below_alloc1 w2d (.cells (i64V (zeros 2)) 63)
  replace K2 := Lib.hid (K2.out.below bel)
  replace K4 := Lib.hid (K4.out.below bel)
  replace BB := Lib.hid (bt BB.out bel)
  have K7 := Lib.hid (Blk.new w2d (i64V (zeros 2)) 63)
  clear bel
  generalize w2d.alloc (.cells (i64V (zeros 2)) 63) = w3a at *
  generalize w2d.heap.size = gf3 at *
  go_wp2_with ((with_reducible show wpList _ _ _ (⟨_, .store 63 _ _, _, _, _, none⟩ :: _) _ _); (with_reducible refine wpBlk_store (g := gf3) (cs := i64V [e, 2]) agg_fld ?_ ?_ K7 ?_ ?_ ?_ ?_); (· exact wanted0 rfl); (· exact ⟨rfl, rfl, rfl⟩); (· rfl); (· rfl); (· exact i64V_one _); refine Marker.mk ?_)
  refine Marker.in ?_
  replace K2 := Lib.hid (K2.out.setRow_other gf3 (i64V [e, 2]) (by omega))
  replace K4 := Lib.hid (K4.out.setRow_other gf3 (i64V [e, 2]) (by omega))
  replace K7 := Lib.hid (K7.out.setRow (i64V [e, 2]))
  replace BB := Lib.hid (below_setRow (g := gf3) BB.out (by omega) (i64V [e, 2]))
  generalize w3a.setRow gf3 (i64V [e, 2]) = w3b at *
  have cf : ∀ i, w3b.cell? ⟨gf3, i, none⟩ = (#[.int .i64 e, .int .i64 2] : Array Value)[i]? := (blk_cells K7.out).1
  clear IX
  have PUT : ∀ W : World, Calls Tryd.prog 42 #[.int .u64 (e % 65536), .int .i64 2] W fun en w' => en = .returned (.tuple #[.slice (some ⟨W.heap.size, 0, none⟩) 2 2, .int .i64 0]) ∧ Row w' (some ⟨W.heap.size, 0, none⟩) (be (e % 65536) 2) ∧ Below W.heap.size W w' := fun W => put_row (e % 65536) 2 W (by omega) (by omega) (by omega) (by show (e % 65536) / 65536 = 0; omega)
  go_wp2_with fail
  rw [mask16]
  ((with_reducible refine (PUT _).mono ?_))
  rintro e' w3c ⟨rfl, RP, bp⟩
  clear PUT cf
  replace K2 := Lib.hid (K2.out.below bp)
  replace K4 := Lib.hid (K4.out.below bp)
  replace K7 := Lib.hid (K7.out.below bp)
  replace BB := Lib.hid (bt BB.out bp)
  clear bp K7
  replace RP := Lib.hid RP
  go_wp2_with ((with_reducible show wpList _ _ _ (⟨some 60, _, _, _, _, _⟩ :: _) _ _); refine Marker.mk ?_)
  refine Marker.in ?_
  (with_reducible refine wpBlk_copy ?_ g4 6 2 2 ((((([] : List Int) ++ be (k % 256) 1) ++ be (s % 256) 1) ++ be (q % 4294967296) 4) ++ zeros 4) 44 (some ⟨w3b.heap.size, 0, none⟩) 2 2 (be (e % 65536) 2) 2 (some ⟨g4, 6, none⟩) ?_ K4 (be_len _ _) RP ?_ ?_ ?_ ?_)
  · exact wanted0 rfl
  · exact ⟨rfl, _, _, rfl, rfl, rfl⟩
  · rfl
  · rw [P3L.out]; omega
  · exact fun _ => rfl
  intro w3d K4' b5 o5 s5
  rw [List.take_of_length_le (by rw [be_len]; omega), P3E.out] at K4'
  replace BB := Lib.hid (BB.out.trans (b5.mono (by omega)))
  replace K2 := Lib.hid (show Blk w3d g2 (u8V (zeros 10)) 44 from (o5 _ (by omega)).trans K2.out)
  clear K4 o5 s5 b5 RP
  replace K4 := Lib.hid K4'
  clear K4'
  have l4 := K4.out.lt
  go_wp2_with fail
  rw [rounds_succ]
  have IX : ∀ W, (Instr.index 64 (.agg #[.int .i64 k, .int .i64 1, .int .i64 s, .int .i64 1, .int .i64 q, .int .i64 4, .int .i64 e, .int .i64 2, .int .i64 c, .int .i64 1, .int .i64 h, .int .i64 1]) (.int .i64 4)).run Tryd.prog W = .ok (.agg #[.int .i64 c, .int .i64 1]) W := fun W => index_six _ 4 (by omega) W
  go_wp2_with ((with_reducible show wpList _ _ _ (⟨_, .alloc 63, _, _, _, none⟩ :: _) _ _); (with_reducible refine wpRow_alloc zeroT_fld ?_ ?_ ?_); (· exact wanted0 rfl); (· rfl); refine Marker.mk ?_)
  refine Marker.in ?_
  have bel := below_alloc1 w3d (.cells (i64V (zeros 2)) 63)
  replace K2 := Lib.hid (K2.out.below bel)
  replace K4 := Lib.hid (K4.out.below bel)
  replace BB := Lib.hid (bt BB.out bel)
  have K7 := Lib.hid (Blk.new w3d (i64V (zeros 2)) 63)
  clear bel
  generalize w3d.alloc (.cells (i64V (zeros 2)) 63) = w4a at *
  generalize w3d.heap.size = gf4 at *
  go_wp2_with ((with_reducible show wpList _ _ _ (⟨_, .store 63 _ _, _, _, _, none⟩ :: _) _ _); (with_reducible refine wpBlk_store (g := gf4) (cs := i64V [c, 1]) agg_fld ?_ ?_ K7 ?_ ?_ ?_ ?_); (· exact wanted0 rfl); (· exact ⟨rfl, rfl, rfl⟩); (· rfl); (· rfl); (· exact i64V_one _); refine Marker.mk ?_)
  refine Marker.in ?_
  replace K2 := Lib.hid (K2.out.setRow_other gf4 (i64V [c, 1]) (by omega))
  replace K4 := Lib.hid (K4.out.setRow_other gf4 (i64V [c, 1]) (by omega))
  replace K7 := Lib.hid (K7.out.setRow (i64V [c, 1]))
  replace BB := Lib.hid (below_setRow (g := gf4) BB.out (by omega) (i64V [c, 1]))
  generalize w4a.setRow gf4 (i64V [c, 1]) = w4b at *
  have cf : ∀ i, w4b.cell? ⟨gf4, i, none⟩ = (#[.int .i64 c, .int .i64 1] : Array Value)[i]? := (blk_cells K7.out).1
  clear IX
  have PUT : ∀ W : World, Calls Tryd.prog 42 #[.int .u64 (c % 256), .int .i64 1] W fun en w' => en = .returned (.tuple #[.slice (some ⟨W.heap.size, 0, none⟩) 1 1, .int .i64 0]) ∧ Row w' (some ⟨W.heap.size, 0, none⟩) (be (c % 256) 1) ∧ Below W.heap.size W w' := fun W => put_row (c % 256) 1 W (by omega) (by omega) (by omega) (by show (c % 256) / 256 = 0; omega)
  go_wp2_with fail
  rw [mask8]
  ((with_reducible refine (PUT _).mono ?_))
  rintro e' w4c ⟨rfl, RP, bp⟩
  clear PUT cf
  replace K2 := Lib.hid (K2.out.below bp)
  replace K4 := Lib.hid (K4.out.below bp)
  replace K7 := Lib.hid (K7.out.below bp)
  replace BB := Lib.hid (bt BB.out bp)
  clear bp K7
  replace RP := Lib.hid RP
  go_wp2_with ((with_reducible show wpList _ _ _ (⟨some 60, _, _, _, _, _⟩ :: _) _ _); refine Marker.mk ?_)
  refine Marker.in ?_
  (with_reducible refine wpBlk_copy ?_ g4 8 1 1 (((((([] : List Int) ++ be (k % 256) 1) ++ be (s % 256) 1) ++ be (q % 4294967296) 4) ++ be (e % 65536) 2) ++ zeros 2) 44 (some ⟨w4b.heap.size, 0, none⟩) 1 1 (be (c % 256) 1) 1 (some ⟨g4, 8, none⟩) ?_ K4 (be_len _ _) RP ?_ ?_ ?_ ?_)
  · exact wanted0 rfl
  · exact ⟨rfl, _, _, rfl, rfl, rfl⟩
  · rfl
  · rw [P4L.out]; omega
  · exact fun _ => rfl
  intro w4d K4' b5 o5 s5
  rw [List.take_of_length_le (by rw [be_len]; omega), P4E.out] at K4'
  replace BB := Lib.hid (BB.out.trans (b5.mono (by omega)))
  replace K2 := Lib.hid (show Blk w4d g2 (u8V (zeros 10)) 44 from (o5 _ (by omega)).trans K2.out)
  clear K4 o5 s5 b5 RP
  replace K4 := Lib.hid K4'
  clear K4'
  have l4 := K4.out.lt
  go_wp2_with fail
  rw [rounds_succ]
  have IX : ∀ W, (Instr.index 64 (.agg #[.int .i64 k, .int .i64 1, .int .i64 s, .int .i64 1, .int .i64 q, .int .i64 4, .int .i64 e, .int .i64 2, .int .i64 c, .int .i64 1, .int .i64 h, .int .i64 1]) (.int .i64 5)).run Tryd.prog W = .ok (.agg #[.int .i64 h, .int .i64 1]) W := fun W => index_six _ 5 (by omega) W
  go_wp2_with ((with_reducible show wpList _ _ _ (⟨_, .alloc 63, _, _, _, none⟩ :: _) _ _); (with_reducible refine wpRow_alloc zeroT_fld ?_ ?_ ?_); (· exact wanted0 rfl); (· rfl); refine Marker.mk ?_)
  refine Marker.in ?_
  have bel := below_alloc1 w4d (.cells (i64V (zeros 2)) 63)
  replace K2 := Lib.hid (K2.out.below bel)
  replace K4 := Lib.hid (K4.out.below bel)
  replace BB := Lib.hid (bt BB.out bel)
  have K7 := Lib.hid (Blk.new w4d (i64V (zeros 2)) 63)
  clear bel
  generalize w4d.alloc (.cells (i64V (zeros 2)) 63) = w5a at *
  generalize w4d.heap.size = gf5 at *
  go_wp2_with ((with_reducible show wpList _ _ _ (⟨_, .store 63 _ _, _, _, _, none⟩ :: _) _ _); (with_reducible refine wpBlk_store (g := gf5) (cs := i64V [h, 1]) agg_fld ?_ ?_ K7 ?_ ?_ ?_ ?_); (· exact wanted0 rfl); (· exact ⟨rfl, rfl, rfl⟩); (· rfl); (· rfl); (· exact i64V_one _); refine Marker.mk ?_)
  refine Marker.in ?_
  replace K2 := Lib.hid (K2.out.setRow_other gf5 (i64V [h, 1]) (by omega))
  replace K4 := Lib.hid (K4.out.setRow_other gf5 (i64V [h, 1]) (by omega))
  replace K7 := Lib.hid (K7.out.setRow (i64V [h, 1]))
  replace BB := Lib.hid (below_setRow (g := gf5) BB.out (by omega) (i64V [h, 1]))
  generalize w5a.setRow gf5 (i64V [h, 1]) = w5b at *
  have cf : ∀ i, w5b.cell? ⟨gf5, i, none⟩ = (#[.int .i64 h, .int .i64 1] : Array Value)[i]? := (blk_cells K7.out).1
  clear IX
  have PUT : ∀ W : World, Calls Tryd.prog 42 #[.int .u64 (h % 256), .int .i64 1] W fun en w' => en = .returned (.tuple #[.slice (some ⟨W.heap.size, 0, none⟩) 1 1, .int .i64 0]) ∧ Row w' (some ⟨W.heap.size, 0, none⟩) (be (h % 256) 1) ∧ Below W.heap.size W w' := fun W => put_row (h % 256) 1 W (by omega) (by omega) (by omega) (by show (h % 256) / 256 = 0; omega)
  go_wp2_with fail
  rw [mask8]
  ((with_reducible refine (PUT _).mono ?_))
  rintro e' w5c ⟨rfl, RP, bp⟩
  clear PUT cf
  replace K2 := Lib.hid (K2.out.below bp)
  replace K4 := Lib.hid (K4.out.below bp)
  replace K7 := Lib.hid (K7.out.below bp)
  replace BB := Lib.hid (bt BB.out bp)
  clear bp K7
  replace RP := Lib.hid RP
  go_wp2_with ((with_reducible show wpList _ _ _ (⟨some 60, _, _, _, _, _⟩ :: _) _ _); refine Marker.mk ?_)
  refine Marker.in ?_
  (with_reducible refine wpBlk_copy ?_ g4 9 1 1 ((((((([] : List Int) ++ be (k % 256) 1) ++ be (s % 256) 1) ++ be (q % 4294967296) 4) ++ be (e % 65536) 2) ++ be (c % 256) 1) ++ zeros 1) 44 (some ⟨w5b.heap.size, 0, none⟩) 1 1 (be (h % 256) 1) 1 (some ⟨g4, 9, none⟩) ?_ K4 (be_len _ _) RP ?_ ?_ ?_ ?_)
  · exact wanted0 rfl
  · exact ⟨rfl, _, _, rfl, rfl, rfl⟩
  · rfl
  · rw [P5L.out]; omega
  · exact fun _ => rfl
  intro w5d K4' b5 o5 s5
  rw [List.take_of_length_le (by rw [be_len]; omega), P5E.out] at K4'
  replace BB := Lib.hid (BB.out.trans (b5.mono (by omega)))
  replace K2 := Lib.hid (show Blk w5d g2 (u8V (zeros 10)) 44 from (o5 _ (by omega)).trans K2.out)
  clear K4 o5 s5 b5 RP
  replace K4 := Lib.hid K4'
  clear K4'
  have l4 := K4.out.lt
  go_wp2_with fail
  rw [rounds_succ]
  have PALL : recB k s q e c h = ((((((([] : List Int) ++ be (k % 256) 1) ++ be (s % 256) 1) ++ be (q % 4294967296) 4) ++ be (e % 65536) 2) ++ be (c % 256) 1) ++ be (h % 256) 1) := rfl
  have PL : (((((((([] : List Int) ++ be (k % 256) 1) ++ be (s % 256) 1) ++ be (q % 4294967296) 4) ++ be (e % 65536) 2) ++ be (c % 256) 1) ++ be (h % 256) 1) ++ zeros 0).length = 10 := by simp [be_len, zeros_len]
  have PE : ((((((([] : List Int) ++ be (k % 256) 1) ++ be (s % 256) 1) ++ be (q % 4294967296) 4) ++ be (e % 65536) 2) ++ be (c % 256) 1) ++ be (h % 256) 1) ++ zeros 0 = recB k s q e c h := by rw [PALL]; exact List.append_nil _
  rw [PE] at K4 PL
  clear PE PALL
  generalize hrb : recB k s q e c h = rb at *
  replace hrb := Lib.hid hrb
  replace PL := Lib.hid PL
  go_wp2_with (first | ((with_reducible show wpList _ _ _ (⟨_, .load 44 _, _, _, _, none⟩ :: _) _ _); (with_reducible refine wpBlk_load (g := g4) agg_b10 ?_ ?_ K4 ?_ ?_); (· exact wanted0 rfl); (· exact ⟨rfl, rfl⟩); (· rw [u8V_size, PL.out])) | ((with_reducible show wpList _ _ _ (⟨_, .store 44 _ _, _, _, _, none⟩ :: _) _ _); (with_reducible refine wpBlk_store (g := g2) (cs := u8V rb) agg_b10 ?_ ?_ K2 ?_ ?_ ?_ ?_); (· exact wanted0 rfl); (· exact ⟨rfl, rfl, rfl⟩); (· rw [u8V_size, zeros_len]); (· rw [u8V_size, PL.out]); (· exact u8V_one _); refine Marker.mk ?_))
  refine Marker.in ?_
  replace K2 := Lib.hid (K2.out.setRow (u8V rb))
  replace BB := Lib.hid (below_setRow (g := g2) BB.out (by omega) (u8V rb))
  go_wp2_with fail
  refine bodyPost_ret (v := .agg (u8V rb)) (results_blk agg_b10 rfl _ _ g2 _ rfl K2.out (by rw [u8V_size, PL.out])) rfl ⟨by rw [hrb.out], BB.out⟩
end Go.Proofs.YtalekcpdkfdmaaaDoor
