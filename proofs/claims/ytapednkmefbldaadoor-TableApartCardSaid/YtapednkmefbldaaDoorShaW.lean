/- The walks of package sha and its reference. -/
import Derived.Test.YtapednkmefbldaaDoorSha
import Derived.Test.YtapednkmefbldaaDoorApp
import Derived.Test.YtapednkmefbldaaDoorCopy
import Derived.Test.YtapednkmefbldaaDoorQt
import Derived.StillTailTactics
import Derived.BigQuiet
import Derived.Outline
import Derived.Deep.QuietTactic
namespace Go.Proofs.YtapednkmefbldaaDoor
open Go.RowKit

set_option maxRecDepth 100000 in
set_option maxHeartbeats 400000 in
theorem right_2 (x : Int) (w : World) : Calls Tryd.prog 68 #[.int .u32 x, .int .i64 2] w fun e w' => e = .returned (.int .u32 (rr x 2)) ∧ w = w' := by
  have h : bits BinOp.and IntKind.u64 (IntKind.u64.wrap (-2)) 31 = 30 := by decide
  go_enter Tryd.func68, Tryd.ntmps68
  go_wp2
  go_ret
  exact ⟨rfl, rfl⟩
set_option maxRecDepth 100000 in
set_option maxHeartbeats 400000 in
theorem right_6 (x : Int) (w : World) : Calls Tryd.prog 68 #[.int .u32 x, .int .i64 6] w fun e w' => e = .returned (.int .u32 (rr x 6)) ∧ w = w' := by
  have h : bits BinOp.and IntKind.u64 (IntKind.u64.wrap (-6)) 31 = 26 := by decide
  go_enter Tryd.func68, Tryd.ntmps68
  go_wp2
  go_ret
  exact ⟨rfl, rfl⟩
set_option maxRecDepth 100000 in
set_option maxHeartbeats 400000 in
theorem right_7 (x : Int) (w : World) : Calls Tryd.prog 68 #[.int .u32 x, .int .i64 7] w fun e w' => e = .returned (.int .u32 (rr x 7)) ∧ w = w' := by
  have h : bits BinOp.and IntKind.u64 (IntKind.u64.wrap (-7)) 31 = 25 := by decide
  go_enter Tryd.func68, Tryd.ntmps68
  go_wp2
  go_ret
  exact ⟨rfl, rfl⟩
set_option maxRecDepth 100000 in
set_option maxHeartbeats 400000 in
theorem right_11 (x : Int) (w : World) : Calls Tryd.prog 68 #[.int .u32 x, .int .i64 11] w fun e w' => e = .returned (.int .u32 (rr x 11)) ∧ w = w' := by
  have h : bits BinOp.and IntKind.u64 (IntKind.u64.wrap (-11)) 31 = 21 := by decide
  go_enter Tryd.func68, Tryd.ntmps68
  go_wp2
  go_ret
  exact ⟨rfl, rfl⟩
set_option maxRecDepth 100000 in
set_option maxHeartbeats 400000 in
theorem right_13 (x : Int) (w : World) : Calls Tryd.prog 68 #[.int .u32 x, .int .i64 13] w fun e w' => e = .returned (.int .u32 (rr x 13)) ∧ w = w' := by
  have h : bits BinOp.and IntKind.u64 (IntKind.u64.wrap (-13)) 31 = 19 := by decide
  go_enter Tryd.func68, Tryd.ntmps68
  go_wp2
  go_ret
  exact ⟨rfl, rfl⟩
set_option maxRecDepth 100000 in
set_option maxHeartbeats 400000 in
theorem right_17 (x : Int) (w : World) : Calls Tryd.prog 68 #[.int .u32 x, .int .i64 17] w fun e w' => e = .returned (.int .u32 (rr x 17)) ∧ w = w' := by
  have h : bits BinOp.and IntKind.u64 (IntKind.u64.wrap (-17)) 31 = 15 := by decide
  go_enter Tryd.func68, Tryd.ntmps68
  go_wp2
  go_ret
  exact ⟨rfl, rfl⟩
set_option maxRecDepth 100000 in
set_option maxHeartbeats 400000 in
theorem right_18 (x : Int) (w : World) : Calls Tryd.prog 68 #[.int .u32 x, .int .i64 18] w fun e w' => e = .returned (.int .u32 (rr x 18)) ∧ w = w' := by
  have h : bits BinOp.and IntKind.u64 (IntKind.u64.wrap (-18)) 31 = 14 := by decide
  go_enter Tryd.func68, Tryd.ntmps68
  go_wp2
  go_ret
  exact ⟨rfl, rfl⟩
set_option maxRecDepth 100000 in
set_option maxHeartbeats 400000 in
theorem right_19 (x : Int) (w : World) : Calls Tryd.prog 68 #[.int .u32 x, .int .i64 19] w fun e w' => e = .returned (.int .u32 (rr x 19)) ∧ w = w' := by
  have h : bits BinOp.and IntKind.u64 (IntKind.u64.wrap (-19)) 31 = 13 := by decide
  go_enter Tryd.func68, Tryd.ntmps68
  go_wp2
  go_ret
  exact ⟨rfl, rfl⟩
set_option maxRecDepth 100000 in
set_option maxHeartbeats 400000 in
theorem right_22 (x : Int) (w : World) : Calls Tryd.prog 68 #[.int .u32 x, .int .i64 22] w fun e w' => e = .returned (.int .u32 (rr x 22)) ∧ w = w' := by
  have h : bits BinOp.and IntKind.u64 (IntKind.u64.wrap (-22)) 31 = 10 := by decide
  go_enter Tryd.func68, Tryd.ntmps68
  go_wp2
  go_ret
  exact ⟨rfl, rfl⟩
set_option maxRecDepth 100000 in
set_option maxHeartbeats 400000 in
theorem right_25 (x : Int) (w : World) : Calls Tryd.prog 68 #[.int .u32 x, .int .i64 25] w fun e w' => e = .returned (.int .u32 (rr x 25)) ∧ w = w' := by
  have h : bits BinOp.and IntKind.u64 (IntKind.u64.wrap (-25)) 31 = 7 := by decide
  go_enter Tryd.func68, Tryd.ntmps68
  go_wp2
  go_ret
  exact ⟨rfl, rfl⟩

theorem right_all (x n : Int) (w : World) (hn : n = 2 ∨ n = 6 ∨ n = 7 ∨ n = 11 ∨ n = 13 ∨ n = 17 ∨ n = 18 ∨ n = 19 ∨ n = 22 ∨ n = 25) :
    Calls Tryd.prog 68 #[.int .u32 x, .int .i64 n] w fun e w' => e = .returned (.int .u32 (rr x n.toNat)) ∧ w = w' := by
  rcases hn with rfl | rfl | rfl | rfl | rfl | rfl | rfl | rfl | rfl | rfl
  · exact right_2 x w
  · exact right_6 x w
  · exact right_7 x w
  · exact right_11 x w
  · exact right_13 x w
  · exact right_17 x w
  · exact right_18 x w
  · exact right_19 x w
  · exact right_22 x w
  · exact right_25 x w
theorem wrap_u32_in (n : Int) (h0 : 0 ≤ n) (h1 : n ≤ 4294967295) : IntKind.u32.wrap n = n := by rw [IntKind.wrap_u32']; omega
theorem getD_byte {l : List Int} (h : ∀ x ∈ l, 0 ≤ x ∧ x ≤ 255) (k : Nat) : 0 ≤ l.getD k 0 ∧ l.getD k 0 ≤ 255 := by
  rcases Nat.lt_or_ge k l.length with hk | hk
  · have e : l.getD k 0 = l[k] := by simp [hk]
    rw [e]; exact h _ (List.getElem_mem _)
  · have e : l.getD k 0 = 0 := by simp [hk]
    rw [e]; omega
theorem word4_in {a b c d : Int} (a0 : 0 ≤ a) (a1 : a ≤ 255) (b0 : 0 ≤ b) (b1 : b ≤ 255) (c0 : 0 ≤ c) (c1 : c ≤ 255) :
    word4 a b c d = bits .or .u32 (bits .or .u32 (bits .or .u32 (a * 16777216) (b * 65536)) (c * 256)) d := by
  unfold word4
  rw [show (2 : Int) ^ 24 = 16777216 from by decide, show (2 : Int) ^ 16 = 65536 from by decide, show (2 : Int) ^ 8 = 256 from by decide, wrap_u32_in (a * 16777216) (by omega) (by omega), wrap_u32_in (b * 65536) (by omega) (by omega), wrap_u32_in (c * 256) (by omega) (by omega)]
theorem zeroT_8 : ZeroT Tryd.prog 112 (u32V (zeros 8)) := by
  intro ev o w ho
  unfold execOp
  simp only [ho]
  simp [go_sem]
  exact congrArg (fun c => w.alloc (.cells c 112)) (by kernel_rfl)
theorem zeroT_64 : ZeroT Tryd.prog 126 (u32V (zeros 64)) := by
  intro ev o w ho
  unfold execOp
  simp only [ho]
  simp [go_sem]
  exact congrArg (fun c => w.alloc (.cells c 126)) (by kernel_rfl)
theorem agg_8 : AggT Tryd.prog 112 8 := ⟨⟨_, Tryd.underlying112, rfl⟩, by kernel_rfl⟩
theorem agg_64 : AggT Tryd.prog 126 64 := ⟨⟨_, Tryd.underlying126, rfl⟩, by kernel_rfl⟩
theorem agg_b64 : AggT Tryd.prog 87 64 := ⟨⟨_, Tryd.underlying87, rfl⟩, by kernel_rfl⟩
def IsSched (b sl : List Int) : Prop := sl.length = 64 ∧ ∀ i, i < 64 → sl.getD i 0 = if i < 16 then wordAt b i else nxtAt sl i
set_option maxRecDepth 100000 in
set_option maxHeartbeats 200000 in
theorem words_of (b sl : List Int) (hl : b.length = 64) (hb : ∀ x ∈ b, 0 ≤ x ∧ x ≤ 255) (hs : IsSched b sl) (w : World) :
    Calls Tryd.prog 67 #[.agg (u8V b)] w fun e w' => e = .returned (.agg (u32V sl)) ∧ Below w.heap.size w w' := by
  have HL := Lib.hid hl
  have HB := Lib.hid hb
  have HS := Lib.hid hs
  clear hl hb hs
  go_enter Tryd.func67, Tryd.ntmps67
  go_wp2_with ((with_reducible show wpList _ _ _ (⟨_, .alloc 126, _, _, _, none⟩ :: _) _ _); (with_reducible refine wpRow_alloc zeroT_64 ?_ ?_ ?_); (· exact wanted0 rfl); (· rfl))
  go_loopw [10] (fun y wr => ∃ i : Nat, i ≤ 16 ∧ y = .int .i64 i ∧ Blk wr w.heap.size (u8V b) 87 ∧ Blk wr (w.heap.size + 1) (u32V (zeros 64)) 126 ∧ Blk wr (w.heap.size + 1 + 1) (u32V (part sl i)) 126 ∧ Below w.heap.size w wr) (fun y _ => 16 - (intOf y).toNat)
  case atStart =>
    refine ⟨0, by omega, rfl, ((Blk.new w _ _).alloc _).alloc _, ?_, ?_, below_alloc3 w _ _ _⟩
    · exact (Blk.new' _ _ _ (by simp [alloc_size])).alloc _
    · rw [part_zero, HS.out.1]
      exact Blk.new' _ _ _ (by simp [alloc_size])
  case round =>
    obtain ⟨i, hi, rfl, K1, K2, K3, hB⟩ := hrel
    by_cases hlt : i < 16
    · have c0 := K1.cell (4 * i)
      have c1 := K1.cell (4 * i + 1)
      have c2 := K1.cell (4 * i + 2)
      have c3 := K1.cell (4 * i + 3)
      rw [u8V_get _ _ (by rw [HL.out]; omega)] at c0 c1 c2 c3
      have byt : ∀ k, 0 ≤ b.getD k 0 ∧ b.getD k 0 ≤ 255 := fun k => getD_byte HB.out k
      have WD := HS.out.2 i (by omega)
      rw [if_pos hlt] at WD
      unfold wordAt at WD
      have b0 := byt (4 * i)
      have b1 := byt (4 * i + 1)
      have b2 := byt (4 * i + 2)
      have b3 := byt (4 * i + 3)
      clear byt
      generalize b.getD (4 * i) 0 = x0 at *
      generalize b.getD (4 * i + 1) 0 = x1 at *
      generalize b.getD (4 * i + 2) 0 = x2 at *
      generalize b.getD (4 * i + 3) 0 = x3 at *
      have v0 : IntKind.u32.wrap x0 = x0 := wrap_u32_in _ (by omega) (by omega)
      have v1 : IntKind.u32.wrap x1 = x1 := wrap_u32_in _ (by omega) (by omega)
      have v2 : IntKind.u32.wrap x2 = x2 := wrap_u32_in _ (by omega) (by omega)
      have v3 : IntKind.u32.wrap x3 = x3 := wrap_u32_in _ (by omega) (by omega)
      have cw := K3.cell i
      have fw := K3.frozen i
      rw [u32V_get _ _ (by rw [part_len _ _ (by rw [HS.out.1]; omega), HS.out.1]; omega)] at cw
      replace WD := Lib.hid WD
      replace K1 := Lib.hid K1
      replace K2 := Lib.hid K2
      replace K3 := Lib.hid K3
      replace hB := Lib.hid hB
      go_wp2_with fail
      refine wp_region_qt' 31 (by kernel_rfl) (by kernel_rfl) ?_
      simp only [List.take_succ_cons, List.take_zero, List.drop_succ_cons, List.drop_zero]
      repeat (go_big_quiet_step (fail))
      refine wpQuiet_nil ?_
      intro _ hw'
      obtain ⟨nq, rfl⟩ := hw'
      go_wp2_with fail
      have e : bits .or .u32 (bits .or .u32 (bits .or .u32 (x0 * 16777216) (x1 * 65536)) (x2 * 256)) x3 = sl.getD i 0 := by rw [WD.out]; exact (word4_in b0.1 b0.2 b1.1 b1.2 b2.1 b2.2).symm
      rw [e]
      have hl2 := HS.out.1
      refine ⟨⟨i + 1, by omega, by simp, (K1.out.drewN nq).other _ _ _ (by omega), (K2.out.drewN nq).other _ _ _ (by omega), ?_, (below_drewN hB.out nq).setCell (by simp; omega) _⟩, by simp [intOf]; omega⟩
      have h := (K3.out.drewN nq).set i (.int .u32 (sl.getD i 0))
      rw [u32V_set, part_set _ _ (by omega)] at h
      exact h
    · obtain rfl : i = 16 := by omega
      rw [show ((16 : Nat) : Int) = 16 from rfl]
      replace K1 := Lib.hid K1
      replace K2 := Lib.hid K2
      replace K3 := Lib.hid K3
      replace hB := Lib.hid hB
      go_wp2_with fail
      go_loopw [5] (fun y wx => ∃ i : Nat, 16 ≤ i ∧ i ≤ 64 ∧ y = .int .i64 i ∧ Blk wx (w.heap.size + 1) (u32V (zeros 64)) 126 ∧ Blk wx (w.heap.size + 1 + 1) (u32V (part sl i)) 126 ∧ Below w.heap.size w wx) (fun y _ => 64 - (intOf y).toNat)
      case atStart => exact ⟨16, by omega, by omega, rfl, K2.out, K3.out, hB.out⟩
      case round =>
        obtain ⟨i, hi0, hi, rfl, K2, K3, hB⟩ := hrel
        by_cases hlt : i < 64
        · have hl2 := HS.out.1
          have lp : (part sl i).length = 64 := by rw [part_len _ _ (by omega), hl2]
          have c0 := K3.cell (i - 16)
          have c1 := K3.cell (i - 7)
          have c2 := K3.cell (i - 15)
          have c3 := K3.cell (i - 2)
          have cw := K3.cell i
          have fw := K3.frozen i
          rw [u32V_get _ _ (by omega)] at c0 c1 c2 c3 cw
          rw [part_getD _ _ _ (by omega) (by omega)] at c0 c1 c2 c3
          have WD := HS.out.2 i hlt
          rw [if_neg (by omega)] at WD
          unfold nxtAt at WD
          generalize sl.getD (i - 16) 0 = x0 at *
          generalize sl.getD (i - 7) 0 = x1 at *
          generalize sl.getD (i - 15) 0 = x2 at *
          generalize sl.getD (i - 2) 0 = x3 at *
          replace WD := Lib.hid WD
          replace K2 := Lib.hid K2
          replace K3 := Lib.hid K3
          replace hB := Lib.hid hB
          replace hl2 := Lib.hid hl2
          clear lp
          go_wp2_with fail
          go_quiet (fail)
          go_wp2_with fail
          ((with_reducible refine (right_7 _ _).mono ?_)); rintro e w' ⟨rfl, rfl⟩
          go_wp2_with fail
          ((with_reducible refine (right_18 _ _).mono ?_)); rintro e w' ⟨rfl, rfl⟩
          go_wp2_with fail
          ((with_reducible refine (right_17 _ _).mono ?_)); rintro e w' ⟨rfl, rfl⟩
          go_wp2_with fail
          ((with_reducible refine (right_19 _ _).mono ?_)); rintro e w' ⟨rfl, rfl⟩
          go_wp2_with fail
          refine wp_region_qt' 15 (by kernel_rfl) (by kernel_rfl) ?_
          simp only [List.take_succ_cons, List.take_zero, List.drop_succ_cons, List.drop_zero]
          repeat (go_big_quiet_step (fail))
          refine wpQuiet_nil ?_
          intro _ hw'
          obtain ⟨nq2, rfl⟩ := hw'
          go_wp2_with fail
          have hl2 := hl2.out
          have e : (x0 + x1 + sg0 x2 + sg1 x3) % 4294967296 = sl.getD i 0 := by rw [WD.out]; rfl
          refine ⟨⟨i + 1, by omega, by omega, by simp, (K2.out.drewN _).other _ _ _ (by omega), ?_, (below_drewN hB.out _).setCell (by simp; omega) _⟩, by simp [intOf]; omega⟩
          have h := (K3.out.drewN (nq + nq2)).set i (.int .u32 (sl.getD i 0))
          rw [u32V_set, part_set _ _ (by omega), ← e] at h
          exact h
        · obtain rfl : i = 64 := by omega
          rw [part_all _ _ (by rw [HS.out.1]; omega)] at K3
          replace K2 := Lib.hid K2
          replace K3 := Lib.hid K3
          replace hB := Lib.hid hB
          go_wp2_with (first
            | ((with_reducible show wpList _ _ _ (⟨_, .load 126 _, _, _, _, none⟩ :: _) _ _); (with_reducible refine wpBlk_load (g := w.heap.size + 1 + 1) agg_64 ?_ ?_ K3 ?_ ?_); (· exact wanted0 rfl); (· exact ⟨rfl, rfl⟩); (· rw [u32V_size, HS.out.1]))
            | ((with_reducible show wpList _ _ _ (⟨_, .store 126 _ _, _, _, _, none⟩ :: _) _ _); (with_reducible refine wpBlk_store (g := w.heap.size + 1) (cs := u32V sl) agg_64 ?_ ?_ K2 ?_ ?_ ?_ ?_); (· exact wanted0 rfl); (· exact ⟨rfl, rfl, rfl⟩); (· rw [u32V_size, zeros_len]); (· rw [u32V_size, HS.out.1]); (· exact u32V_one _)))
          refine bodyPost_ret (v := .agg (u32V sl)) (results_blk agg_64 rfl _ _ (w.heap.size + 1) _ rfl (K2.out.setRow _) (by rw [u32V_size, HS.out.1])) rfl ⟨rfl, below_setRow hB.out (by omega) _⟩

end Go.Proofs.YtapednkmefbldaaDoor
