/- The walk of GateOld. -/
import Derived.Test.YtcgaodencjcgnaaDoorGateW
import Derived.Deep.DeepCutAuto
namespace Go.Proofs.YtcgaodencjcgnaaDoor
open Go.RowKit

theorem xor_par (a : Nat) : (a ^^^ 1) % 2 = (a + 1) % 2 := by
  have h := Nat.xor_mod_two_pow (a := a) (b := 1) (n := 1)
  rw [Nat.pow_one] at h
  rw [h]
  rcases Nat.mod_two_eq_zero_or_one a with e | e
  · rw [e]; show 1 = _; omega
  · rw [e]; show 0 = _; omega
theorem xor_one (n : Int) : ∃ m, bits .xor .i64 n 1 = m ∧ m ≠ n := by
  refine ⟨_, rfl, ?_⟩
  have e : bits .xor .i64 n 1 = IntKind.i64.wrap ((BitVec.ofInt 64 n ^^^ BitVec.ofInt 64 1).toNat : Int) := rfl
  rw [e]
  have h1 : (BitVec.ofInt 64 n ^^^ BitVec.ofInt 64 1).toNat % 2 = ((BitVec.ofInt 64 n).toNat + 1) % 2 := by
    rw [BitVec.toNat_xor, show (BitVec.ofInt 64 1).toNat = 1 from rfl]
    exact xor_par _
  have h2 : ((BitVec.ofInt 64 n).toNat : Int) = n % 18446744073709551616 := by
    rw [BitVec.toNat_ofInt]; omega
  have h3 : ∀ x : Int, IntKind.i64.wrap x % 2 = x % 2 := by
    intro x; simp only [IntKind.wrap, IntKind.bits, IntKind.signed]; simp; omega
  intro h
  have h4 := h3 ((BitVec.ofInt 64 n ^^^ BitVec.ofInt 64 1).toNat : Int)
  rw [h] at h4
  omega
theorem old_world {w : World} {g : Nat} {v : Value} {A B C : Obj} :
    (∀ k, k < w.heap.size → k ≠ g → ((((w.setCell ⟨g, 0, none⟩ v).alloc A).alloc B).alloc C).heap[k]? = w.heap[k]?) ∧
    ((((w.setCell ⟨g, 0, none⟩ v).alloc A).alloc B).alloc C).heap[w.heap.size]? = some A ∧ ((((w.setCell ⟨g, 0, none⟩ v).alloc A).alloc B).alloc C).heap[w.heap.size + 1]? = some B ∧ ((((w.setCell ⟨g, 0, none⟩ v).alloc A).alloc B).alloc C).heap[w.heap.size + 1 + 1]? = some C ∧
    (∀ p : Addr, p.block < w.heap.size → p.block ≠ g → ((((w.setCell ⟨g, 0, none⟩ v).alloc A).alloc B).alloc C).cell? p = w.cell? p) := by
  have hz : (w.setCell ⟨g, 0, none⟩ v).heap.size = w.heap.size := by simp [World.setCell]
  have b := below_alloc3 (w.setCell ⟨g, 0, none⟩ v) A B C
  refine ⟨fun k h1 h2 => (b.block k (by omega)).trans (Below.heap_setCell _ _ _ _ h2), ?_, ?_, ?_, fun p h1 h2 => (b.cell (by omega)).trans ?_⟩
  · rw [← hz]; exact blk_below (heap_alloc2_old _ A B) (below_alloc1 _ _)
  · rw [← hz]; exact blk_below (heap_alloc2_new _ A B) (below_alloc1 _ _)
  · rw [← hz]
    have := heap_alloc_new (((w.setCell ⟨g, 0, none⟩ v).alloc A).alloc B) C
    simpa using this
  · unfold World.cell?
    rw [Below.heap_setCell _ _ _ _ h2]
theorem judge_old (g : Nat → Value) (ho ep so ro mo ki me mm mc : Int) (hk : ki = 10 ∨ ki = 11) :
    (so ≠ ho → judge g ho ep so ro mo ki me mm mc = 20) ∧ (so = ho → me ≠ ep → judge g ho ep so ro mo ki me mm mc = 21) ∧
    (so = ho → me = ep → judge g ho ep so ro mo ki me mm mc = 0 ∨ judge g ho ep so ro mo ki me mm mc = 22 ∨ judge g ho ep so ro mo ki me mm mc = 23) := by
  unfold judge
  rw [if_neg (fun h => h hk)]
  refine ⟨fun h => if_pos h, fun h1 h2 => ?_, fun h1 h2 => ?_⟩
  · rw [if_neg (fun h => h h1), if_pos h2]
  · rw [if_neg (fun h => h h1), if_neg (fun h => h h2)]
    repeat' split
    all_goals simp
set_option maxRecDepth 100000 in
set_option maxHeartbeats 8000000 in
theorem walk_GateOld (v0 v1 v2 : Value) (w : World) (hcm : Cmds w) (q0 : IsPol w v0) (q1 : ∃ base, Value.okWide Tryd.prog w .any base 34 v1) (q2 : ∃ base, Value.okWide Tryd.prog w .any base 36 v2) :
    Calls Tryd.prog 4 #[v0, v1, v2] w fun e w' => e = .returned (.bool true) ∧ Below w.heap.size w w' := by
  obtain ⟨f, rfl, hp⟩ := q0
  obtain ⟨base, q1⟩ := q1
  obtain ⟨base2, q2⟩ := q2
  obtain ⟨ho, ep, t2, t3, t4, t5, t6, t7, so, ro, mo, rfl, a0, a1, -, -, -, -, -, a8, a9, a10⟩ := flat_from _ _ _ q1
  obtain ⟨ki, m1, m2, m3, me, mm, mc, m7, m8, m9, m10, m11, rfl, c0, -, -, -, c4, c5, c6, -⟩ := flat_msg _ _ _ q2
  clear q1 q2
  have HP := Lib.hid hp
  have HC := Lib.hid hcm
  clear hp hcm
  go_enter Tryd.func4, Tryd.ntmps4
  go_wp2_with fail
  refine (shown22 _ (HC.out.below (below_alloc3 w _ _ _))).mono ?_
  rintro e w1 ⟨rfl, b1⟩
  obtain ⟨z0, z1, z2, zb⟩ := judge_boxes b1
  have HC := Lib.hid (HC.out.below zb)
  have HF := Lib.hid z0
  have HX := Lib.hid z1
  have HY := Lib.hid z2
  have HB := Lib.hid zb
  clear b1 z0 z1 z2 zb
  go_wp2_with ((with_reducible show wpList _ _ _ (⟨_, .load 28 _, _, _, _, _⟩ :: _) _ _); refine wpList_load_pol rfl _ rfl w.heap.size f HF rfl ?_)
  have HP1 : PolOk w1 f := ⟨HP.out.int, fun i h1 h2 => by obtain ⟨A, xs, cap, e, l, c, r, n⟩ := HP.out.key i h1 h2; exact ⟨A, xs, cap, e, l, c, row_below r HB.out, n⟩⟩
  refine (fit_any f w1 HP1).mono ?_
  rintro e w2 ⟨⟨g, rfl, hf⟩, b2⟩
  have HF := Lib.hid hf
  have HC := Lib.hid (HC.out.below b2)
  have HX := Lib.hid (blk_below HX.out b2)
  have HY := Lib.hid (blk_below HY.out b2)
  have HB := Lib.hid (bt HB.out b2)
  clear b2 hf HP1 HP
  have hlt2 := blk_lt HY.out
  go_wp2_with (first
    | ((with_reducible show wpList _ _ _ (⟨_, .alloc 28, _, _, _, _⟩ :: _) _ _); refine wpList_alloc_pol rfl rfl ?_)
    | ((with_reducible show wpList _ _ _ (⟨_, .store 28 _ _, _, _, _, _⟩ :: _) _ _); refine wpList_store_pol rfl (.tmp 8) (.tmp 20) rfl _ _ _ rfl rfl rfl (fit_one HF.out) ?_; refine Marker.mk ?_))
  have bw := below_alloc1 w2 (.cells (mkc 56 g) 28)
  have HQ := Lib.hid (heap_alloc_new w2 (.cells (mkc 56 g) 28))
  have HC := Lib.hid (HC.out.below bw)
  have HX := Lib.hid (blk_below HX.out bw)
  have HY := Lib.hid (blk_below HY.out bw)
  have HB := Lib.hid (bt HB.out bw)
  clear bw
  generalize hgq : w2.heap.size = gq at *
  generalize w2.alloc (.cells (mkc 56 g) 28) = w3 at *
  clear hgq
  obtain ⟨cX, -⟩ := blk_cells HX.out
  obtain ⟨cY, -⟩ := blk_cells HY.out
  have HO := Lib.hid (fit_i64' HF.out)
  refine Marker.in ?_
  obtain ⟨oth, hoth, hne⟩ := xor_one ho
  obtain ⟨old, hold, hne2⟩ := xor_one ep
  obtain ⟨kk, hkk, hk⟩ : ∃ kk : Int, 10 + ki % 2 = kk ∧ (kk = 10 ∨ kk = 11) := ⟨_, rfl, by omega⟩
  obtain ⟨-, fY⟩ := blk_cells HY.out
  have hlt3 := blk_lt HQ.out
  have hlt4 : w.heap.size + 1 < w3.heap.size := by omega
  have hlt5 : w.heap.size + 1 + 1 < w3.heap.size := by omega
  have hlt6 : w.heap.size < w3.heap.size := by omega
  have hlt7 : w.heap.size < w3.heap.size + 1 := by omega
  have hlt8 : w.heap.size + 1 < w3.heap.size + 1 := by omega
  go_wp2_with ((with_reducible show wpList _ _ _ (⟨some 47, _, _, _, _, _⟩ :: _) _ _); refine Marker.mk ?_)
  have hgq2 : w.heap.size + 1 + 1 ≠ gq := by omega
  have hC4 := old_world (w := w3) (v := .int .i64 kk) (g := w.heap.size + 1 + 1) (A := .cells #[.int .i64 ho, .int .i64 ep, .int .i64 t2, .int .i64 t3, .int .i64 t4, .int .i64 t5, .int .i64 t6, .bool t7, .int .i64 ho, .int .i64 ro, .int .i64 mo] 34) (B := .cells #[.int .i64 kk, .int .i64 m1, .int .i64 m2, .int .i64 m3, .int .i64 ep, .int .i64 mm, .int .i64 mc, .bool m7, .int .i64 m8, .int .i64 m9, .int .i64 m10, .int .i64 m11] 36) (C := .cells #[.int .i64 kk, .int .i64 m1, .int .i64 m2, .int .i64 m3, .int .i64 old, .int .i64 mm, .int .i64 mc, .bool m7, .int .i64 m8, .int .i64 m9, .int .i64 m10, .int .i64 m11] 36)
  obtain ⟨k1, k2, k3, k4, k5⟩ := hC4
  have HQ := Lib.hid ((k1 _ hlt3 (fun h => hgq2 h.symm)).trans HQ.out)
  have HX := Lib.hid ((k1 _ hlt4 (by omega)).trans HX.out)
  have H9 := Lib.hid k2
  have H10 := Lib.hid k3
  have H13 := Lib.hid k4
  have HC : Hid (Cmds _) := Lib.hid (fun i hi => (k5 _ (by have := World.block_lt_of_cell? _ _ (HC.out i hi); simpa using this) (by first | (simp; done) | (simp; omega))).trans (HC.out i hi))
  have HB := Lib.hid ((((HB.out.setCell (p := ⟨w.heap.size + 1 + 1, 0, none⟩) (by simp; omega) (.int .i64 kk)).alloc (by simp [World.setCell]; omega) (.cells #[.int .i64 ho, .int .i64 ep, .int .i64 t2, .int .i64 t3, .int .i64 t4, .int .i64 t5, .int .i64 t6, .bool t7, .int .i64 ho, .int .i64 ro, .int .i64 mo] 34)).alloc (by simp [World.setCell]; omega) (.cells #[.int .i64 kk, .int .i64 m1, .int .i64 m2, .int .i64 m3, .int .i64 ep, .int .i64 mm, .int .i64 mc, .bool m7, .int .i64 m8, .int .i64 m9, .int .i64 m10, .int .i64 m11] 36)).alloc (by simp [World.setCell]; omega) (.cells #[.int .i64 kk, .int .i64 m1, .int .i64 m2, .int .i64 m3, .int .i64 old, .int .i64 mm, .int .i64 mc, .bool m7, .int .i64 m8, .int .i64 m9, .int .i64 m10, .int .i64 m11] 36))
  clear k1 k2 k3 k4 k5 cX cY fY
  generalize hw4 : (((w3.setCell ⟨w.heap.size + 1 + 1, 0, none⟩ (.int .i64 kk)).alloc _).alloc _).alloc _ = w4 at HQ HX H9 H10 H13 HC HB ⊢
  generalize w3.heap.size = z3 at *
  clear hw4 hlt2 hlt3 hlt4 hlt5 hlt6 hlt7 hlt8 hgq2
  obtain ⟨cX, -⟩ := blk_cells HX.out
  obtain ⟨c9, -⟩ := blk_cells H9.out
  obtain ⟨c10, -⟩ := blk_cells H10.out
  obtain ⟨c13, -⟩ := blk_cells H13.out
  have J1 := judge_old g ho ep oth ro mo kk ep mm mc hk
  have J2 := judge_old g ho ep ho ro mo kk old mm mc hk
  have J3 := judge_old g ho ep oth ro mo kk old mm mc hk
  have J4 := judge_old g ho ep ho ro mo kk ep mm mc hk
  have e1 := J1.1 hne
  have e2 := J2.2.1 rfl hne2
  have e3 := J3.1 hne
  have e4 := J4.2.2 rfl rfl
  clear J1 J2 J3 J4 hk hkk hoth hold
  refine Marker.in ?_
  rcases e4 with e4 | e4 | e4
  all_goals
    go_wp2_with (first
      | ((with_reducible show wpList _ _ _ (⟨_, .load 28 _, _, _, _, none⟩ :: _) _ _); (with_reducible refine wpList_load_at ?_ ?_ HQ ?_); (· exact wanted_none rfl); (· exact ⟨rfl, rfl⟩))
      | (go_at_call 8; ((with_reducible refine (judge_any g ho ep _ ro mo kk _ mm mc _ _ _ _ _ _ _ _ _ _ _ _ _ _ _ HO.out HC.out).mono ?_)); rintro e w5 ⟨rfl, b1⟩; have HC := Lib.hid (HC.out.below b1); have HQ := Lib.hid (blk_below HQ.out b1); have HX := Lib.hid (blk_below HX.out b1); have H9 := Lib.hid (blk_below H9.out b1); have H10 := Lib.hid (blk_below H10.out b1); have H13 := Lib.hid (blk_below H13.out b1); have HB := Lib.hid (bt HB.out b1); clear b1 cX c9 c10 c13; obtain ⟨cX, -⟩ := blk_cells HX.out; obtain ⟨c9, -⟩ := blk_cells H9.out; obtain ⟨c10, -⟩ := blk_cells H10.out; obtain ⟨c13, -⟩ := blk_cells H13.out))
    go_ret
    exact ⟨rfl, HB.out⟩
end Go.Proofs.YtcgaodencjcgnaaDoor
