/- The walk of GateOrders. -/
import Derived.Test.YtcgaodencjcgnaaDoorGateW
import Derived.Test.YtcgaodencjcgnaaDoorFlat3
import Derived.Deep.DeepCutAuto
namespace Go.Proofs.YtcgaodencjcgnaaDoor
open Go.RowKit

theorem i64_upd' {g : Nat → Value} (j : Nat) (n : Int) (i : Nat) (h0 : -9223372036854775808 ≤ n) (h1 : n ≤ 9223372036854775807) (h : I64 (g i)) : I64 (upd g j (.int .i64 n) i) := by
  unfold upd
  split
  · exact ⟨rfl, h0, h1⟩
  · exact h
theorem run_shl1 (c : Nat) (hc : c ≤ 4) : ∃ p : Int, p = 2 ^ c ∧ wrap64 ((2 : Int) ^ c) = p ∧ 1 ≤ p ∧ p ≤ 16 := by
  have : c = 0 ∨ c = 1 ∨ c = 2 ∨ c = 3 ∨ c = 4 := by omega
  rcases this with rfl | rfl | rfl | rfl | rfl
  · exact ⟨1, rfl, by kernel_rfl, by omega, by omega⟩
  · exact ⟨2, rfl, by kernel_rfl, by omega, by omega⟩
  · exact ⟨4, rfl, by kernel_rfl, by omega, by omega⟩
  · exact ⟨8, rfl, by kernel_rfl, by omega, by omega⟩
  · exact ⟨16, rfl, by kernel_rfl, by omega, by omega⟩
/-- What holds while the message and the policy are turned. -/
structure GS (B : World) (gq nt nm : Nat) (G : Nat → Value) (ki ep mm : Int) (w : World) : Prop where
  q : w.heap[gq]? = some (.cells (mkc 56 G) 28 (0, 0))
  t : w.heap[nt]? = some (.cells #[.int .i64 2, .int .i64 9, .int .i64 0, .int .i64 0, .int .i64 0, .int .i64 0, .int .i64 0, .bool false] 32 (0, 0))
  m : w.heap[nm]? = some (.cells #[.int .i64 ki, .int .i64 0, .int .i64 0, .int .i64 0, .int .i64 ep, .int .i64 mm, .int .i64 0, .bool false, .int .i64 0, .int .i64 0, .int .i64 0, .int .i64 0] 36 (0, 0))
  c : Cmds w
  b : Below B.heap.size B w
  lq : B.heap.size ≤ gq ∧ gq < nt ∧ nt < nm
  l0 : 0 < B.heap.size
theorem Cmds.set {w : World} (h : Cmds w) {p : Addr} (hp : 0 < p.block) (v : Value) : Cmds (w.setCell p v) := by
  intro i hi
  unfold World.cell?
  rw [Below.heap_setCell _ _ _ _ (by simp only [ne_eq]; omega)]
  exact h i hi
theorem GS.setM {B : World} {gq nt nm : Nat} {G : Nat → Value} {ki ep mm ki' ep' mm' : Int} {w : World} (h : GS B gq nt nm G ki ep mm w) (i : Nat) (v : Value)
    (he : (#[.int .i64 ki, .int .i64 0, .int .i64 0, .int .i64 0, .int .i64 ep, .int .i64 mm, .int .i64 0, .bool false, .int .i64 0, .int .i64 0, .int .i64 0, .int .i64 0] : Array Value).setIfInBounds i v = #[.int .i64 ki', .int .i64 0, .int .i64 0, .int .i64 0, .int .i64 ep', .int .i64 mm', .int .i64 0, .bool false, .int .i64 0, .int .i64 0, .int .i64 0, .int .i64 0]) :
    GS B gq nt nm G ki' ep' mm' (w.setCell ⟨nm, i, none⟩ v) := by
  obtain ⟨l1, l2, l3⟩ := h.lq
  have l0 := h.l0
  refine ⟨?_, ?_, ?_, h.c.set (by simp only; omega) v, h.b.setCell (p := ⟨nm, i, none⟩) (by simp only; omega) v, h.lq, h.l0⟩
  · rw [Below.heap_setCell _ _ _ _ (by simp only; omega)]; exact h.q
  · rw [Below.heap_setCell _ _ _ _ (by simp only; omega)]; exact h.t
  · rw [← he]; exact heap_set h.m i v
theorem GS.setQ {B : World} {gq nt nm : Nat} {G : Nat → Value} {ki ep mm : Int} {w : World} (h : GS B gq nt nm G ki ep mm w) (i : Nat) (v : Value) : GS B gq nt nm (upd G i v) ki ep mm (w.setCell ⟨gq, i, none⟩ v) := by
  obtain ⟨l1, l2, l3⟩ := h.lq
  have l0 := h.l0
  refine ⟨?_, ?_, ?_, h.c.set (by simp only; omega) v, h.b.setCell (p := ⟨gq, i, none⟩) (by simp only; omega) v, h.lq, h.l0⟩
  · rw [← mkc_set]; exact heap_set h.q i v
  · rw [Below.heap_setCell _ _ _ _ (by simp only; omega)]; exact h.t
  · rw [Below.heap_setCell _ _ _ _ (by simp only; omega)]; exact h.m
theorem GS.make {B w : World} {gq i j : Nat} {g : Nat → Value} {u v : Value} {mm : Int} (hq : w.heap[gq]? = some (.cells (mkc 56 g) 28 (0, 0))) (hc : Cmds w) (hb : Below B.heap.size B w) (hlq : B.heap.size ≤ gq) (h0 : 0 < B.heap.size) :
    GS B gq w.heap.size (w.heap.size + 1) (upd (upd g i u) j v) 10 9 mm ((((w.setCell ⟨gq, i, none⟩ u).setCell ⟨gq, j, none⟩ v).alloc (.cells #[.int .i64 2, .int .i64 9, .int .i64 0, .int .i64 0, .int .i64 0, .int .i64 0, .int .i64 0, .bool false] 32)).alloc
      (.cells #[.int .i64 10, .int .i64 0, .int .i64 0, .int .i64 0, .int .i64 9, .int .i64 mm, .int .i64 0, .bool false, .int .i64 0, .int .i64 0, .int .i64 0, .int .i64 0] 36)) := by
  have hz : ((w.setCell ⟨gq, i, none⟩ u).setCell ⟨gq, j, none⟩ v).heap.size = w.heap.size := by simp [World.setCell]
  have hlt := blk_lt hq
  have b2 := fun A C => below_alloc2 ((w.setCell ⟨gq, i, none⟩ u).setCell ⟨gq, j, none⟩ v) A C
  have bb : Below B.heap.size B ((w.setCell ⟨gq, i, none⟩ u).setCell ⟨gq, j, none⟩ v) := (hb.setCell (p := ⟨gq, i, none⟩) (by simp only; omega) u).setCell (p := ⟨gq, j, none⟩) (by simp only; omega) v
  refine ⟨?_, ?_, ?_, ?_, bt bb (b2 _ _), ⟨hlq, by omega, by omega⟩, h0⟩
  · rw [← mkc_set, ← mkc_set]
    exact blk_below (heap_set (heap_set hq i u) j v) (b2 _ _)
  · rw [← hz]; exact heap_alloc2_old _ _ _
  · rw [← hz]; exact heap_alloc2_new _ _ _
  · exact Cmds.below ((hc.set (by simp only; omega) u).set (by simp only; omega) v) (b2 _ _)
theorem judge_orders (g : Nat → Value) (a b c : Nat) (p : Int) (hp : p = 2 ^ c) (a3 : a ≤ 3) (b4 : b ≤ 4) (c4 : c ≤ 4) (b16 b8 e4 b2 b1 : Bool) :
    judge (if b8 then upd (upd (upd g (14 + b * 4 + a) (.int .i64 1)) (34 + b) (.int .i64 p)) (14 + b * 4 + a) (.int .i64 14) else upd (upd g (14 + b * 4 + a) (.int .i64 1)) (34 + b) (.int .i64 p)) 2 9 (if b2 then 1 else 2) a b (if b1 then 3 else 10) (if e4 then 8 else 9) (if b16 then ((c : Int) + 1) % 5 else c) 0
      = (if b1 then 1 else if b2 then 20 else if e4 then 21 else if b8 then 22 else if b16 then 23 else 0) := by
  have hm1 : may (upd (upd g (14 + b * 4 + a) (.int .i64 1)) (34 + b) (.int .i64 p)) b a 0 = true := by
    unfold may pn
    rw [Int.toNat_natCast, Int.toNat_natCast, upd_other _ _ _ _ (by omega), upd_same, show inb (b : Int) 5 = true from decide_eq_true (by omega), show inb (a : Int) 4 = true from decide_eq_true (by omega)]
    rfl
  have hm2 : may (upd (upd (upd g (14 + b * 4 + a) (.int .i64 1)) (34 + b) (.int .i64 p)) (14 + b * 4 + a) (.int .i64 14)) b a 0 = false := by
    unfold may pn
    rw [Int.toNat_natCast, Int.toNat_natCast, upd_same, show inb (b : Int) 5 = true from decide_eq_true (by omega), show inb (a : Int) 4 = true from decide_eq_true (by omega)]
    rfl
  have hg : ∀ x : Int, 0 ≤ x → x ≤ 4 → goes (upd (upd g (14 + b * 4 + a) (.int .i64 1)) (34 + b) (.int .i64 p)) b x = decide (x = c) := by
    intro x x0 x4
    unfold goes pn
    rw [Int.toNat_natCast, upd_same, show inb (b : Int) 5 = true from decide_eq_true (by omega), show inb x 5 = true from decide_eq_true (by omega)]
    subst hp
    obtain ⟨k, rfl⟩ := Int.eq_ofNat_of_zero_le x0
    have h1 : c = 0 ∨ c = 1 ∨ c = 2 ∨ c = 3 ∨ c = 4 := by omega
    have h2 : k = 0 ∨ k = 1 ∨ k = 2 ∨ k = 3 ∨ k = 4 := by omega
    rcases h1 with rfl | rfl | rfl | rfl | rfl <;> rcases h2 with rfl | rfl | rfl | rfl | rfl <;> rfl
  have hgc := hg c (by omega) (by omega)
  have hgn := hg (((c : Int) + 1) % 5) (by omega) (by omega)
  rw [decide_eq_true rfl] at hgc
  rw [decide_eq_false (by omega)] at hgn
  cases b1
  · cases b2
    · cases e4
      · cases b8
        · cases b16
          · simp [judge, hm1, hgc]
          · simp [judge, hm1, hgn]
        · simp [judge, hm2]
      · simp [judge]
    · simp [judge]
  · simp [judge]
set_option maxRecDepth 100000 in
set_option maxHeartbeats 3200000 in
theorem walk_GateOrders (v0 v1 v2 : Value) (w : World) (hcm : Cmds w) (q0 : IsPol w v0) (q1 : ∃ n : Int, v1 = .int .u8 n ∧ 0 ≤ n ∧ n ≤ 255) (q2 : ∃ base, Value.okWide Tryd.prog w .any base 44 v2) :
    Calls Tryd.prog 5 #[v0, v1, v2] w fun e w' => e = .returned (.bool true) ∧ Below w.heap.size w w' := by
  obtain ⟨f, rfl, hp⟩ := q0
  obtain ⟨n, rfl, n0, n1⟩ := q1
  obtain ⟨base, q2⟩ := q2
  obtain ⟨s0, s1, s2, rfl, h5, h6, h7, h8, h9, h10⟩ := flat_three _ _ _ q2
  clear q2
  obtain ⟨a, ha, a4⟩ : ∃ a : Nat, s0 % 4 = a ∧ a ≤ 3 := ⟨(s0 % 4).toNat, by omega, by omega⟩
  obtain ⟨b, hb, b4⟩ : ∃ a : Nat, s1 % 5 = a ∧ a ≤ 4 := ⟨(s1 % 5).toNat, by omega, by omega⟩
  obtain ⟨c, hc, c4⟩ : ∃ a : Nat, s2 % 5 = a ∧ a ≤ 4 := ⟨(s2 % 5).toNat, by omega, by omega⟩
  have HCM := Lib.hid hcm
  have HCM0 := Lib.hid hcm
  clear hcm
  have HP := Lib.hid hp
  have HA := Lib.hid ha
  have HB5 := Lib.hid hb
  have HC := Lib.hid hc
  clear hp ha hb hc
  go_enter Tryd.func5, Tryd.ntmps5
  go_wp2_with fail
  refine (shown22 _ (HCM.out.below (below_alloc2 w _ _))).mono ?_
  rintro e w1 ⟨rfl, b1⟩
  obtain ⟨z0, z1, zz⟩ := blk_two b1
  have HF := Lib.hid z0
  have HX := Lib.hid z1
  have HB := Lib.hid ((below_alloc2 w _ _).trans (b1.mono (by simp; omega)))
  have HCM := Lib.hid (HCM.out.below HB.out)
  clear b1 z0 z1
  go_wp2_with ((with_reducible show wpList _ _ _ (⟨_, .load 28 _, _, _, _, _⟩ :: _) _ _); refine wpList_load_pol rfl _ rfl w.heap.size f HF rfl ?_)
  have HP1 : PolOk w1 f := ⟨HP.out.int, fun i h1 h2 => by obtain ⟨A, xs, cap, e, l, c, r, n⟩ := HP.out.key i h1 h2; exact ⟨A, xs, cap, e, l, c, row_below r (HB.out.mono (Nat.le_refl _)), n⟩⟩
  refine (fit_any f w1 HP1).mono ?_
  rintro e w2 ⟨⟨g, rfl, hf⟩, b2⟩
  have HF := Lib.hid hf
  have HX := Lib.hid (blk_below HX.out b2)
  have HB := Lib.hid (bt HB.out b2)
  have HCM := Lib.hid (HCM.out.below b2)
  clear b2 hf HP1 HP
  have hlq := HB.out.size
  have HW : ∀ W : World, W = w2.alloc (.cells (mkc 56 g) 28) → Below w2.heap.size w2 W := by rintro W rfl; exact below_alloc1 _ _
  go_wp2_with (first
    | ((with_reducible show wpList _ _ _ (⟨_, .alloc 28, _, _, _, _⟩ :: _) _ _); refine wpList_alloc_pol rfl rfl ?_)
    | ((with_reducible show wpList _ _ _ (⟨_, .store 28 _ _, _, _, _, _⟩ :: _) _ _); refine wpList_store_pol rfl (.tmp 8) (.tmp 18) rfl _ _ _ rfl rfl rfl (fit_one HF.out) ?_; refine Marker.mk ?_))
  have HQ := Lib.hid (heap_alloc_new w2 (.cells (mkc 56 g) 28))
  have HX := Lib.hid (blk_below HX.out (below_alloc1 w2 (.cells (mkc 56 g) 28)))
  have HB := Lib.hid (bt HB.out (below_alloc1 w2 (.cells (mkc 56 g) 28)))
  have HCM := Lib.hid (HCM.out.below (below_alloc1 w2 (.cells (mkc 56 g) 28)))
  clear HW
  generalize hgq : w2.heap.size = gq at *
  generalize w2.alloc (.cells (mkc 56 g) 28) = w3 at *
  clear hgq
  obtain ⟨cX, -⟩ := blk_cells HX.out
  have HO' := Lib.hid (fit_i64' HF.out)
  have E1 := HA.out
  have E2 := HB5.out
  have E3 := HC.out
  have h00 : 0 < w.heap.size := by have := World.block_lt_of_cell? _ _ (HCM0.out 0 (by omega)); simpa using this
  obtain ⟨cQ, fQ⟩ := blk_cells HQ.out
  have l1 : 14 + b * 4 + a < 56 := by omega
  have l3 : 34 + b < 56 := by omega
  obtain ⟨p, hp, hsh, p0, p1⟩ := run_shl1 c c4
  have HPW := Lib.hid hp
  clear hp
  refine Marker.in ?_
  go_wp2_with ((with_reducible show wpList _ _ _ (⟨some 45, _, _, _, _, _⟩ :: _) _ _); refine Marker.mk ?_)
  have hg4 := GS.make (i := 14 + b * 4 + a) (j := 34 + b) (u := .int .i64 1) (v := .int .i64 p) (mm := (c : Int)) HQ.out HCM.out HB.out hlq h00
  clear hlq h00 cQ fQ
  generalize hG0 : upd (upd g (14 + b * 4 + a) (.int .i64 1)) (34 + b) (.int .i64 p) = G0 at hg4
  generalize w3.heap.size + 1 = nm at hg4 ⊢
  generalize w3.heap.size = nt at hg4 ⊢
  generalize (((w3.setCell ⟨gq, 14 + b * 4 + a, none⟩ (.int .i64 1)).setCell ⟨gq, 34 + b, none⟩ (.int .i64 p)).alloc _).alloc _ = w4 at hg4 ⊢
  have HGG := Lib.hid hG0
  clear hG0
  obtain ⟨b16, hb16⟩ : ∃ x, (bits .and .u8 n 16 != 0) = x := ⟨_, rfl⟩
  obtain ⟨b8, hb8⟩ : ∃ x, (bits .and .u8 n 8 != 0) = x := ⟨_, rfl⟩
  obtain ⟨e4, he4⟩ : ∃ x, (bits .and .u8 n 4 != 0) = x := ⟨_, rfl⟩
  obtain ⟨b2, hb2⟩ : ∃ x, (bits .and .u8 n 2 != 0) = x := ⟨_, rfl⟩
  obtain ⟨b1, hb1⟩ : ∃ x, (bits .and .u8 n 1 != 0) = x := ⟨_, rfl⟩
  have JO := Lib.hid (judge_orders g a b c p HPW.out a4 b4 c4 b16 b8 e4 b2 b1)
  rw [HGG.out] at JO
  have HG := Lib.hid hg4
  obtain ⟨cM, fM⟩ := blk_cells hg4.m
  clear hg4
  refine Marker.in ?_
  simp only [E1, E2, E3, hsh]
  clear E1 E2 E3 hsh
  go_upto_if 46 with (fail)
  go_cut [15] from 47 to 50 (fun s15 wx => s15 = .int .i64 (if b16 then 23 else 0) ∧ GS w gq nt nm G0 10 9 (if b16 then ((c : Int) + 1) % 5 else c) wx)
  case first =>
    cases b16
    · go_wp2_with fail
      go_meet
      exact ⟨rfl, HG.out⟩
    · go_wp2_with fail
      go_meet
      exact ⟨rfl, HG.out.setM 5 _ rfl⟩
  case rest =>
    obtain ⟨rfl, hg⟩ := hcut
    clear HG cM fM hb16
    have HG := Lib.hid hg
    obtain ⟨cQ, fQ⟩ := blk_cells hg.q
    clear hg
    go_upto_if 53 with (fail)
    go_cut [15] from 54 to 58 (fun s15 wx => s15 = .int .i64 (if b8 then 22 else if b16 then 23 else 0) ∧ GS w gq nt nm (if b8 then upd G0 (14 + b * 4 + a) (.int .i64 14) else G0) 10 9 (if b16 then ((c : Int) + 1) % 5 else c) wx)
    case first =>
      generalize (if b16 = true then ((c : Int) + 1) % 5 else c) = mm at *
      generalize (if b16 = true then (23 : Int) else 0) = x1 at *
      cases b8
      · go_wp2_with fail
        go_meet
        exact ⟨rfl, HG.out⟩
      · go_wp2_with fail
        go_meet
        exact ⟨rfl, HG.out.setQ _ _⟩
    case rest =>
      obtain ⟨rfl, hg⟩ := hcut
      clear HG cQ fQ hb8
      have HG := Lib.hid hg
      obtain ⟨cM, fM⟩ := blk_cells hg.m
      clear hg
      go_upto_if 61 with (fail)
      go_cut [15] from 62 to 62 (fun s15 wx => s15 = .int .i64 (if e4 then 21 else if b8 then 22 else if b16 then 23 else 0) ∧ GS w gq nt nm (if b8 then upd G0 (14 + b * 4 + a) (.int .i64 14) else G0) 10 (if e4 then 8 else 9) (if b16 then ((c : Int) + 1) % 5 else c) wx)
      case first =>
        generalize (if b16 = true then ((c : Int) + 1) % 5 else c) = mm at *
        generalize (if b8 = true then (22 : Int) else if b16 = true then (23 : Int) else 0) = x1 at *
        generalize (if b8 = true then upd G0 (14 + b * 4 + a) (.int .i64 14) else G0) = G1 at *
        cases e4
        · go_wp2_with fail
          go_meet
          exact ⟨rfl, HG.out⟩
        · go_wp2_with fail
          go_meet
          exact ⟨rfl, HG.out.setM 4 _ rfl⟩
      case rest =>
        obtain ⟨rfl, hg⟩ := hcut
        clear HG cM fM he4
        have HG := Lib.hid hg
        clear hg
        go_upto_if 65 with (fail)
        go_cut [14, 15] (fun s14 s15 wx => s14 = .int .i64 (if b2 then 1 else 2) ∧ s15 = .int .i64 (if b2 then 20 else if e4 then 21 else if b8 then 22 else if b16 then 23 else 0) ∧ GS w gq nt nm (if b8 then upd G0 (14 + b * 4 + a) (.int .i64 14) else G0) 10 (if e4 then 8 else 9) (if b16 then ((c : Int) + 1) % 5 else c) wx)
        case first =>
          generalize (if b16 = true then ((c : Int) + 1) % 5 else c) = mm at *
          generalize (if e4 = true then (21 : Int) else if b8 = true then (22 : Int) else if b16 = true then (23 : Int) else 0) = x1 at *
          generalize (if b8 = true then upd G0 (14 + b * 4 + a) (.int .i64 14) else G0) = G1 at *
          generalize (if e4 = true then (8 : Int) else 9) = ep at *
          cases b2
          · go_wp2_with fail
            go_meet
            exact ⟨rfl, rfl, HG.out⟩
          · go_wp2_with fail
            go_meet
            exact ⟨rfl, rfl, HG.out⟩
        case rest =>
          obtain ⟨rfl, rfl, hg⟩ := hcut
          clear HG hb2
          have HG := Lib.hid hg
          obtain ⟨cM, fM⟩ := blk_cells hg.m
          clear hg
          go_upto_if 68 with (fail)
          go_cut [15] from 69 to 69 (fun s15 wx => s15 = .int .i64 (if b1 then 1 else if b2 then 20 else if e4 then 21 else if b8 then 22 else if b16 then 23 else 0) ∧ GS w gq nt nm (if b8 then upd G0 (14 + b * 4 + a) (.int .i64 14) else G0) (if b1 then 3 else 10) (if e4 then 8 else 9) (if b16 then ((c : Int) + 1) % 5 else c) wx)
          case first =>
            generalize (if b16 = true then ((c : Int) + 1) % 5 else c) = mm at *
            generalize (if b2 = true then (20 : Int) else if e4 = true then (21 : Int) else if b8 = true then (22 : Int) else if b16 = true then (23 : Int) else 0) = x1 at *
            generalize (if b8 = true then upd G0 (14 + b * 4 + a) (.int .i64 14) else G0) = G1 at *
            generalize (if e4 = true then (8 : Int) else 9) = ep at *
            generalize (if b2 = true then (1 : Int) else 2) = so at *
            cases b1
            · go_wp2_with fail
              go_meet
              exact ⟨rfl, HG.out⟩
            · go_wp2_with fail
              go_meet
              exact ⟨rfl, HG.out.setM 0 _ rfl⟩
          case rest =>
            obtain ⟨rfl, hg⟩ := hcut
            clear HG cM fM hb1
            have HIN : Hid (∀ i, 9 ≤ i → i < 56 → I64 ((if b8 = true then upd G0 (14 + b * 4 + a) (.int .i64 14) else G0) i)) := by
              intro i h1 h2
              have h0 : I64 (G0 i) := by
                rw [← HGG.out]
                exact i64_upd' _ _ _ (by omega) (by omega) (i64_upd' _ _ _ (by omega) (by omega) (HO'.out i h1 h2))
              split
              · exact i64_upd' _ _ _ (by omega) (by omega) h0
              · exact h0
            generalize (if b1 = true then (1 : Int) else if b2 = true then (20 : Int) else if e4 = true then (21 : Int) else if b8 = true then (22 : Int) else if b16 = true then (23 : Int) else 0) = x1 at *
            generalize (if b16 = true then ((c : Int) + 1) % 5 else c) = mm at *
            generalize (if b8 = true then upd G0 (14 + b * 4 + a) (.int .i64 14) else G0) = G1 at *
            generalize (if e4 = true then (8 : Int) else 9) = ep at *
            generalize (if b2 = true then (1 : Int) else 2) = so at *
            generalize (if b1 = true then (3 : Int) else 10) = ki at *
            have HG := Lib.hid hg
            obtain ⟨cM, -⟩ := blk_cells hg.m
            obtain ⟨cT, -⟩ := blk_cells hg.t
            have HQ := Lib.hid hg.q
            have JE := JO.out
            clear hg
            go_wp2_with (first
              | ((with_reducible show wpList _ _ _ (⟨_, .load 28 _, _, _, _, _⟩ :: _) _ _); (with_reducible refine wpList_load_at ?_ ?_ HQ ?_); (· (simp [Region.wanted, yielded]; done)); (· exact ⟨rfl, rfl⟩))
              | (go_at_call 8; ((with_reducible refine (judge_any G1 2 9 so a b ki ep mm 0 _ _ _ _ _ _ _ _ _ _ _ _ _ _ _ HIN.out HG.out.c).mono ?_)); rintro e w5 ⟨rfl, b1'⟩))
            go_ret
            exact ⟨rfl, bt HG.out.b b1'⟩
end Go.Proofs.YtcgaodencjcgnaaDoor
