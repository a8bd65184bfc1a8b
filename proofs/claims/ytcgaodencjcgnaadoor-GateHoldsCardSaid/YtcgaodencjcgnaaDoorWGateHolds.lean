/- The walk of GateHolds. -/
import Derived.Test.YtcgaodencjcgnaaDoorGateW
import Derived.Deep.DeepCutAuto
namespace Go.Proofs.YtcgaodencjcgnaaDoor
open Go.RowKit

theorem judge_zero (g : Nat → Value) (ho ep so ro mo ki me mm mc : Int) :
    (judge g ho ep so ro mo ki me mm mc == 0) = ((so == ho) && (me == ep) && ((ki == 10) && may g mo ro 0 && goes g mo mm || (ki == 11) && may g mo ro mc)) := by
  unfold judge
  by_cases hk : ki = 10 ∨ ki = 11
  · rw [if_neg (fun h => h hk)]
    by_cases hs : so = ho
    · rw [if_neg (fun h => h hs)]
      by_cases he : me = ep
      · rw [if_neg (fun h => h he)]
        rcases hk with hk | hk
        · subst hk
          cases hm : may g mo ro 0 <;> cases hn : goes g mo mm <;> simp [hs, he, hm, hn]
        · subst hk
          cases hm : may g mo ro mc <;> simp [hs, he, hm]
      · rw [if_pos he]; simp [he]
    · rw [if_pos hs]; simp [hs]
  · rw [if_pos hk]
    have h1 : (ki == 10) = false := by simp; omega
    have h2 : (ki == 11) = false := by simp; omega
    simp [h1, h2]
set_option maxRecDepth 100000 in
set_option maxHeartbeats 8000000 in
theorem walk_GateHolds (v0 v1 v2 : Value) (w : World) (hcm : Cmds w) (q0 : IsPol w v0) (q1 : ∃ base, Value.okWide Tryd.prog w .any base 34 v1) (q2 : ∃ base, Value.okWide Tryd.prog w .any base 36 v2) :
    Calls Tryd.prog 3 #[v0, v1, v2] w fun e w' => e = .returned (.bool true) ∧ Below w.heap.size w w' := by
  obtain ⟨f, rfl, hp⟩ := q0
  obtain ⟨base, q1⟩ := q1
  obtain ⟨base2, q2⟩ := q2
  obtain ⟨ho, ep, t2, t3, t4, t5, t6, t7, so, ro, mo, rfl, a0, a1, -, -, -, -, -, a8, a9, a10⟩ := flat_from _ _ _ q1
  obtain ⟨ki, m1, m2, m3, me, mm, mc, m7, m8, m9, m10, m11, rfl, c0, -, -, -, c4, c5, c6, -⟩ := flat_msg _ _ _ q2
  clear q1 q2
  have HP := Lib.hid hp
  have HC := Lib.hid hcm
  clear hp hcm
  go_enter Tryd.func3, Tryd.ntmps3
  go_wp2_with fail
  refine (shown22 _ (HC.out.below (below_alloc3 w _ _ _))).mono ?_
  rintro e w1 ⟨rfl, b1⟩
  obtain ⟨z0, z1, z2, zb⟩ := judge_boxes b1
  have HC := Lib.hid (HC.out.below zb)
  have HF := Lib.hid z0
  have HX := Lib.hid z1
  have HY := Lib.hid z2
  have HB := Lib.hid zb
  clear b1 z0 z1 z2 zb
  go_wp2_with ((with_reducible show wpList _ _ _ (⟨_, .load 28 _, _, _, _, _⟩ :: _) _ _); refine wpList_load_pol rfl _ rfl w.heap.size f HF rfl ?_)
  have HP1 : PolOk w1 f := ⟨HP.out.int, fun i h1 h2 => by obtain ⟨A, xs, cap, e, l, c, r, n⟩ := HP.out.key i h1 h2; exact ⟨A, xs, cap, e, l, c, row_below r HB.out, n⟩⟩
  refine (fit_any f w1 HP1).mono ?_
  rintro e w2 ⟨⟨g, rfl, hf⟩, b2⟩
  have HF := Lib.hid hf
  have HC := Lib.hid (HC.out.below b2)
  have HX := Lib.hid (blk_below HX.out b2)
  have HY := Lib.hid (blk_below HY.out b2)
  have HB := Lib.hid (bt HB.out b2)
  clear b2 hf HP1 HP
  go_wp2_with (first
    | ((with_reducible show wpList _ _ _ (⟨_, .alloc 28, _, _, _, _⟩ :: _) _ _); refine wpList_alloc_pol rfl rfl ?_)
    | ((with_reducible show wpList _ _ _ (⟨_, .store 28 _ _, _, _, _, _⟩ :: _) _ _); refine wpList_store_pol rfl (.tmp 8) (.tmp 14) rfl _ _ _ rfl rfl rfl (fit_one HF.out) ?_; refine Marker.mk ?_))
  have bw := below_alloc1 w2 (.cells (mkc 56 g) 28)
  have HQ := Lib.hid (heap_alloc_new w2 (.cells (mkc 56 g) 28))
  have HC := Lib.hid (HC.out.below bw)
  have HX := Lib.hid (blk_below HX.out bw)
  have HY := Lib.hid (blk_below HY.out bw)
  have HB := Lib.hid (bt HB.out bw)
  clear bw
  generalize hgq : w2.heap.size = gq at *
  generalize w2.alloc (.cells (mkc 56 g) 28) = w3 at *
  clear hgq
  obtain ⟨cX, -⟩ := blk_cells HX.out
  obtain ⟨cY, -⟩ := blk_cells HY.out
  have HO := Lib.hid (fit_i64' HF.out)
  refine Marker.in ?_
  obtain ⟨j, hj⟩ : ∃ j, (judge g ho ep so ro mo ki me mm mc == 0) = j := ⟨_, rfl⟩
  obtain ⟨mb, hmb⟩ : ∃ mb, ((ki == 10) && may g mo ro 0 && goes g mo mm) = mb := ⟨_, rfl⟩
  obtain ⟨pb, hpb⟩ : ∃ pb, ((ki == 11) && may g mo ro mc) = pb := ⟨_, rfl⟩
  have hz := judge_zero g ho ep so ro mo ki me mm mc
  rw [hmb, hpb, hj] at hz
  have HZ := Lib.hid hz
  have hk : (ki = 10 ∧ (ki == 10) = true ∧ (ki == 11) = false ∧ pb = false ∧ (may g mo ro 0 = false ∧ mb = false ∨ may g mo ro 0 = true ∧ goes g mo mm = mb)) ∨ (ki = 11 ∧ (ki == 10) = false ∧ (ki == 11) = true ∧ mb = false ∧ may g mo ro mc = pb) ∨ ((ki == 10) = false ∧ (ki == 11) = false ∧ mb = false ∧ pb = false) := by
    by_cases h10 : ki = 10
    · subst h10
      refine .inl ⟨rfl, rfl, rfl, by rw [← hpb]; rfl, ?_⟩
      cases hm : may g mo ro 0
      · exact .inl ⟨rfl, by rw [← hmb, hm]; rfl⟩
      · exact .inr ⟨rfl, by rw [← hmb, hm]; rfl⟩
    · by_cases h11 : ki = 11
      · subst h11
        exact .inr (.inl ⟨rfl, rfl, rfl, by rw [← hmb]; rfl, by rw [← hpb]; rfl⟩)
      · have e1 : (ki == 10) = false := by simpa using h10
        have e2 : (ki == 11) = false := by simpa using h11
        exact .inr (.inr ⟨e1, e2, by rw [← hmb, e1]; rfl, by rw [← hpb, e2]; rfl⟩)
  clear hz hmb hpb
  have WX := Lib.hid HX.out
  have WY := Lib.hid HY.out
  go_upto_region 3 with fail
  go_cut [9] (fun a wx => a = .bool j ∧ wx.heap[gq]? = some (.cells (mkc 56 g) 28 (0, 0)) ∧ wx.heap[w.heap.size + 1]? = w3.heap[w.heap.size + 1]? ∧ wx.heap[w.heap.size + 2]? = w3.heap[w.heap.size + 2]? ∧ Below w.heap.size w wx)
  case first =>
    clear hk
    go_wp2_with (first
      | go_skip
      | ((with_reducible show wpList _ _ _ (⟨_, .load 28 _, _, _, _, none⟩ :: _) _ _); (with_reducible refine wpList_load_at ?_ ?_ HQ ?_); (· exact wanted_none rfl); (· exact ⟨rfl, rfl⟩))
      | ((with_reducible show wpList _ _ _ (⟨_, .load 28 _, _, _, _, some _⟩ :: _) _ _); (with_reducible refine wpList_load_at ?_ ?_ HQ ?_); (· (simp [Region.wanted, yielded]; done)); (· exact ⟨rfl, rfl⟩))
      | ((with_reducible show wpList _ _ _ (⟨_, .load 28 _, _, _, _, some _⟩ :: _) _ _); (with_reducible refine wpList_skip ?_ ?_); (· (simp [Region.wanted, yielded]; done)))
      | (go_at_call 8; ((with_reducible refine (judge_any g ho ep so ro mo _ me mm mc _ _ _ _ _ _ _ _ _ _ _ _ _ _ _ HO.out HC.out).mono ?_)); rintro e w4 ⟨rfl, b1⟩; have HC := Lib.hid (HC.out.below b1); have HQ := Lib.hid (blk_below HQ.out b1); have HX := Lib.hid (blk_below HX.out b1); have HY := Lib.hid (blk_below HY.out b1); have HB := Lib.hid (bt HB.out b1); clear b1 cX cY; obtain ⟨cX, -⟩ := blk_cells HX.out; obtain ⟨cY, -⟩ := blk_cells HY.out)
      | (go_at_call 9; ((with_reducible refine (may_any g _ _ _ _ HO.out).mono ?_)); rintro e w4 ⟨rfl, b1⟩; have HQ := Lib.hid (blk_below HQ.out b1); have HX := Lib.hid (blk_below HX.out b1); have HY := Lib.hid (blk_below HY.out b1); have HB := Lib.hid (bt HB.out b1); clear b1 cX cY; obtain ⟨cX, -⟩ := blk_cells HX.out; obtain ⟨cY, -⟩ := blk_cells HY.out)
      | (go_at_call 10; ((with_reducible refine (goes_any g _ _ _ HO.out).mono ?_)); rintro e w4 ⟨rfl, b1⟩; have HQ := Lib.hid (blk_below HQ.out b1); have HX := Lib.hid (blk_below HX.out b1); have HY := Lib.hid (blk_below HY.out b1); have HB := Lib.hid (bt HB.out b1); clear b1 cX cY; obtain ⟨cX, -⟩ := blk_cells HX.out; obtain ⟨cY, -⟩ := blk_cells HY.out))
    go_meet
    exact ⟨rfl, HQ.out, HX.out.trans WX.out.symm, HY.out.trans WY.out.symm, HB.out⟩
  case rest =>
    obtain ⟨rfl, hq, hx, hy, hb⟩ := hcut
    have HQ := Lib.hid hq
    have HX := Lib.hid (hx.trans WX.out)
    have HY := Lib.hid (hy.trans WY.out)
    have HB := Lib.hid hb
    clear hq hx hy hb cX cY
    obtain ⟨cX, -⟩ := blk_cells HX.out
    obtain ⟨cY, -⟩ := blk_cells HY.out
    clear hj
    go_upto_region 4 with fail
    go_cut [10] (fun a wx => a = .bool mb ∧ wx.heap[gq]? = some (.cells (mkc 56 g) 28 (0, 0)) ∧ wx.heap[w.heap.size + 1]? = w3.heap[w.heap.size + 1]? ∧ wx.heap[w.heap.size + 2]? = w3.heap[w.heap.size + 2]? ∧ Below w.heap.size w wx)
    case first =>
      rcases hk with ⟨rfl, k1, k2, rfl, ⟨k3, rfl⟩ | ⟨k3, k4⟩⟩ | ⟨rfl, k1, k2, rfl, k3⟩ | ⟨k1, k2, rfl, rfl⟩
      all_goals
        go_wp2_with (first
          | go_skip
          | ((with_reducible show wpList _ _ _ (⟨_, .load 28 _, _, _, _, none⟩ :: _) _ _); (with_reducible refine wpList_load_at ?_ ?_ HQ ?_); (· exact wanted_none rfl); (· exact ⟨rfl, rfl⟩))
          | ((with_reducible show wpList _ _ _ (⟨_, .load 28 _, _, _, _, some _⟩ :: _) _ _); (with_reducible refine wpList_load_at ?_ ?_ HQ ?_); (· (simp [Region.wanted, yielded]; done)); (· exact ⟨rfl, rfl⟩))
          | ((with_reducible show wpList _ _ _ (⟨_, .load 28 _, _, _, _, some _⟩ :: _) _ _); (with_reducible refine wpList_skip ?_ ?_); (· (simp [Region.wanted, yielded]; done)))
          | (go_at_call 8; ((with_reducible refine (judge_any g ho ep so ro mo _ me mm mc _ _ _ _ _ _ _ _ _ _ _ _ _ _ _ HO.out HC.out).mono ?_)); rintro e w4 ⟨rfl, b1⟩; have HC := Lib.hid (HC.out.below b1); have HQ := Lib.hid (blk_below HQ.out b1); have HX := Lib.hid (blk_below HX.out b1); have HY := Lib.hid (blk_below HY.out b1); have HB := Lib.hid (bt HB.out b1); clear b1 cX cY; obtain ⟨cX, -⟩ := blk_cells HX.out; obtain ⟨cY, -⟩ := blk_cells HY.out)
          | (go_at_call 9; ((with_reducible refine (may_any g _ _ _ _ HO.out).mono ?_)); rintro e w4 ⟨rfl, b1⟩; have HQ := Lib.hid (blk_below HQ.out b1); have HX := Lib.hid (blk_below HX.out b1); have HY := Lib.hid (blk_below HY.out b1); have HB := Lib.hid (bt HB.out b1); clear b1 cX cY; obtain ⟨cX, -⟩ := blk_cells HX.out; obtain ⟨cY, -⟩ := blk_cells HY.out)
          | (go_at_call 10; ((with_reducible refine (goes_any g _ _ _ HO.out).mono ?_)); rintro e w4 ⟨rfl, b1⟩; have HQ := Lib.hid (blk_below HQ.out b1); have HX := Lib.hid (blk_below HX.out b1); have HY := Lib.hid (blk_below HY.out b1); have HB := Lib.hid (bt HB.out b1); clear b1 cX cY; obtain ⟨cX, -⟩ := blk_cells HX.out; obtain ⟨cY, -⟩ := blk_cells HY.out))
        go_meet
        exact ⟨rfl, HQ.out, HX.out.trans WX.out.symm, HY.out.trans WY.out.symm, HB.out⟩
    case rest =>
      obtain ⟨rfl, hq, hx, hy, hb⟩ := hcut
      have HQ := Lib.hid hq
      have HX := Lib.hid (hx.trans WX.out)
      have HY := Lib.hid (hy.trans WY.out)
      have HB := Lib.hid hb
      clear hq hx hy hb cX cY
      obtain ⟨cX, -⟩ := blk_cells HX.out
      obtain ⟨cY, -⟩ := blk_cells HY.out
      go_upto_region 5 with fail
      go_cut [11] (fun a wx => a = .bool pb ∧ wx.heap[gq]? = some (.cells (mkc 56 g) 28 (0, 0)) ∧ wx.heap[w.heap.size + 1]? = w3.heap[w.heap.size + 1]? ∧ wx.heap[w.heap.size + 2]? = w3.heap[w.heap.size + 2]? ∧ Below w.heap.size w wx)
      case first =>
        rcases hk with ⟨rfl, k1, k2, rfl, ⟨k3, rfl⟩ | ⟨k3, k4⟩⟩ | ⟨rfl, k1, k2, rfl, k3⟩ | ⟨k1, k2, rfl, rfl⟩
        all_goals
          go_wp2_with (first
            | go_skip
            | ((with_reducible show wpList _ _ _ (⟨_, .load 28 _, _, _, _, none⟩ :: _) _ _); (with_reducible refine wpList_load_at ?_ ?_ HQ ?_); (· exact wanted_none rfl); (· exact ⟨rfl, rfl⟩))
            | ((with_reducible show wpList _ _ _ (⟨_, .load 28 _, _, _, _, some _⟩ :: _) _ _); (with_reducible refine wpList_load_at ?_ ?_ HQ ?_); (· (simp [Region.wanted, yielded]; done)); (· exact ⟨rfl, rfl⟩))
            | ((with_reducible show wpList _ _ _ (⟨_, .load 28 _, _, _, _, some _⟩ :: _) _ _); (with_reducible refine wpList_skip ?_ ?_); (· (simp [Region.wanted, yielded]; done)))
            | (go_at_call 8; ((with_reducible refine (judge_any g ho ep so ro mo _ me mm mc _ _ _ _ _ _ _ _ _ _ _ _ _ _ _ HO.out HC.out).mono ?_)); rintro e w4 ⟨rfl, b1⟩; have HC := Lib.hid (HC.out.below b1); have HQ := Lib.hid (blk_below HQ.out b1); have HX := Lib.hid (blk_below HX.out b1); have HY := Lib.hid (blk_below HY.out b1); have HB := Lib.hid (bt HB.out b1); clear b1 cX cY; obtain ⟨cX, -⟩ := blk_cells HX.out; obtain ⟨cY, -⟩ := blk_cells HY.out)
            | (go_at_call 9; ((with_reducible refine (may_any g _ _ _ _ HO.out).mono ?_)); rintro e w4 ⟨rfl, b1⟩; have HQ := Lib.hid (blk_below HQ.out b1); have HX := Lib.hid (blk_below HX.out b1); have HY := Lib.hid (blk_below HY.out b1); have HB := Lib.hid (bt HB.out b1); clear b1 cX cY; obtain ⟨cX, -⟩ := blk_cells HX.out; obtain ⟨cY, -⟩ := blk_cells HY.out)
            | (go_at_call 10; ((with_reducible refine (goes_any g _ _ _ HO.out).mono ?_)); rintro e w4 ⟨rfl, b1⟩; have HQ := Lib.hid (blk_below HQ.out b1); have HX := Lib.hid (blk_below HX.out b1); have HY := Lib.hid (blk_below HY.out b1); have HB := Lib.hid (bt HB.out b1); clear b1 cX cY; obtain ⟨cX, -⟩ := blk_cells HX.out; obtain ⟨cY, -⟩ := blk_cells HY.out))
          go_meet
          exact ⟨rfl, HQ.out, HX.out.trans WX.out.symm, HY.out.trans WY.out.symm, HB.out⟩
      case rest =>
        obtain ⟨rfl, hq, hx, hy, hb⟩ := hcut
        have HQ := Lib.hid hq
        have HX := Lib.hid (hx.trans WX.out)
        have HY := Lib.hid (hy.trans WY.out)
        have HB := Lib.hid hb
        clear hq hx hy hb cX cY
        obtain ⟨cX, -⟩ := blk_cells HX.out
        obtain ⟨cY, -⟩ := blk_cells HY.out
        clear hk
        have hv : ((so == ho) = false ∧ j = false) ∨ ((so == ho) = true ∧ (me == ep) = false ∧ j = false) ∨ ((so == ho) = true ∧ (me == ep) = true ∧ mb = true ∧ j = true) ∨ ((so == ho) = true ∧ (me == ep) = true ∧ mb = false ∧ j = pb) := by
          have := HZ.out
          cases h1 : so == ho
          · exact .inl ⟨rfl, by rw [this, h1]; rfl⟩
          · cases h2 : me == ep
            · exact .inr (.inl ⟨rfl, rfl, by rw [this, h1, h2]; rfl⟩)
            · cases mb
              · exact .inr (.inr (.inr ⟨rfl, rfl, rfl, by rw [this, h1, h2]; rfl⟩))
              · exact .inr (.inr (.inl ⟨rfl, rfl, rfl, by rw [this, h1, h2]; rfl⟩))
        rcases hv with ⟨h1, rfl⟩ | ⟨h1, h2, rfl⟩ | ⟨h1, h2, rfl, rfl⟩ | ⟨h1, h2, rfl, rfl⟩
        all_goals
          go_wp2_with fail
          go_ret
          exact ⟨by first | rfl | simp, HB.out⟩
end Go.Proofs.YtcgaodencjcgnaaDoor
