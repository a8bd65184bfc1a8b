/- The walk of WindowMoved. -/
import Derived.Test.YtchbejkmnbbakaaWin
import Derived.Deep.RegionWith
import Derived.Deep.DeepCutAuto
namespace Go.Proofs.Ytchbejkmnbbakaa
open Go.RowKit

theorem row_u16 {w : World} {v : Value} (h : IsRow .u16 w v) : ∃ (A : Option Addr) (len cap : Nat) (z : Nat → Nat), v = .slice A len cap ∧ len ≤ 9223372036854775807 ∧
    ∀ i, i < len → ∃ b off, A = some ⟨b, off, none⟩ ∧ b < w.heap.size ∧ w.cell? ⟨b, off + i, none⟩ = some (.int .u16 (z i)) ∧ z i ≤ 65535 := by
  rcases h with rfl | ⟨x, len, cap, zs, rfl, hx, hl, hc, hz, hcell, hw⟩
  · exact ⟨none, 0, 0, fun _ => 0, rfl, by omega, fun i hi => by omega⟩
  · refine ⟨some x, len, cap, fun i => (zs.getD i 0).toNat, rfl, by omega, fun i hi => ?_⟩
    obtain ⟨hb, hs⟩ := hx (by omega)
    obtain ⟨b, off, spot⟩ := x
    simp at hs
    subst hs
    have h1 := hcell i (by omega)
    have e : (⟨b, off, none⟩ : Addr).add i = ⟨b, off + i, none⟩ := by unfold Addr.add; split <;> simp_all
    rw [e] at h1
    have hm : zs.getD i 0 ∈ zs := by
      rw [List.getD, List.getElem?_eq_getElem (by omega)]; exact List.getElem_mem _
    have h2 := hw _ hm
    have e1 : IntKind.u16.min = 0 := rfl
    have e2 : IntKind.u16.max = 65535 := rfl
    simp only [Lit.wf, Bool.and_eq_true, decide_eq_true_eq] at h2
    have e3 : (((zs.getD i 0).toNat : Nat) : Int) = zs.getD i 0 := Int.toNat_of_nonneg (by omega)
    have e4 : (zs.getD i 0).toNat ≤ 65535 := by omega
    exact ⟨b, off, rfl, hb, by rw [h1, e3], e4⟩

/-- the cells of a window -/
def wcells (v : Option (Nat × Nat)) : Array Value := match v with
  | none => #[.bool false, .int .i64 0, .int .u64 0]
  | some (h, s) => #[.bool true, .int .i64 h, .int .u64 s]
theorem wval_cells (v : Option (Nat × Nat)) : wval v = .agg (wcells v) := by rcases v with _ | ⟨h, s⟩ <;> rfl

set_option maxRecDepth 100000 in
set_option maxHeartbeats 400000 in
theorem shown10 (w : World) : Calls Try.prog 19 #[] w fun e w' => e = .returned (.bool true) ∧ Below w.heap.size w w' := by
  have e1 : wval (wsee none 5).1 = .agg #[.bool true, .int .i64 5, .int .u64 1] := rfl
  go_enter Try.func19, Try.ntmps19
  go_wp2_with fail
  refine (see_any none 5 _ trivial (by omega)).mono ?_
  rintro e w1 ⟨rfl, b1⟩
  rw [show wval (wsee none 5).1 = .agg #[.bool true, .int .i64 5, .int .u64 1] from rfl, show (wsee none 5).2 = true from rfl]
  go_wp2_with fail
  refine (see_any (some (5, 1)) 7 _ ⟨by omega, by omega⟩ (by omega)).mono ?_
  rintro e w2 ⟨rfl, b2⟩
  rw [show wval (wsee (some (5, 1)) 7).1 = .agg #[.bool true, .int .i64 7, .int .u64 5] from rfl, show (wsee (some (5, 1)) 7).2 = true from rfl]
  go_wp2_with fail
  refine (see_any (some (7, 5)) 6 _ ⟨by omega, by omega⟩ (by omega)).mono ?_
  rintro e w3 ⟨rfl, b3⟩
  rw [show wval (wsee (some (7, 5)) 6).1 = .agg #[.bool true, .int .i64 7, .int .u64 7] from rfl, show (wsee (some (7, 5)) 6).2 = true from rfl]
  obtain ⟨q2, z2⟩ := blk_one b2
  obtain ⟨q3, z3⟩ := blk_one b3
  obtain ⟨c3, -⟩ := blk_cells q3
  go_wp2_with fail
  refine (see_any (some (7, 5)) 7 _ ⟨by omega, by omega⟩ (by omega)).mono ?_
  rintro e w4 ⟨rfl, b4⟩
  rw [show wval (wsee (some (7, 5)) 7).1 = .agg #[.bool true, .int .i64 7, .int .u64 5] from rfl, show (wsee (some (7, 5)) 7).2 = false from rfl]
  obtain ⟨-, z4⟩ := blk_one b4
  have q4 := blk_below q3 (below_box b4)
  obtain ⟨c4, -⟩ := blk_cells q4
  have zz : w2.heap.size < w4.heap.size := by omega
  have B := Lib.hid (below_next (below_next (below_next b1 (below_box b2) (Nat.le_refl _)) (below_box b3) (Nat.le_refl _)) (below_box b4) (Nat.le_refl _))
  clear q2 q3 q4 c3 b1 b2 b3 b4
  go_wp2
  go_ret
  exact ⟨rfl, B.out.alloc (by have := B.out.size; omega) _⟩

/-- The two windows go together. -/
def Moved (far : Nat) : Option (Nat × Nat) → Option (Nat × Nat) → Prop
  | none, none => True
  | some (h, s), some (h', s') => h' = h + far ∧ s' = s ∧ h ≤ 65535 ∧ s < 2 ^ 64
  | _, _ => False
theorem moved_step {far n : Nat} {v w : Option (Nat × Nat)} (h : Moved far v w) (hn : n ≤ 65535) :
    ∃ h s f, (wsee v n) = (some (h, s), f) ∧ (wsee w (n + far)) = (some (h + far, s), f) ∧ h ≤ 65535 ∧ s < 2 ^ 64 := by
  rcases v with _ | ⟨h0, s0⟩ <;> rcases w with _ | ⟨h1, s1⟩
  · exact ⟨n, 1, true, rfl, rfl, hn, by omega⟩
  · exact h.elim
  · exact h.elim
  · obtain ⟨rfl, rfl, hh, hs⟩ := h
    by_cases c1 : h0 < n
    · refine ⟨n, _, true, by simp only [wsee, if_pos c1]; rfl, ?_, hn, ?_⟩
      · simp only [wsee]
        rw [if_pos (by omega), show n + far - (h0 + far) = n - h0 from by omega]
      · exact Nat.or_lt_two_pow (Nat.mod_lt _ (by omega)) (by omega)
    · by_cases c2 : h0 - n < 64
      · refine ⟨h0, _, _, by simp only [wsee, if_neg c1, if_pos c2]; rfl, ?_, hh, ?_⟩
        · simp only [wsee]
          rw [if_neg (by omega), if_pos (by omega), show h0 + far - (n + far) = h0 - n from by omega]
        · exact Nat.or_lt_two_pow hs (Nat.pow_lt_pow_right (by omega) c2)
      · refine ⟨h0, s1, false, by simp only [wsee, if_neg c1, if_neg c2], ?_, hh, hs⟩
        simp only [wsee]
        rw [if_neg (by omega), if_neg (by omega)]
theorem moved_ok {far : Nat} (hf : far ≤ 4294901760) {v w : Option (Nat × Nat)} (h : Moved far v w) : wok v ∧ wok w := by
  rcases v with _ | ⟨h0, s0⟩ <;> rcases w with _ | ⟨h1, s1⟩
  · exact ⟨trivial, trivial⟩
  · exact h.elim
  · exact h.elim
  · obtain ⟨rfl, rfl, hh, hs⟩ := h
    exact ⟨⟨by omega, hs⟩, ⟨by omega, hs⟩⟩

theorem wcells_three (v : Option (Nat × Nat)) : ∃ x y z, wcells v = #[x, y, z] ∧ wval v = .agg #[x, y, z] := by
  rcases v with _ | ⟨h, s⟩
  · exact ⟨_, _, _, rfl, rfl⟩
  · exact ⟨_, _, _, rfl, rfl⟩

def IsSee (a : Value) (k : Int) (r : Value) (f : Bool) : Prop := ∀ w, Calls Try.prog 20 #[a, .int .i64 k] w fun e w' => e = .returned (.tuple #[r, .bool f]) ∧ Below w.heap.size w w'

set_option maxRecDepth 100000 in
set_option maxHeartbeats 6400000 in
theorem walk_WindowMoved (v0 v1 : Value) (w : World) (q0 : IsRow .u16 w v0) (q1 : ∃ n : Int, v1 = .int .u32 n ∧ 0 ≤ n ∧ n ≤ 4294967295) :
    Calls Try.prog 5 #[v0, v1] w fun e w' => e = .returned (.bool true) ∧ Below w.heap.size w w' := by
  obtain ⟨A, len, cap, z, rfl, hlen, hrow⟩ := row_u16 q0
  obtain ⟨by_, rfl, h1, h2⟩ := q1
  obtain ⟨far, hfar⟩ : ∃ far : Nat, by_ % 4294901760 = far := ⟨(by_ % 4294901760).toNat, by omega⟩
  have hf : far ≤ 4294901759 := by omega
  have HROW := Lib.hid hrow
  clear hrow q0
  go_enter Try.func5, Try.ntmps5
  go_wp2_with fail
  refine (shown10 w).mono ?_
  rintro e w0 ⟨rfl, b0⟩
  go_wp2
  simp only [hfar]
  clear hfar
  go_loopw [9] (fun y wr => ∃ (i : Nat) (v u : Option (Nat × Nat)), i ≤ len ∧ y = .int .i64 i ∧ Moved far v u ∧ wr.heap[w0.heap.size]? = some (.cells (wcells v) 39 (0, 0)) ∧ wr.heap[w0.heap.size + 1]? = some (.cells (wcells u) 39 (0, 0)) ∧ Below w0.heap.size w0 wr) (fun y _ => len - (intOf y).toNat)
  case atStart => exact ⟨0, none, none, by omega, rfl, trivial, heap_alloc2_old _ _ _, heap_alloc2_new _ _ _, below_alloc2 _ _ _⟩
  case round =>
    obtain ⟨i, v, u, hi, rfl, hm, hV, hU, hB⟩ := hrel
    by_cases hlt : i < len ∧ i < 100
    · obtain ⟨hlt, h100⟩ := hlt
      obtain ⟨b, off, rfl, hb, hc, hz⟩ := HROW.out i hlt
      obtain ⟨h', s', f, e1, e2, g1, g2⟩ := moved_step hm hz
      obtain ⟨k1, k2⟩ := moved_ok (by omega) hm
      have hc' : wr.cell? ⟨b, off + i, none⟩ = some (.int .u16 (z i)) := by
        rw [hB.cell (p := ⟨b, off + i, none⟩) (by have := b0.size; simp; omega), b0.cell (p := ⟨b, off + i, none⟩) (by simpa using hb)]; exact hc
      have z1 : w0.heap.size + 1 < wr.heap.size := blk_lt hU
      have z0 : w0.heap.size < wr.heap.size := by omega
      have zb : b < wr.heap.size := by have := b0.size; omega
      have w1 : IntKind.i64.wrap (z i : Int) = (z i : Int) := IntWalk.i64_in _ ⟨by omega, by omega⟩
      have w2 : IntKind.i64.wrap ((z i : Int) + (far : Int)) = (z i : Int) + (far : Int) := IntWalk.i64_in _ ⟨by omega, by omega⟩
      obtain ⟨h2, hh2⟩ : ∃ h2 : Nat, h' + far = h2 := ⟨_, rfl⟩
      have hsum : IntKind.i64.wrap ((h' : Int) + (far : Int)) = (h2 : Int) := by rw [IntWalk.i64_in _ ⟨by omega, by omega⟩]; omega
      rw [hh2] at e2
      have S1 : IsSee (wval v) (z i) (.agg #[.bool true, .int .i64 h', .int .u64 s']) f := see_at e1 k1 (by omega) rfl rfl rfl
      have S2 : IsSee (wval u) ((z i : Int) + far) (.agg #[.bool true, .int .i64 h2, .int .u64 s']) f := see_at e2 k2 (by omega) rfl rfl (by omega)
      obtain ⟨x0, x1, x2, xc, xv⟩ := wcells_three v
      obtain ⟨y0, y1, y2, yc, yv⟩ := wcells_three u
      rw [xv] at S1
      rw [yv] at S2
      rw [xc] at hV
      rw [yc] at hU
      have S1' := Lib.hid S1
      have S2' := Lib.hid S2
      obtain ⟨cV, -⟩ := blk_cells hV
      clear hm k1 k2 S1 S2 e1 e2 xc xv yc yv h1 HROW hc
      go_upto_region 8 with fail
      go_cut [10, 11] (fun a e wx => ∃ ga, a = .pointer (some ⟨ga, 0, none⟩) ∧ e = .bool f ∧ wx.heap[ga]? = some (.cells #[.bool true, .int .i64 h', .int .u64 s'] 39 (0, 0)) ∧ wr.heap.size ≤ ga ∧ Below wr.heap.size wr wx)
      case first =>
        clear hU S2' hsum w2
        go_region_with (go_at_call 20; refine (S1'.out _).mono ?_; rintro e w1 ⟨rfl, b1⟩; (first | (have qn := blk_below (g := wr.heap.size) (o := .cells _ 39) (by exact heap_alloc_new wr _) b1; obtain ⟨cn, fn⟩ := blk_cells qn) | skip))
        all_goals
          go_wp2_with fail
          go_meet
          refine ⟨_, rfl, rfl, ?_, ?_, ?_⟩
        all_goals first
          | exact heap_alloc_new _ _
          | exact Nat.le_refl _
          | exact blk_set3 qn
          | exact b1.size
          | exact (below_of_drew b1).alloc b1.size _
          | exact b1.alloc b1.size _
          | exact below_set3 (below_box b1) (Nat.le_refl _)
          | exact below_set3 (below_box (below_of_drew b1)) (Nat.le_refl _)
      case rest =>

        obtain ⟨ga, rfl, rfl, hga, gle, bA⟩ := hcut
        have hUc : wc.heap[w0.heap.size + 1]? = some (.cells #[y0, y1, y2] 39 (0, 0)) := (bA.block _ z1).trans hU
        have hVc : wc.heap[w0.heap.size]? = some (.cells #[x0, x1, x2] 39 (0, 0)) := (bA.block _ z0).trans hV
        have hcc : wc.cell? ⟨b, off + i, none⟩ = some (.int .u16 (z i)) := (bA.cell (p := ⟨b, off + i, none⟩) zb).trans hc'
        have yU : w0.heap.size + 1 < wc.heap.size := blk_lt hUc
        have yA : ga < wc.heap.size := blk_lt hga
        have yB : b < wc.heap.size := by omega
        have bB := Lib.hid (below_next hB bA (by omega))
        clear hc' hV hU hB bA
        obtain ⟨cU, -⟩ := blk_cells hUc
        go_upto_region 9 with fail
        go_cut [12, 13] (fun a e wx => ∃ gb, a = .pointer (some ⟨gb, 0, none⟩) ∧ e = .bool f ∧ wx.heap[gb]? = some (.cells #[.bool true, .int .i64 h2, .int .u64 s'] 39 (0, 0)) ∧ wc.heap.size ≤ gb ∧ Below wc.heap.size wc wx)
        case first =>
          clear S1' hsum hVc hga
          go_region_with (go_at_call 20; refine (S2'.out _).mono ?_; rintro e w1 ⟨rfl, b1⟩; (first | (have qn := blk_below (g := wc.heap.size) (o := .cells _ 39) (by exact heap_alloc_new wc _) b1; obtain ⟨cn, fn⟩ := blk_cells qn) | skip))
          all_goals
            go_wp2_with fail
            go_meet
            refine ⟨_, rfl, rfl, ?_, ?_, ?_⟩
          all_goals first
            | exact heap_alloc_new _ _
            | exact Nat.le_refl _
            | exact blk_set3 qn
            | exact b1.size
            | exact (below_of_drew b1).alloc b1.size _
            | exact b1.alloc b1.size _
            | exact below_set3 (below_box b1) (Nat.le_refl _)
            | exact below_set3 (below_box (below_of_drew b1)) (Nat.le_refl _)
        case rest =>
          obtain ⟨gb, rfl, rfl, hgb, gle2, bC⟩ := hcut
          have hUd : wc.heap[w0.heap.size + 1]? = some (.cells #[y0, y1, y2] 39 (0, 0)) := (bC.block _ yU).trans hUc
          have hVd : wc.heap[w0.heap.size]? = some (.cells #[x0, x1, x2] 39 (0, 0)) := (bC.block _ (by omega)).trans hVc
          have hgad : wc.heap[ga]? = some (.cells #[.bool true, .int .i64 h', .int .u64 s'] 39 (0, 0)) := (bC.block _ yA).trans hga
          have bD := Lib.hid (below_next bB.out bC (by have := bB.out.size; omega))
          clear hUc hVc hga cU hcc bB bC S1' S2' w1 w2
          obtain ⟨cA, fA⟩ := blk_cells hgad
          obtain ⟨cB, fB⟩ := blk_cells hgb
          obtain ⟨cU, fU⟩ := blk_cells hUd
          obtain ⟨cV, fV⟩ := blk_cells hVd
          have xA : ga < wc.heap.size := blk_lt hgad
          have xB : gb < wc.heap.size := blk_lt hgb
          have n1 : w0.heap.size ≠ ga := by omega
          have n2 : w0.heap.size ≠ gb := by omega
          have n3 : w0.heap.size + 1 ≠ ga := by omega
          have n4 : w0.heap.size + 1 ≠ gb := by omega
          have w3 : IntKind.i64.wrap ((i : Int) + 1) = (i : Int) + 1 := IntWalk.i64_in _ ⟨by omega, by omega⟩
          have HV := Lib.hid hVd
          have HU := Lib.hid hUd
          clear hgad hgb hUd hVd
          rcases f with _ | _
          · go_wp2
            refine ⟨⟨i + 1, some (h', s'), some (h2, s'), hlt, by simp, ⟨hh2.symm, rfl, g1, g2⟩, ?_, blk_set3 ((blk_set3_other (by omega)).trans HU.out), below_set3 (below_set3 bD.out (Nat.le_refl _)) (by omega)⟩, ?_⟩
            · rw [blk_set3_other (by omega)]
              exact blk_set3 HV.out
            · show len - (intOf (.int .i64 ((i : Int) + 1))).toNat < len - (intOf (.int .i64 (i : Int))).toNat
              simp only [intOf]
              omega
          · go_wp2
            refine ⟨⟨i + 1, some (h', s'), some (h2, s'), hlt, by simp, ⟨hh2.symm, rfl, g1, g2⟩, ?_, blk_set3 ((blk_set3_other (by omega)).trans HU.out), below_set3 (below_set3 bD.out (Nat.le_refl _)) (by omega)⟩, ?_⟩
            · rw [blk_set3_other (by omega)]
              exact blk_set3 HV.out
            · show len - (intOf (.int .i64 ((i : Int) + 1))).toNat < len - (intOf (.int .i64 (i : Int))).toNat
              simp only [intOf]
              omega
    · have B1 := Lib.hid (below_next b0 hB (Nat.le_refl _))
      have ht : ¬ ((i : Int) < (len : Int)) ∨ ((i : Int) < (len : Int)) ∧ ¬ ((i : Int) < 100) := by omega
      clear hV hU hm HROW hB b0
      rcases ht with ht | ⟨ht, ht'⟩
      · go_wp2
        go_ret
        exact ⟨rfl, B1.out⟩
      · go_wp2
        go_ret
        exact ⟨rfl, B1.out⟩
end Go.Proofs.Ytchbejkmnbbakaa
