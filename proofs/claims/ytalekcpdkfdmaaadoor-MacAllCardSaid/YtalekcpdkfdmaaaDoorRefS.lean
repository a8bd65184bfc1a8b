/- sidestickref04.Sum. -/
import Derived.Test.YtalekcpdkfdmaaaDoorRefP
import Derived.Test.YtalekcpdkfdmaaaDoorMacO
namespace Go.Proofs.YtalekcpdkfdmaaaDoor
open Go.RowKit

theorem u32_mask (k : Nat) (hk : k ≤ 31) (a : Int) (m : Int) (hm : m = ((2 ^ k - 1 : Nat) : Int)) : bits .and .u32 a m = a % (2 ^ k : Nat) := by
  subst hm
  have hp : 2 ^ k ≤ 2 ^ 31 := Nat.pow_le_pow_right (by omega) hk
  have hp0 : 0 < 2 ^ k := Nat.two_pow_pos k
  show IntKind.u32.wrap ((BitVec.ofInt 32 a &&& BitVec.ofInt 32 ((2 ^ k - 1 : Nat) : Int)).toNat : Int) = _
  rw [BitVec.toNat_and, BitVec.toNat_ofInt, BitVec.ofInt_natCast, BitVec.toNat_ofNat, Nat.mod_eq_of_lt (by omega), Nat.and_two_pow_sub_one_eq_mod]
  have e : (((a % ((2 ^ 32 : Nat) : Int)).toNat % 2 ^ k : Nat) : Int) = a % ((2 ^ k : Nat) : Int) := by
    rw [Int.natCast_emod, Int.toNat_of_nonneg (Int.emod_nonneg _ (by omega))]
    apply Int.emod_emod_of_dvd
    exact_mod_cast Nat.pow_dvd_pow 2 (by omega)
  rw [e]
  have h1 := Int.emod_nonneg a (b := ((2 ^ k : Nat) : Int)) (by omega)
  have h2 := Int.emod_lt_of_pos a (b := ((2 ^ k : Nat) : Int)) (by omega)
  exact wrap_u32_in _ h1 (by omega)
theorem u32_and255 (a : Int) : bits .and .u32 a 255 = a % 256 := u32_mask 8 (by omega) a 255 rfl
theorem own_blk {w : World} {base : Nat} {A : Option Addr} {cap : Nat} {xs : List Int} (h : Own w base A cap xs) (hp : 0 < xs.length) :
    ∃ g cur, A = some ⟨g, 0, none⟩ ∧ base ≤ g ∧ Blk w g cur 5 ∧ cur.toList.take xs.length = xs.map (Value.int .u8) ∧ xs.length ≤ cap := by
  rcases h.1.2 with ⟨hv, hn⟩ | ⟨g, cap', cur, hv, hg, hh, hl, hm, hs, ht⟩
  · omega
  · injection hv with h1 h2 h3
    rw [Nat.mul_one] at ht
    exact ⟨g, cur, h1, hg, hh, ht, by omega⟩
theorem row_cur {w : World} {g : Nat} {cur : Array Value} {T : TypeId} {P : List Int} (hk : Blk w g cur T) (ht : cur.toList.take P.length = P.map (Value.int .u8)) (hb : ∀ x ∈ P, 0 ≤ x ∧ x ≤ 255) (off n : Nat) :
    Row w (some ⟨g, off, none⟩) ((P.drop off).take n) := by
  refine ⟨.inr ⟨g, off, rfl, fun i hi => ?_⟩, fun x hx => hb x (List.mem_of_mem_drop (List.mem_of_mem_take hx))⟩
  have hi2 : off + i < P.length := by simp at hi; omega
  rw [hk.cell (off + i), ← Array.getElem?_toList, ← List.getElem?_take_of_lt hi2, ht]
  simp [hi2]
theorem digest_idx (q : St) (i : Nat) (hi : i < 32) : (digest q).getD i 0 = q.list.getD (i / 4) 0 / 2 ^ (8 * (3 - i % 4)) % 256 := by
  obtain ⟨h0, h1, h2, h3⟩ := digest_at q (i / 4) (by omega)
  have hc : i % 4 = 0 ∨ i % 4 = 1 ∨ i % 4 = 2 ∨ i % 4 = 3 := by omega
  rcases hc with h | h | h | h
  · rw [h]; conv => lhs; rw [show i = 4 * (i / 4) by omega]
    rw [h0]; rfl
  · rw [h]; conv => lhs; rw [show i = 4 * (i / 4) + 1 by omega]
    rw [h1]; rfl
  · rw [h]; conv => lhs; rw [show i = 4 * (i / 4) + 2 by omega]
    rw [h2]; rfl
  · rw [h]; conv => lhs; rw [show i = 4 * (i / 4) + 3 by omega]
    rw [h3]; show _ = _ / 1 % 256; rw [Int.ediv_one]
theorem build_x64 : Tryd.prog.built 25 [] = some (u8V (zeros 64)) := by kernel_rfl
theorem build_x32 : Tryd.prog.built 28 [] = some (u8V (zeros 32)) := by kernel_rfl
set_option maxRecDepth 100000 in
set_option maxHeartbeats 1600000 in
theorem rsum_any (A : Option Addr) (xs : List Int) (n c : Nat) (w : World) (hn : xs.length = n) (hr : Row w A xs) (hl : n ≤ 1000000) :
    Calls Tryd.prog 16 #[.slice A n c] w fun e w' => e = .returned (.agg (u8V (sha xs))) ∧ Below w.heap.size w w' := by
  obtain ⟨m, hm⟩ : ∃ m, wholeOf n / 64 = m := ⟨_, rfl⟩
  obtain ⟨P, hP⟩ : ∃ P, padL xs = P := ⟨_, rfl⟩
  obtain ⟨L, hL⟩ : ∃ L, wholeOf n = L := ⟨_, rfl⟩
  have hL2 : L = 64 * m := by rw [← hL, ← hm, wholeOf_div]
  have hPl : P.length = L := by rw [← hP, padL_len, hn, hL]
  have hPb : ∀ x ∈ P, 0 ≤ x ∧ x ≤ 255 := by rw [← hP]; exact padL_bytes xs hr.2
  have hm2 : 0 < m ∧ m ≤ 100000 := by rw [← hm]; unfold wholeOf; omega
  have hSha : sha xs = digest (sumTo P m) := by unfold sha shaS; rw [hn, hm, hP]
  rw [hSha]
  have CP := fun (W : World) (hb : Below w.heap.size w W) => rpad_any A xs n c W hn (row_below hr hb) hl
  rw [hP, hL] at CP
  replace CP := Lib.hid CP
  have HL2 := Lib.hid hL2
  have HPL := Lib.hid hPl
  have HPB := Lib.hid hPb
  have BX := Lib.hid build_x64
  have BY := Lib.hid build_x32
  have hL3 : L ≤ 10000000 := by omega
  have hL4 : 0 < L := by omega
  clear hn hr hP hPl hPb hSha hm hL2 hL hm2
  go_enter Tryd.func16, Tryd.ntmps16
  go_wp2_with ((with_reducible show wpList _ _ _ (⟨_, .alloc 28, _, _, _, none⟩ :: _) _ _); (with_reducible refine wpRow_alloc zeroT_b32 ?_ ?_ ?_); (· exact wanted0 rfl); (· rfl); refine Marker.mk ?_)
  refine Marker.in ?_
  have BB := Lib.hid (Below.refl w.heap.size w)
  have bel := below_alloc1 w (.cells (u8V (zeros 32)) 28)
  replace BB := Lib.hid (bt BB.out bel)
  have KR := Lib.hid (Blk.new w (u8V (zeros 32)) 28)
  clear bel
  generalize w.alloc (.cells (u8V (zeros 32)) 28) = w1 at *
  have l1 := KR.out.lt
  go_wp2_with fail
  ((with_reducible refine (CP.out _ BB.out).mono ?_))
  rintro e w2 ⟨⟨B2, d2, rfl, o2⟩, b2⟩
  replace KR := Lib.hid (KR.out.below b2)
  replace BB := Lib.hid (bt BB.out b2)
  obtain ⟨gp, cur, rfl, hgp, KP, hcur, hd2⟩ := own_blk o2 (by rw [HPL.out]; omega)
  rw [HPL.out] at hd2
  have n1 : w.heap.size < gp := by omega
  replace KP := Lib.hid KP
  replace hcur := Lib.hid hcur
  clear CP o2 b2 hgp
  go_wp2_with fail
  ((with_reducible refine (rstart_any _).mono ?_))
  rintro e w3 ⟨rfl, b3⟩
  replace KR := Lib.hid (KR.out.below b3)
  replace KP := Lib.hid (KP.out.below b3)
  replace BB := Lib.hid (bt BB.out b3)
  clear b3
  have l3 := KP.out.lt
  go_wp2_with ((with_reducible show wpList _ _ _ (⟨_, .alloc 24, _, _, _, none⟩ :: _) _ _); (with_reducible refine wpRow_alloc zeroT_8 ?_ ?_ ?_); (· exact wanted0 rfl); (· rfl); refine Marker.mk ?_)
  refine Marker.in ?_
  have bel := below_alloc1 w3 (.cells (u32V (zeros 8)) 24)
  replace KR := Lib.hid (KR.out.below bel)
  replace KP := Lib.hid (KP.out.below bel)
  replace BB := Lib.hid (bt BB.out bel)
  have KH := Lib.hid (Blk.new w3 (u32V (zeros 8)) 24)
  clear bel
  generalize w3.alloc (.cells (u32V (zeros 8)) 24) = w4 at *
  generalize w3.heap.size = g4 at *
  go_wp2_with ((with_reducible show wpList _ _ _ (⟨_, .store 24 _ _, _, _, _, none⟩ :: _) _ _); (with_reducible refine wpBlk_store (g := g4) (cs := startS.cells) agg_8 ?_ ?_ KH ?_ ?_ ?_ ?_); (· exact wanted0 rfl); (· exact ⟨rfl, rfl, rfl⟩); (· rw [u32V_size, zeros_len]); (· exact St.cells_size _); (· exact St.cells_one _); refine Marker.mk ?_)
  refine Marker.in ?_
  replace KR := Lib.hid (KR.out.setRow_other g4 startS.cells (by omega))
  replace KP := Lib.hid (KP.out.setRow_other g4 startS.cells (by omega))
  replace KH := Lib.hid (KH.out.setRow startS.cells)
  replace BB := Lib.hid (below_setRow (g := g4) BB.out (by omega) startS.cells)
  generalize w4.setRow g4 startS.cells = w5 at *
  go_wp2_with fail
  go_loopw [5] (fun y wr => ∃ i a : Nat, i ≤ m ∧ a = 64 * i ∧ y = .int .i64 a ∧ Blk wr w.heap.size (u8V (zeros 32)) 28 ∧ Blk wr g4 (sumTo P i).cells 24 ∧ Blk wr gp cur 5 ∧ Below w.heap.size w wr) (fun y _ => L - (intOf y).toNat)
  case atStart => exact ⟨0, 0, by omega, rfl, rfl, KR.out, KH.out, KP.out, BB.out⟩
  case round =>
    clear KR KH KP BB
    obtain ⟨i, a, hi, ha, rfl, KR, KH, KP, BB⟩ := hrel
    replace KR := Lib.hid KR
    replace KP := Lib.hid KP
    replace BB := Lib.hid BB
    have hL2 := HL2.out
    by_cases hlt : i < m
    · have t1 : decide (a < L) = true := decide_eq_true (by omega)
      have a1 : (a : Int) + 64 ≤ (d2 : Int) := by omega
      have a2 : d2 ≠ a := by omega
      have a3 : (a : Int) ≤ 10000000 := by omega
      have a4 : IntKind.i64.wrap ((a : Int) + 64) = (a : Int) + 64 := IntWalk.i64_in _ (by omega)
      obtain ⟨bl, hbl⟩ : ∃ bl, (P.drop a).take 64 = bl := ⟨_, rfl⟩
      have hbl1 : bl.length = 64 := by rw [← hbl]; simp; have := HPL.out; omega
      have hbl2 : ∀ x ∈ bl, 0 ≤ x ∧ x ≤ 255 := by rw [← hbl]; intro x hx; exact HPB.out x (List.mem_of_mem_drop (List.mem_of_mem_take hx))
      have STEP : sumTo P (i + 1) = blockS (sumTo P i) bl := by rw [← hbl, ha]; rfl
      generalize sumTo P i = q at *
      replace KH := Lib.hid KH
      replace STEP := Lib.hid STEP
      have HA := Lib.hid ha
      have HBL := Lib.hid hbl
      have HB1 := Lib.hid hbl1
      have HB2 := Lib.hid hbl2
      have CB := Lib.hid (rblock_any q bl hbl1 hbl2)
      clear hbl hbl1 hbl2 ha hL2
      have l4 := KH.out.lt
      have l5 := KP.out.lt
      have l6 := KR.out.lt
      go_wp2_with (first | ((with_reducible show wpList _ _ _ (⟨some 18, _, _, _, _, _⟩ :: _) _ _); refine wpList_build' rfl 25 _ rfl (u8V (zeros 64)) BX.out ?_) | ((with_reducible show wpList _ _ _ (⟨_, .alloc 25, _, _, _, none⟩ :: _) _ _); (with_reducible refine wpRow_alloc zeroT_b64 ?_ ?_ ?_); (· exact wanted0 rfl); (· rfl); refine Marker.mk ?_))
      refine Marker.in ?_
      have bel := below_alloc1 wr (.cells (u8V (zeros 64)) 25)
      replace KR := Lib.hid (KR.out.below bel)
      replace KH := Lib.hid (KH.out.below bel)
      replace KP := Lib.hid (KP.out.below bel)
      replace BB := Lib.hid (bt BB.out bel)
      have KX := Lib.hid (Blk.new wr (u8V (zeros 64)) 25)
      clear bel
      generalize wr.alloc (.cells (u8V (zeros 64)) 25) = w6 at *
      generalize wr.heap.size = g6 at *
      go_wp2_with ((with_reducible show wpList _ _ _ (⟨_, .store 25 _ _, _, _, _, none⟩ :: _) _ _); (with_reducible refine wpBlk_store (g := g6) (cs := u8V (zeros 64)) agg_b64 ?_ ?_ KX ?_ ?_ ?_ ?_); (· exact wanted0 rfl); (· exact ⟨rfl, rfl, rfl⟩); (· rw [u8V_size, zeros_len]); (· rw [u8V_size, zeros_len]); (· exact u8V_one _); refine Marker.mk ?_)
      refine Marker.in ?_
      replace KR := Lib.hid (KR.out.setRow_other g6 (u8V (zeros 64)) (by omega))
      replace KH := Lib.hid (KH.out.setRow_other g6 (u8V (zeros 64)) (by omega))
      replace KP := Lib.hid (KP.out.setRow_other g6 (u8V (zeros 64)) (by omega))
      replace KX := Lib.hid (KX.out.setRow (u8V (zeros 64)))
      replace BB := Lib.hid (below_setRow (g := g6) BB.out (by omega) (u8V (zeros 64)))
      generalize w6.setRow g6 (u8V (zeros 64)) = w7 at *
      go_wp2_with fail
      refine wp_region_qt' 6 (by kernel_rfl) (by kernel_rfl) ?_
      simp only [List.take_succ_cons, List.take_zero, List.drop_succ_cons, List.drop_zero]
      repeat (go_big_quiet_step (fail))
      refine wpQuiet_nil ?_
      intro _ hw'
      obtain ⟨nq, rfl⟩ := hw'
      replace KR := Lib.hid (KR.out.drewN nq)
      replace KH := Lib.hid (KH.out.drewN nq)
      replace KP := Lib.hid (KP.out.drewN nq)
      replace KX := Lib.hid (KX.out.drewN nq)
      replace BB := Lib.hid (below_drewN BB.out nq)
      generalize w7.drewN nq = w8 at *
      have r8 := row_cur KP.out (by rw [HPL.out]; have h := hcur.out; rw [HPL.out] at h; exact h) HPB.out a 64
      rw [HBL.out] at r8
      replace r8 := Lib.hid r8
      rw [Nat.add_sub_cancel_left]
      (with_reducible refine wpBlk_copy ?_ g6 0 64 64 (zeros 64) 25 (some ⟨gp, a, none⟩) 64 (d2 - a) bl 64 (some ⟨g6, 0, none⟩) ?_ KX HB1.out r8 ?_ ?_ ?_ ?_)
      · exact wanted0 rfl
      · exact ⟨rfl, _, _, rfl, rfl, rfl⟩
      · rfl
      · rw [zeros_len]; omega
      · exact fun _ => rfl
      intro w9 K9 b9 o9 s9
      have e9 : putAt (zeros 64) 0 (bl.take 64) = bl := by
        have h := HB1.out
        rw [List.take_of_length_le (by omega), full_of bl (by omega), h]
        simp [zeros]
      rw [e9] at K9
      replace KX := Lib.hid K9
      replace KR := Lib.hid (show Blk w9 w.heap.size (u8V (zeros 32)) 28 from (o9 _ (by omega)).trans KR.out)
      replace KH := Lib.hid (show Blk w9 g4 q.cells 24 from (o9 _ (by omega)).trans KH.out)
      replace KP := Lib.hid (show Blk w9 gp cur 5 from (o9 _ (by omega)).trans KP.out)
      replace BB := Lib.hid (BB.out.trans (b9.mono (by omega)))
      clear K9 b9 o9 s9 e9 r8 a1 a2 a4 t1
      go_wp2_with (first | ((with_reducible show wpList _ _ _ (⟨_, .load 24 _, _, _, _, none⟩ :: _) _ _); (with_reducible refine wpBlk_load (g := g4) agg_8 ?_ ?_ KH ?_ ?_); (· exact wanted0 rfl); (· exact ⟨rfl, rfl⟩); (· exact St.cells_size _)) | ((with_reducible show wpList _ _ _ (⟨_, .load 25 _, _, _, _, none⟩ :: _) _ _); (with_reducible refine wpBlk_load (g := g6) agg_b64 ?_ ?_ KX ?_ ?_); (· exact wanted0 rfl); (· exact ⟨rfl, rfl⟩); (· rw [u8V_size, HB1.out])))
      ((with_reducible refine (CB.out _).mono ?_))
      rintro e w10 ⟨rfl, b10⟩
      replace KR := Lib.hid (KR.out.below b10)
      replace KH := Lib.hid (KH.out.below b10)
      replace KP := Lib.hid (KP.out.below b10)
      replace KX := Lib.hid (KX.out.below b10)
      replace BB := Lib.hid (bt BB.out b10)
      clear b10 KX CB
      go_wp2_with ((with_reducible show wpList _ _ _ (⟨_, .store 24 _ _, _, _, _, none⟩ :: _) _ _); (with_reducible refine wpBlk_store (g := g4) (cs := (blockS q bl).cells) agg_8 ?_ ?_ KH ?_ ?_ ?_ ?_); (· exact wanted0 rfl); (· exact ⟨rfl, rfl, rfl⟩); (· exact St.cells_size _); (· exact St.cells_size _); (· exact St.cells_one _); refine Marker.mk ?_)
      refine Marker.in ?_
      replace KR := Lib.hid (KR.out.setRow_other g4 (blockS q bl).cells (by omega))
      replace KP := Lib.hid (KP.out.setRow_other g4 (blockS q bl).cells (by omega))
      replace KH := Lib.hid (KH.out.setRow (blockS q bl).cells)
      replace BB := Lib.hid (below_setRow (g := g4) BB.out (by omega) (blockS q bl).cells)
      generalize w10.setRow g4 (blockS q bl).cells = w11 at *
      go_wp2_with fail
      have hA := HA.out
      have hL2 := HL2.out
      exact ⟨⟨i + 1, a + 64, by omega, by omega, by simp, KR.out, by rw [STEP.out]; exact KH.out, KP.out, BB.out⟩, by simp [intOf]; omega⟩
    · obtain rfl : i = m := by omega
      obtain rfl : a = L := by omega
      have t1 : decide (a < a) = false := decide_eq_false (by omega)
      generalize hq : sumTo P i = q at *
      have HQ := Lib.hid hq
      replace KH := Lib.hid KH
      clear hq KP ha hL2
      have l4 := KH.out.lt
      have l6 := KR.out.lt
      go_wp2_with (first | ((with_reducible show wpList _ _ _ (⟨some 29, _, _, _, _, _⟩ :: _) _ _); refine wpList_build' rfl 28 _ rfl (u8V (zeros 32)) BY.out ?_) | ((with_reducible show wpList _ _ _ (⟨_, .alloc 28, _, _, _, none⟩ :: _) _ _); (with_reducible refine wpRow_alloc zeroT_b32 ?_ ?_ ?_); (· exact wanted0 rfl); (· rfl); refine Marker.mk ?_))
      refine Marker.in ?_
      clear t1
      have bel := below_alloc1 wr (.cells (u8V (zeros 32)) 28)
      replace KR := Lib.hid (KR.out.below bel)
      replace KH := Lib.hid (KH.out.below bel)
      replace BB := Lib.hid (bt BB.out bel)
      have KS := Lib.hid (Blk.new wr (u8V (zeros 32)) 28)
      clear bel
      generalize wr.alloc (.cells (u8V (zeros 32)) 28) = w6 at *
      generalize wr.heap.size = g7 at *
      go_wp2_with ((with_reducible show wpList _ _ _ (⟨_, .store 28 _ _, _, _, _, none⟩ :: _) _ _); (with_reducible refine wpBlk_store (g := g7) (cs := u8V (zeros 32)) agg_b32 ?_ ?_ KS ?_ ?_ ?_ ?_); (· exact wanted0 rfl); (· exact ⟨rfl, rfl, rfl⟩); (· rw [u8V_size, zeros_len]); (· rw [u8V_size, zeros_len]); (· exact u8V_one _); refine Marker.mk ?_)
      refine Marker.in ?_
      replace KR := Lib.hid (KR.out.setRow_other g7 (u8V (zeros 32)) (by omega))
      replace KH := Lib.hid (KH.out.setRow_other g7 (u8V (zeros 32)) (by omega))
      replace KS := Lib.hid (KS.out.setRow (u8V (zeros 32)))
      replace BB := Lib.hid (below_setRow (g := g7) BB.out (by omega) (u8V (zeros 32)))
      generalize w6.setRow g7 (u8V (zeros 32)) = w7 at *
      go_wp2_with fail
      go_loopw [8] (fun y wx => ∃ k : Nat, k ≤ 32 ∧ y = .int .i64 k ∧ Blk wx w.heap.size (u8V (zeros 32)) 28 ∧ Blk wx g4 q.cells 24 ∧ Blk wx g7 (u8V (over (digest q) (zeros 32) k)) 28 ∧ Below w.heap.size w wx) (fun y _ => 32 - (intOf y).toNat)
      case atStart => exact ⟨0, by omega, rfl, KR.out, KH.out, by rw [over_zero]; exact KS.out, BB.out⟩
      case round =>
        clear KR KH KS BB
        obtain ⟨k, hk, rfl, KR, KH, KS, BB⟩ := hrel
        have le : (digest q).length = (zeros 32).length := by rw [digest_len, zeros_len]
        by_cases hlt : k < 32
        · have DG := digest_idx q k hlt
          have lz := digest_len q
          have lo := over_len (digest q) (zeros 32) k le (by omega)
          have cq := KH.cell (k / 4)
          rw [show q.cells = u32V q.list from rfl, u32V_get _ _ (by show _ < 8; omega)] at cq
          have c0 := KS.cell k
          have f0 := KS.frozen k
          rw [u8V_get _ _ (by omega)] at c0
          have S1 := over_set (digest q) (zeros 32) k le (by omega)
          rw [DG] at S1
          obtain ⟨j, hj⟩ : ∃ j, k / 4 = j := ⟨_, rfl⟩
          obtain ⟨b, hb⟩ : ∃ b, k % 4 = b := ⟨_, rfl⟩
          obtain ⟨t, ht⟩ : ∃ t, 3 - b = t := ⟨_, rfl⟩
          rw [hj] at cq S1
          rw [hb, ht] at S1
          have e1 : (k : Int) / 4 = (j : Int) := by omega
          have e2 : (k : Int) % 4 = (b : Int) := by omega
          have e3 : (3 : Int) - (b : Int) = (t : Int) := by omega
          have j8 : j < 8 := by omega
          generalize q.list.getD j 0 = x at *
          have AN := u32_and255 (x / 2 ^ (8 * t))
          have vb : 0 ≤ x / 2 ^ (8 * t) % 256 ∧ x / 2 ^ (8 * t) % 256 ≤ 255 := by omega
          generalize x / 2 ^ (8 * t) % 256 = v at *
          have wv : IntKind.u8.wrap v = v := by rw [IntKind.wrap_u8']; omega
          replace S1 := Lib.hid S1
          replace KR := Lib.hid KR
          replace KH := Lib.hid KH
          replace KS := Lib.hid KS
          replace BB := Lib.hid BB
          clear DG le lz lo hj hb ht
          go_wp2_with fail
          have h := KS.out.set k (.int .u8 v)
          rw [u8V_set, S1.out] at h
          exact ⟨⟨k + 1, by omega, by simp, KR.out.other _ _ _ (by omega), KH.out.other _ _ _ (by omega), h, BB.out.setCell (by simp; omega) _⟩, by simp [intOf]; omega⟩
        · obtain rfl : k = 32 := by omega
          rw [show ((32 : Nat) : Int) = 32 from rfl]
          rw [over_all (digest q) (zeros 32) 32 (by rw [digest_len]; omega) (by rw [zeros_len]; omega)] at KS
          replace KR := Lib.hid KR
          replace KS := Lib.hid KS
          replace BB := Lib.hid BB
          clear le
          go_wp2_with (first | ((with_reducible show wpList _ _ _ (⟨_, .load 28 _, _, _, _, none⟩ :: _) _ _); (with_reducible refine wpBlk_load (g := g7) agg_b32 ?_ ?_ KS ?_ ?_); (· exact wanted0 rfl); (· exact ⟨rfl, rfl⟩); (· rw [u8V_size, digest_len])) | ((with_reducible show wpList _ _ _ (⟨_, .store 28 _ _, _, _, _, none⟩ :: _) _ _); (with_reducible refine wpBlk_store (g := w.heap.size) (cs := u8V (digest q)) agg_b32 ?_ ?_ KR ?_ ?_ ?_ ?_); (· exact wanted0 rfl); (· exact ⟨rfl, rfl, rfl⟩); (· rw [u8V_size, zeros_len]); (· rw [u8V_size, digest_len]); (· exact u8V_one _)))
          refine bodyPost_ret (v := .agg (u8V (digest q))) (results_blk agg_b32 rfl _ _ (w.heap.size) _ rfl (KR.out.setRow _) (by rw [u8V_size, digest_len])) rfl ⟨by rw [HQ.out], below_setRow BB.out (by omega) _⟩
end Go.Proofs.YtalekcpdkfdmaaaDoor
