/- The walk of MacMade. -/
import Derived.Test.YtalekcpdkfdmaaaDoorEqB
import Derived.Test.YtalekcpdkfdmaaaDoorAppB
namespace Go.Proofs.YtalekcpdkfdmaaaDoor
open Go.RowKit

theorem build_b64 : Tryd.prog.built 25 [] = some (u8V (zeros 64)) := by kernel_rfl
theorem turnB_step (l : List Int) (b : Int) (i : Nat) (h : i < l.length) : turnB (l.take (i + 1)) b = turnB (l.take i) b ++ [bits .xor .u8 (l.getD i 0) b] := by
  unfold turnB
  rw [List.take_succ_eq_append_getElem h, List.map_append]
  congr 1
  simp [h]
theorem one_byte (W : World) (x : Int) (hx : 0 ≤ x ∧ x ≤ 255) : Row (W.alloc (.cells #[.int .u8 x] 5)) (some ⟨W.heap.size, 0, none⟩) [x] := row_block' (heap_alloc_new _ _) rfl (by intro y hy; rw [List.mem_singleton.1 hy]; exact hx)
set_option maxRecDepth 100000 in
set_option maxHeartbeats 1600000 in
theorem made_short (A B : Option Addr) (xs x : List Int) (L nn m c d : Nat) (v1 : Value) (w : World) (hR : Roots w) (hL : xs.length = L) (hLc : L ≤ c) (hc : c ≤ 9223372036854775807) (hk : Row w A xs) (hn : nn = L) (h64 : L ≤ 64)
    (hm : x.length = m) (m3 : m ≤ 150) (hx : Row w B x) (hg : ∀ W, Calls Tryd.prog 24 #[v1] W fun e w' => e = .returned (.slice B m d) ∧ W = w') :
    Calls Tryd.prog 6 #[.slice A L c, v1] w fun e w' => e = .returned (.bool true) ∧ Below w.heap.size w w' := by
  have HG := Lib.hid hg
  have HL := Lib.hid hL
  have HM := Lib.hid hm
  have HK := Lib.hid (row_take hk nn)
  have HX := Lib.hid hx
  have RT := Lib.hid hR
  have BB := Lib.hid (Below.refl w.heap.size w)
  have nle : nn ≤ 64 := by omega
  have nlc : nn ≤ c := by omega
  have nlL : nn ≤ L := by omega
  have KL0 : (xs.take nn).length = nn := by rw [List.length_take, hL]; omega
  generalize xs.take nn = k at *
  have KL := Lib.hid KL0
  clear hg hL hm hx hR hk KL0 xs HL
  subst hn
  go_enter Tryd.func6, Tryd.ntmps6
  go_wp2_with fail
  ((with_reducible refine (shown05 _ RT.out).mono ?_))
  rintro e w1 ⟨rfl, b1⟩
  replace BB := Lib.hid (bt BB.out b1)
  have l1 : w.heap.size ≤ w1.heap.size := BB.out.size
  clear b1
  go_wp2_with (first
    | ((with_reducible show wpList _ _ _ (⟨some 13, _, _, _, _, _⟩ :: _) _ _); refine wpList_build' rfl 25 #[] rfl (u8V (zeros 64)) build_b64 ?_)
    | ((with_reducible show wpList _ _ _ (⟨_, .alloc 25, _, _, _, none⟩ :: _) _ _); (with_reducible refine wpRow_alloc zeroT_b64 ?_ ?_ ?_); (· exact wanted0 rfl); (· rfl); refine Marker.mk ?_))
  refine Marker.in ?_
  have bel := below_alloc1 w1 (.cells (u8V (zeros 64)) 25)
  replace BB := Lib.hid (bt BB.out bel)
  have KF := Lib.hid (Blk.new w1 (u8V (zeros 64)) 25)
  clear bel
  generalize w1.alloc (.cells (u8V (zeros 64)) 25) = w2 at *
  generalize w1.heap.size = g6 at *
  go_wp2_with ((with_reducible show wpList _ _ _ (⟨_, .store 25 _ _, _, _, _, none⟩ :: _) _ _); (with_reducible refine wpBlk_store (g := g6) (cs := u8V (zeros 64)) agg_b64 ?_ ?_ KF ?_ ?_ ?_ ?_); (· exact wanted0 rfl); (· exact ⟨rfl, rfl, rfl⟩); (· rw [u8V_size, zeros_len]); (· rw [u8V_size, zeros_len]); (· exact u8V_one _); refine Marker.mk ?_)
  refine Marker.in ?_
  replace KF := Lib.hid (KF.out.setRow (u8V (zeros 64)))
  replace BB := Lib.hid (below_setRow (g := g6) BB.out (by omega) (u8V (zeros 64)))
  generalize w2.setRow g6 (u8V (zeros 64)) = w3 at *
  have lf := KF.out.lt
  go_wp2_with fail
  refine wp_region_qt' 6 (by kernel_rfl) (by kernel_rfl) ?_
  simp only [List.take_succ_cons, List.take_zero, List.drop_succ_cons, List.drop_zero]
  repeat (go_big_quiet_step (fail))
  refine wpQuiet_nil ?_
  intro _ hw'
  obtain ⟨nq, rfl⟩ := hw'
  replace BB := Lib.hid (below_drewN BB.out nq)
  replace KF := Lib.hid (KF.out.drewN nq)
  have lf' : g6 < (w3.drewN nq).heap.size := KF.out.lt
  clear lf
  generalize w3.drewN nq = w4 at *
  have HK1 := Lib.hid (row_below HK.out BB.out)
  (with_reducible refine wpBlk_copy ?_ g6 0 64 64 (zeros 64) 25 A nn c k nn (some ⟨g6, 0, none⟩) ?_ KF KL.out HK1 ?_ ?_ ?_ ?_)
  · exact wanted0 rfl
  · exact ⟨rfl, _, _, rfl, rfl, rfl⟩
  · exact Nat.min_eq_left (by omega)
  · rw [zeros_len]; omega
  · exact fun _ => rfl
  intro w5 KF' b5 o5 s5
  have e5 : putAt (zeros 64) 0 (k.take nn) = key64 k := by
    have h1 := KL.out
    rw [List.take_of_length_le (by omega), full_of k (by omega)]
    have h2 : keyed k = k := if_neg (by omega)
    unfold key64
    rw [h2]
  rw [e5] at KF'
  replace BB := Lib.hid (BB.out.trans (b5.mono (by omega)))
  clear KF o5 s5 b5 e5 HK1
  replace KF := Lib.hid KF'
  clear KF'
  have FL0 := key64_len k
  have FB0 := key64_bytes HK.out.2
  have HMAC : hmac k x = sha (turnB (key64 k) 92 ++ sha (turnB (key64 k) 54 ++ x)) := rfl
  generalize key64 k = full at *
  have FL := Lib.hid FL0
  replace HMAC := Lib.hid HMAC
  clear FL0 FB0
  have lf := KF.out.lt
  clear lf'
  go_wp2_with fail
  go_loopw [7, 8, 9] (fun p q y wr => ∃ (i : Nat) (P : Option Addr) (cp : Nat) (Z : Option Addr) (cz : Nat), i ≤ 64 ∧ y = .int .i64 i ∧ p = .slice P i cp ∧ q = .slice Z i cz ∧ Own wr (g6 + 1) P cp (turnB (full.take i) 54) ∧ Own wr (g6 + 1) Z cz (turnB (full.take i) 92) ∧ (∀ b, Z = some b → Apart P b.block) ∧ Below (g6 + 1) w5 wr) (fun _ _ y _ => 64 - (intOf y).toNat)
  case atStart =>
    have bl1 := below_alloc1 w5 (.cells #[] 5)
    have bl2 := below_alloc1 (w5.alloc (.cells #[] 5)) (.cells #[] 5)
    have e2 : (w5.alloc (.cells #[] 5)).heap.size = w5.heap.size + 1 := alloc_size _ _
    have o1 := own_below (own_lit w5 (g6 + 1) (by omega)) bl2
    have o2 := own_lit (w5.alloc (.cells #[] 5)) (g6 + 1) (by omega)
    rw [e2] at o2
    refine ⟨0, some ⟨w5.heap.size, 0, none⟩, 0, some ⟨w5.heap.size + 1, 0, none⟩, 0, Nat.zero_le _, rfl, rfl, rfl, o1, o2, fun b hb a ha => ?_, (bt bl1 bl2).mono (by omega)⟩
    injection hb with hb
    injection ha with ha
    subst hb ha
    show w5.heap.size ≠ w5.heap.size + 1
    omega
  case round =>
    obtain ⟨i, P, cp, Z, cz, hi, rfl, rfl, rfl, oP, oZ, hap, b6⟩ := hrel
    replace oP := Lib.hid oP
    replace oZ := Lib.hid oZ
    replace hap := Lib.hid hap
    replace b6 := Lib.hid b6
    have KF1 : Hid (Blk wr g6 (u8V full) 25) := Lib.hid ((b6.out.block g6 (by omega)).trans KF.out)
    have sz : g6 + 1 ≤ wr.heap.size := KF1.out.lt
    by_cases hlt : i < 64
    · have HS1 := Lib.hid (turnB_step full 54 i (by rw [FL.out]; exact hlt))
      have HS2 := Lib.hid (turnB_step full 92 i (by rw [FL.out]; exact hlt))
      have TL1 : Hid ((turnB (full.take i) 54).length = i) := Lib.hid (by rw [turnB_len, List.length_take, FL.out]; omega)
      have TL2 : Hid ((turnB (full.take i) 92).length = i) := Lib.hid (by rw [turnB_len, List.length_take, FL.out]; omega)
      have cd := KF1.out.cell i
      rw [u8V_get _ _ (by rw [FL.out]; exact hlt)] at cd
      generalize full.getD i 0 = f at *
      generalize turnB (full.take i) 54 = y1 at *
      generalize turnB (full.take i) 92 = y2 at *
      have t1 : decide ((i : Int) < 64) = true := decide_eq_true (by omega)
      have bl := Lib.hid (below_alloc1 wr (.cells #[.int .u8 (bits .xor .u8 f 54)] 5))
      have r1 := Lib.hid (one_byte wr (bits .xor .u8 f 54) (xor_byte _ _))
      go_wp2_with ((with_reducible show wpList _ _ _ (⟨some 33, _, _, _, _, _⟩ :: _) _ _); (with_reducible refine wpList_append_bytes' _ (wanted0 rfl) (.tmp 27) (.tmp 32) rfl (g6 + 1) P cp i y1 TL1.out ?_ (own_below oP.out bl.out) (some ⟨wr.heap.size, 0, none⟩) 1 1 [bits .xor .u8 f 54] rfl ?_ r1.out (by omega) (Nat.le_trans sz bl.out.size) ?_); (· rfl); (· rfl); intro P1 cp1 w7 o7 b7 k7; refine Marker.mk ?_)
      refine Marker.in ?_
      rw [← HS1.out] at o7
      have oZ7 := own_apart (own_below oZ.out bl.out) hap.out (fun k h1 h2 => (k7 k h1 h2).1)
      have hap7 : ∀ b, Z = some b → Apart P1 b.block := fun b hb => (k7 b.block (own_lt (own_below oZ.out bl.out) b hb).2 (hap.out b hb)).2
      have b7' := (b6.out.trans (bl.out.mono sz)).trans b7
      have KF2 : Hid (Blk w7 g6 (u8V full) 25) := Lib.hid ((b7'.block g6 (by omega)).trans KF.out)
      have sz7 : g6 + 1 ≤ w7.heap.size := KF2.out.lt
      have cd7 : w7.cell? ⟨g6, i, none⟩ = some (.int .u8 f) := by
        have h := (b7.block g6 (by omega)).trans (KF1.out.below bl.out)
        have h1 := (blk_cells KF1.out).1 i
        have h2 := (blk_cells h).1 i
        rw [h2, ← h1]; exact cd
      replace o7 := Lib.hid o7
      replace oZ7 := Lib.hid oZ7
      replace hap7 := Lib.hid hap7
      replace b7' := Lib.hid b7'
      have bl7 := Lib.hid (below_alloc1 w7 (.cells #[.int .u8 (bits .xor .u8 f 92)] 5))
      have r2 := Lib.hid (one_byte w7 (bits .xor .u8 f 92) (xor_byte _ _))
      clear b7 k7 cd r1 bl oP oZ hap b6 KF1 HS1 TL1
      go_wp2_with ((with_reducible show wpList _ _ _ (⟨some 40, _, _, _, _, _⟩ :: _) _ _); (with_reducible refine wpList_append_bytes' _ (wanted0 rfl) (.tmp 34) (.tmp 39) rfl (g6 + 1) Z cz i y2 TL2.out ?_ (own_below oZ7.out bl7.out) (some ⟨w7.heap.size, 0, none⟩) 1 1 [bits .xor .u8 f 92] rfl ?_ r2.out (by omega) (Nat.le_trans sz7 bl7.out.size) ?_); (· rfl); (· rfl); intro Z1 cz1 w8 o8 b8 k8; refine Marker.mk ?_)
      refine Marker.in ?_
      rw [← HS2.out] at o8
      have hap7s : ∀ a, P1 = some a → Apart Z a.block := fun a ha b hb e => hap7.out b hb a ha e.symm
      have oP8 := own_apart (own_below o7.out bl7.out) hap7s (fun k h1 h2 => (k8 k h1 h2).1)
      have hap8 : ∀ b, Z1 = some b → Apart P1 b.block := fun b hb a ha e => (k8 a.block (own_lt (own_below o7.out bl7.out) a ha).2 (hap7s a ha)).2 b hb e.symm
      have b8' := (b7'.out.trans (bl7.out.mono sz7)).trans b8
      replace o8 := Lib.hid o8
      replace oP8 := Lib.hid oP8
      replace hap8 := Lib.hid hap8
      replace b8' := Lib.hid b8'
      clear b8 k8 hap7s oZ7 o7 hap7 b7' bl7 r2 cd7
      go_wp2_with fail
      exact ⟨⟨i + 1, P1, cp1, Z1, cz1, by omega, by simp, rfl, rfl, oP8.out, o8.out, hap8.out, b8'.out⟩, by simp [intOf]; omega⟩
    · obtain rfl : i = 64 := by omega
      rw [show ((64 : Nat) : Int) = 64 from rfl]
      rw [List.take_of_length_le (by rw [FL.out]; omega)] at oP oZ
      have TL1 : Hid ((turnB full 54).length = 64) := Lib.hid (by rw [turnB_len, FL.out])
      have TL2 : Hid ((turnB full 92).length = 64) := Lib.hid (by rw [turnB_len, FL.out])
      generalize turnB full 54 = y1 at *
      generalize turnB full 92 = y2 at *
      replace BB := Lib.hid (BB.out.trans (b6.out.mono (by omega)))
      clear b6 KF1 KF
      go_wp2_with fail
      ((with_reducible refine (HG.out _).mono ?_))
      rintro e w2 ⟨rfl, rfl⟩
      have HX1 := Lib.hid (row_below HX.out BB.out)
      go_wp2_with ((with_reducible show wpList _ _ _ (⟨some 45, _, _, _, _, _⟩ :: _) _ _); (with_reducible refine wpList_append_bytes' _ (wanted0 rfl) (.tmp 43) (.tmp 44) rfl (g6 + 1) P cp 64 y1 TL1.out ?_ oP.out B d m x HM.out ?_ HX1.out (by omega) sz ?_); (· rfl); (· rfl); intro P1 cp1 w7 o7 b7 k7; refine Marker.mk ?_)
      refine Marker.in ?_
      have oZ7 := Lib.hid (own_apart oZ.out hap.out (fun k h1 h2 => (k7 k h1 h2).1))
      replace BB := Lib.hid (BB.out.trans (b7.mono (by omega)))
      have r7 := Lib.hid o7.row
      have s7 : g6 + 1 ≤ w7.heap.size := Nat.le_trans sz b7.size
      have CL7 : Hid ((y1 ++ x).length = 64 + m) := Lib.hid (by rw [List.length_append, TL1.out, HM.out])
      clear oP oZ hap b7 k7 o7 HX1
      go_wp2_with fail
      ((with_reducible refine (sum_any P1 (y1 ++ x) (64 + m) cp1 w7 CL7.out r7.out (by omega) (RT.out.below BB.out)).mono ?_))
      rintro e w8 ⟨rfl, b8⟩
      have S1L := sha_len (y1 ++ x)
      have S1B := sha_bytes (y1 ++ x)
      generalize sha (y1 ++ x) = s1 at *
      replace S1L := Lib.hid S1L
      replace S1B := Lib.hid S1B
      replace BB := Lib.hid (bt BB.out b8)
      have oZ8 := Lib.hid (own_below oZ7.out b8)
      have s8 : g6 + 1 ≤ w8.heap.size := Nat.le_trans s7 b8.size
      clear b8 oZ7 r7 CL7
      have hap11 : Apart Z w8.heap.size := fun a ha => Nat.ne_of_lt (own_lt oZ8.out a ha).2
      go_wp2_with ((with_reducible show wpList _ _ _ (⟨_, .alloc 28, _, _, _, none⟩ :: _) _ _); (with_reducible refine wpRow_alloc zeroT_b32 ?_ ?_ ?_); (· exact wanted0 rfl); (· rfl); refine Marker.mk ?_)
      refine Marker.in ?_
      replace oZ8 := Lib.hid (own_below oZ8.out (below_alloc1 w8 (.cells (u8V (zeros 32)) 28)))
      have bel := below_alloc1 w8 (.cells (u8V (zeros 32)) 28)
      replace BB := Lib.hid (bt BB.out bel)
      have K11 := Lib.hid (Blk.new w8 (u8V (zeros 32)) 28)
      clear bel
      generalize w8.alloc (.cells (u8V (zeros 32)) 28) = w9 at *
      generalize hg11 : w8.heap.size = g11 at *
      go_wp2_with ((with_reducible show wpList _ _ _ (⟨_, .store 28 _ _, _, _, _, none⟩ :: _) _ _); (with_reducible refine wpBlk_store (g := g11) (cs := u8V s1) agg_b32 ?_ ?_ K11 ?_ ?_ ?_ ?_); (· exact wanted0 rfl); (· exact ⟨rfl, rfl, rfl⟩); (· rw [u8V_size, zeros_len]); (· rw [u8V_size, S1L.out]); (· exact u8V_one _); refine Marker.mk ?_)
      refine Marker.in ?_
      replace oZ8 := Lib.hid (own_same (w' := w9.setRow g11 (u8V s1)) oZ8.out fun a ha => _root_.Go.setRow_other w9 g11 a.block _ (hap11 a ha))
      replace K11 := Lib.hid (K11.out.setRow (u8V s1))
      replace BB := Lib.hid (below_setRow (g := g11) BB.out (by omega) (u8V s1))
      generalize w9.setRow g11 (u8V s1) = w10 at *
      have CA := fun (W : World) (hb : Below w.heap.size w W) => of_any A B k x nn m c d W KL.out HM.out (row_below HK.out hb) (row_below HX.out hb) (by omega) (by omega) (RT.out.below hb)
      simp only [HMAC.out] at CA
      have CL : Hid ((y2 ++ s1).length = 96) := Lib.hid (by rw [List.length_append, TL2.out, S1L.out])
      have CB := fun (P : Option Addr) (cp : Nat) (W : World) (hr : Row W P (y2 ++ s1)) (hb : Below w.heap.size w W) => sum_any P (y2 ++ s1) 96 cp W CL.out hr (by omega) (RT.out.below hb)
      have TL := sha_len (y2 ++ s1)
      generalize sha (y2 ++ s1) = t at *
      have EQ := eql_b32_self t TL
      replace CA := Lib.hid CA
      replace CB := Lib.hid CB
      clear TL HMAC hap11
      go_wp2_with fail
      refine wp_region_qx 11 (by kernel_rfl) (by kernel_rfl) ?_
      simp only [List.take_succ_cons, List.take_zero, List.drop_succ_cons, List.drop_zero]
      repeat (first
      | go_big_quiet_skip
      | (go_big_quiet_want
         first
           | (go_big_quiet_op
              first
                | go_big_quiet_on
                | go_big_quiet_call ((((with_reducible refine ext_of (CA.out _ ?_)); exact BB.out.trans (Below.mono (exw_bel _) BB.out.size)))))))
      refine wpQuiet_nil ?_
      intro _ hw'
      obtain ⟨y, rfl⟩ := hw'
      have by_ := exw_bel y
      replace oZ8 := Lib.hid (own_below oZ8.out by_)
      replace K11 := Lib.hid (K11.out.below by_)
      replace BB := Lib.hid (bt BB.out by_)
      clear by_ CA
      generalize exw w10 y = w11 at *
      have R11 : Hid (Row w11 (some ⟨g11, 0, none⟩) s1) := Lib.hid (u8V_row K11.out S1B.out)
      have s11 : g6 + 1 ≤ w11.heap.size := by have := K11.out.lt; omega
      go_wp2_with ((with_reducible show wpList _ _ _ (⟨some 58, _, _, _, _, _⟩ :: _) _ _); (with_reducible refine wpList_append_bytes' _ ?_ (.tmp 56) (.tmp 57) rfl (g6 + 1) Z cz 64 y2 TL2.out ?_ oZ8.out (some ⟨g11, 0, none⟩) 32 32 s1 S1L.out ?_ R11.out (by omega) s11 ?_); (· exact wantedY (j := 1) (d := 48) (want := true) rfl rfl rfl); (· rfl); (· rfl); intro P2 cp2 w12 o12 b12 k12; refine Marker.mk ?_)
      refine Marker.in ?_
      replace BB := Lib.hid (BB.out.trans (b12.mono (by omega)))
      have r12 := Lib.hid o12.row
      clear b12 k12 o12 oZ8 R11 K11
      go_wp2_with fail
      ((with_reducible refine (CB.out _ _ _ r12.out BB.out).mono ?_))
      rintro e w13 ⟨rfl, b13⟩
      replace BB := Lib.hid (bt BB.out b13)
      clear b13 r12 CB
      go_wp2_with fail
      go_ret
      exact ⟨rfl, BB.out⟩
set_option maxRecDepth 100000 in
set_option maxHeartbeats 1600000 in
theorem made_long (A B : Option Addr) (xs x : List Int) (L nn m c d : Nat) (v1 : Value) (w : World) (hR : Roots w) (hL : xs.length = L) (hLc : L ≤ c) (hc : c ≤ 9223372036854775807) (hk : Row w A xs) (hn : nn = 64) (h64 : ¬ L ≤ 64)
    (hm : x.length = m) (m3 : m ≤ 150) (hx : Row w B x) (hg : ∀ W, Calls Tryd.prog 24 #[v1] W fun e w' => e = .returned (.slice B m d) ∧ W = w') :
    Calls Tryd.prog 6 #[.slice A L c, v1] w fun e w' => e = .returned (.bool true) ∧ Below w.heap.size w w' := by
  have HG := Lib.hid hg
  have HL := Lib.hid hL
  have HM := Lib.hid hm
  have HK := Lib.hid (row_take hk nn)
  have HX := Lib.hid hx
  have RT := Lib.hid hR
  have BB := Lib.hid (Below.refl w.heap.size w)
  have nle : nn ≤ 64 := by omega
  have nlc : nn ≤ c := by omega
  have nlL : nn ≤ L := by omega
  have KL0 : (xs.take nn).length = nn := by rw [List.length_take, hL]; omega
  generalize xs.take nn = k at *
  have KL := Lib.hid KL0
  clear hg hL hm hx hR hk KL0 xs HL
  subst hn
  go_enter Tryd.func6, Tryd.ntmps6
  go_wp2_with fail
  ((with_reducible refine (shown05 _ RT.out).mono ?_))
  rintro e w1 ⟨rfl, b1⟩
  replace BB := Lib.hid (bt BB.out b1)
  have l1 : w.heap.size ≤ w1.heap.size := BB.out.size
  clear b1
  go_wp2_with (first
    | ((with_reducible show wpList _ _ _ (⟨some 13, _, _, _, _, _⟩ :: _) _ _); refine wpList_build' rfl 25 #[] rfl (u8V (zeros 64)) build_b64 ?_)
    | ((with_reducible show wpList _ _ _ (⟨_, .alloc 25, _, _, _, none⟩ :: _) _ _); (with_reducible refine wpRow_alloc zeroT_b64 ?_ ?_ ?_); (· exact wanted0 rfl); (· rfl); refine Marker.mk ?_))
  refine Marker.in ?_
  have bel := below_alloc1 w1 (.cells (u8V (zeros 64)) 25)
  replace BB := Lib.hid (bt BB.out bel)
  have KF := Lib.hid (Blk.new w1 (u8V (zeros 64)) 25)
  clear bel
  generalize w1.alloc (.cells (u8V (zeros 64)) 25) = w2 at *
  generalize w1.heap.size = g6 at *
  go_wp2_with ((with_reducible show wpList _ _ _ (⟨_, .store 25 _ _, _, _, _, none⟩ :: _) _ _); (with_reducible refine wpBlk_store (g := g6) (cs := u8V (zeros 64)) agg_b64 ?_ ?_ KF ?_ ?_ ?_ ?_); (· exact wanted0 rfl); (· exact ⟨rfl, rfl, rfl⟩); (· rw [u8V_size, zeros_len]); (· rw [u8V_size, zeros_len]); (· exact u8V_one _); refine Marker.mk ?_)
  refine Marker.in ?_
  replace KF := Lib.hid (KF.out.setRow (u8V (zeros 64)))
  replace BB := Lib.hid (below_setRow (g := g6) BB.out (by omega) (u8V (zeros 64)))
  generalize w2.setRow g6 (u8V (zeros 64)) = w3 at *
  have lf := KF.out.lt
  go_wp2_with fail
  refine wp_region_qt' 6 (by kernel_rfl) (by kernel_rfl) ?_
  simp only [List.take_succ_cons, List.take_zero, List.drop_succ_cons, List.drop_zero]
  repeat (go_big_quiet_step (fail))
  refine wpQuiet_nil ?_
  intro _ hw'
  obtain ⟨nq, rfl⟩ := hw'
  replace BB := Lib.hid (below_drewN BB.out nq)
  replace KF := Lib.hid (KF.out.drewN nq)
  have lf' : g6 < (w3.drewN nq).heap.size := KF.out.lt
  clear lf
  generalize w3.drewN nq = w4 at *
  have HK1 := Lib.hid (row_below HK.out BB.out)
  (with_reducible refine wpBlk_copy ?_ g6 0 64 64 (zeros 64) 25 A 64 c k 64 (some ⟨g6, 0, none⟩) ?_ KF KL.out HK1 ?_ ?_ ?_ ?_)
  · exact wanted0 rfl
  · exact ⟨rfl, _, _, rfl, rfl, rfl⟩
  · exact Nat.min_eq_left (by omega)
  · rw [zeros_len]; omega
  · exact fun _ => rfl
  intro w5 KF' b5 o5 s5
  have e5 : putAt (zeros 64) 0 (k.take 64) = key64 k := by
    have h1 := KL.out
    rw [List.take_of_length_le (by omega), full_of k (by omega)]
    have h2 : keyed k = k := if_neg (by omega)
    unfold key64
    rw [h2]
  rw [e5] at KF'
  replace BB := Lib.hid (BB.out.trans (b5.mono (by omega)))
  clear KF o5 s5 b5 e5 HK1
  replace KF := Lib.hid KF'
  clear KF'
  have FL0 := key64_len k
  have FB0 := key64_bytes HK.out.2
  have HMAC : hmac k x = sha (turnB (key64 k) 92 ++ sha (turnB (key64 k) 54 ++ x)) := rfl
  generalize key64 k = full at *
  have FL := Lib.hid FL0
  replace HMAC := Lib.hid HMAC
  clear FL0 FB0
  have lf := KF.out.lt
  clear lf'
  go_wp2_with fail
  go_loopw [7, 8, 9] (fun p q y wr => ∃ (i : Nat) (P : Option Addr) (cp : Nat) (Z : Option Addr) (cz : Nat), i ≤ 64 ∧ y = .int .i64 i ∧ p = .slice P i cp ∧ q = .slice Z i cz ∧ Own wr (g6 + 1) P cp (turnB (full.take i) 54) ∧ Own wr (g6 + 1) Z cz (turnB (full.take i) 92) ∧ (∀ b, Z = some b → Apart P b.block) ∧ Below (g6 + 1) w5 wr) (fun _ _ y _ => 64 - (intOf y).toNat)
  case atStart =>
    have bl1 := below_alloc1 w5 (.cells #[] 5)
    have bl2 := below_alloc1 (w5.alloc (.cells #[] 5)) (.cells #[] 5)
    have e2 : (w5.alloc (.cells #[] 5)).heap.size = w5.heap.size + 1 := alloc_size _ _
    have o1 := own_below (own_lit w5 (g6 + 1) (by omega)) bl2
    have o2 := own_lit (w5.alloc (.cells #[] 5)) (g6 + 1) (by omega)
    rw [e2] at o2
    refine ⟨0, some ⟨w5.heap.size, 0, none⟩, 0, some ⟨w5.heap.size + 1, 0, none⟩, 0, Nat.zero_le _, rfl, rfl, rfl, o1, o2, fun b hb a ha => ?_, (bt bl1 bl2).mono (by omega)⟩
    injection hb with hb
    injection ha with ha
    subst hb ha
    show w5.heap.size ≠ w5.heap.size + 1
    omega
  case round =>
    obtain ⟨i, P, cp, Z, cz, hi, rfl, rfl, rfl, oP, oZ, hap, b6⟩ := hrel
    replace oP := Lib.hid oP
    replace oZ := Lib.hid oZ
    replace hap := Lib.hid hap
    replace b6 := Lib.hid b6
    have KF1 : Hid (Blk wr g6 (u8V full) 25) := Lib.hid ((b6.out.block g6 (by omega)).trans KF.out)
    have sz : g6 + 1 ≤ wr.heap.size := KF1.out.lt
    by_cases hlt : i < 64
    · have HS1 := Lib.hid (turnB_step full 54 i (by rw [FL.out]; exact hlt))
      have HS2 := Lib.hid (turnB_step full 92 i (by rw [FL.out]; exact hlt))
      have TL1 : Hid ((turnB (full.take i) 54).length = i) := Lib.hid (by rw [turnB_len, List.length_take, FL.out]; omega)
      have TL2 : Hid ((turnB (full.take i) 92).length = i) := Lib.hid (by rw [turnB_len, List.length_take, FL.out]; omega)
      have cd := KF1.out.cell i
      rw [u8V_get _ _ (by rw [FL.out]; exact hlt)] at cd
      generalize full.getD i 0 = f at *
      generalize turnB (full.take i) 54 = y1 at *
      generalize turnB (full.take i) 92 = y2 at *
      have t1 : decide ((i : Int) < 64) = true := decide_eq_true (by omega)
      have bl := Lib.hid (below_alloc1 wr (.cells #[.int .u8 (bits .xor .u8 f 54)] 5))
      have r1 := Lib.hid (one_byte wr (bits .xor .u8 f 54) (xor_byte _ _))
      go_wp2_with ((with_reducible show wpList _ _ _ (⟨some 33, _, _, _, _, _⟩ :: _) _ _); (with_reducible refine wpList_append_bytes' _ (wanted0 rfl) (.tmp 27) (.tmp 32) rfl (g6 + 1) P cp i y1 TL1.out ?_ (own_below oP.out bl.out) (some ⟨wr.heap.size, 0, none⟩) 1 1 [bits .xor .u8 f 54] rfl ?_ r1.out (by omega) (Nat.le_trans sz bl.out.size) ?_); (· rfl); (· rfl); intro P1 cp1 w7 o7 b7 k7; refine Marker.mk ?_)
      refine Marker.in ?_
      rw [← HS1.out] at o7
      have oZ7 := own_apart (own_below oZ.out bl.out) hap.out (fun k h1 h2 => (k7 k h1 h2).1)
      have hap7 : ∀ b, Z = some b → Apart P1 b.block := fun b hb => (k7 b.block (own_lt (own_below oZ.out bl.out) b hb).2 (hap.out b hb)).2
      have b7' := (b6.out.trans (bl.out.mono sz)).trans b7
      have KF2 : Hid (Blk w7 g6 (u8V full) 25) := Lib.hid ((b7'.block g6 (by omega)).trans KF.out)
      have sz7 : g6 + 1 ≤ w7.heap.size := KF2.out.lt
      have cd7 : w7.cell? ⟨g6, i, none⟩ = some (.int .u8 f) := by
        have h := (b7.block g6 (by omega)).trans (KF1.out.below bl.out)
        have h1 := (blk_cells KF1.out).1 i
        have h2 := (blk_cells h).1 i
        rw [h2, ← h1]; exact cd
      replace o7 := Lib.hid o7
      replace oZ7 := Lib.hid oZ7
      replace hap7 := Lib.hid hap7
      replace b7' := Lib.hid b7'
      have bl7 := Lib.hid (below_alloc1 w7 (.cells #[.int .u8 (bits .xor .u8 f 92)] 5))
      have r2 := Lib.hid (one_byte w7 (bits .xor .u8 f 92) (xor_byte _ _))
      clear b7 k7 cd r1 bl oP oZ hap b6 KF1 HS1 TL1
      go_wp2_with ((with_reducible show wpList _ _ _ (⟨some 40, _, _, _, _, _⟩ :: _) _ _); (with_reducible refine wpList_append_bytes' _ (wanted0 rfl) (.tmp 34) (.tmp 39) rfl (g6 + 1) Z cz i y2 TL2.out ?_ (own_below oZ7.out bl7.out) (some ⟨w7.heap.size, 0, none⟩) 1 1 [bits .xor .u8 f 92] rfl ?_ r2.out (by omega) (Nat.le_trans sz7 bl7.out.size) ?_); (· rfl); (· rfl); intro Z1 cz1 w8 o8 b8 k8; refine Marker.mk ?_)
      refine Marker.in ?_
      rw [← HS2.out] at o8
      have hap7s : ∀ a, P1 = some a → Apart Z a.block := fun a ha b hb e => hap7.out b hb a ha e.symm
      have oP8 := own_apart (own_below o7.out bl7.out) hap7s (fun k h1 h2 => (k8 k h1 h2).1)
      have hap8 : ∀ b, Z1 = some b → Apart P1 b.block := fun b hb a ha e => (k8 a.block (own_lt (own_below o7.out bl7.out) a ha).2 (hap7s a ha)).2 b hb e.symm
      have b8' := (b7'.out.trans (bl7.out.mono sz7)).trans b8
      replace o8 := Lib.hid o8
      replace oP8 := Lib.hid oP8
      replace hap8 := Lib.hid hap8
      replace b8' := Lib.hid b8'
      clear b8 k8 hap7s oZ7 o7 hap7 b7' bl7 r2 cd7
      go_wp2_with fail
      exact ⟨⟨i + 1, P1, cp1, Z1, cz1, by omega, by simp, rfl, rfl, oP8.out, o8.out, hap8.out, b8'.out⟩, by simp [intOf]; omega⟩
    · obtain rfl : i = 64 := by omega
      rw [show ((64 : Nat) : Int) = 64 from rfl]
      rw [List.take_of_length_le (by rw [FL.out]; omega)] at oP oZ
      have TL1 : Hid ((turnB full 54).length = 64) := Lib.hid (by rw [turnB_len, FL.out])
      have TL2 : Hid ((turnB full 92).length = 64) := Lib.hid (by rw [turnB_len, FL.out])
      generalize turnB full 54 = y1 at *
      generalize turnB full 92 = y2 at *
      replace BB := Lib.hid (BB.out.trans (b6.out.mono (by omega)))
      clear b6 KF1 KF
      go_wp2_with fail
      ((with_reducible refine (HG.out _).mono ?_))
      rintro e w2 ⟨rfl, rfl⟩
      have HX1 := Lib.hid (row_below HX.out BB.out)
      go_wp2_with ((with_reducible show wpList _ _ _ (⟨some 45, _, _, _, _, _⟩ :: _) _ _); (with_reducible refine wpList_append_bytes' _ (wanted0 rfl) (.tmp 43) (.tmp 44) rfl (g6 + 1) P cp 64 y1 TL1.out ?_ oP.out B d m x HM.out ?_ HX1.out (by omega) sz ?_); (· rfl); (· rfl); intro P1 cp1 w7 o7 b7 k7; refine Marker.mk ?_)
      refine Marker.in ?_
      have oZ7 := Lib.hid (own_apart oZ.out hap.out (fun k h1 h2 => (k7 k h1 h2).1))
      replace BB := Lib.hid (BB.out.trans (b7.mono (by omega)))
      have r7 := Lib.hid o7.row
      have s7 : g6 + 1 ≤ w7.heap.size := Nat.le_trans sz b7.size
      have CL7 : Hid ((y1 ++ x).length = 64 + m) := Lib.hid (by rw [List.length_append, TL1.out, HM.out])
      clear oP oZ hap b7 k7 o7 HX1
      go_wp2_with fail
      ((with_reducible refine (sum_any P1 (y1 ++ x) (64 + m) cp1 w7 CL7.out r7.out (by omega) (RT.out.below BB.out)).mono ?_))
      rintro e w8 ⟨rfl, b8⟩
      have S1L := sha_len (y1 ++ x)
      have S1B := sha_bytes (y1 ++ x)
      generalize sha (y1 ++ x) = s1 at *
      replace S1L := Lib.hid S1L
      replace S1B := Lib.hid S1B
      replace BB := Lib.hid (bt BB.out b8)
      have oZ8 := Lib.hid (own_below oZ7.out b8)
      have s8 : g6 + 1 ≤ w8.heap.size := Nat.le_trans s7 b8.size
      clear b8 oZ7 r7 CL7
      have hap11 : Apart Z w8.heap.size := fun a ha => Nat.ne_of_lt (own_lt oZ8.out a ha).2
      go_wp2_with ((with_reducible show wpList _ _ _ (⟨_, .alloc 28, _, _, _, none⟩ :: _) _ _); (with_reducible refine wpRow_alloc zeroT_b32 ?_ ?_ ?_); (· exact wanted0 rfl); (· rfl); refine Marker.mk ?_)
      refine Marker.in ?_
      replace oZ8 := Lib.hid (own_below oZ8.out (below_alloc1 w8 (.cells (u8V (zeros 32)) 28)))
      have bel := below_alloc1 w8 (.cells (u8V (zeros 32)) 28)
      replace BB := Lib.hid (bt BB.out bel)
      have K11 := Lib.hid (Blk.new w8 (u8V (zeros 32)) 28)
      clear bel
      generalize w8.alloc (.cells (u8V (zeros 32)) 28) = w9 at *
      generalize hg11 : w8.heap.size = g11 at *
      go_wp2_with ((with_reducible show wpList _ _ _ (⟨_, .store 28 _ _, _, _, _, none⟩ :: _) _ _); (with_reducible refine wpBlk_store (g := g11) (cs := u8V s1) agg_b32 ?_ ?_ K11 ?_ ?_ ?_ ?_); (· exact wanted0 rfl); (· exact ⟨rfl, rfl, rfl⟩); (· rw [u8V_size, zeros_len]); (· rw [u8V_size, S1L.out]); (· exact u8V_one _); refine Marker.mk ?_)
      refine Marker.in ?_
      replace oZ8 := Lib.hid (own_same (w' := w9.setRow g11 (u8V s1)) oZ8.out fun a ha => _root_.Go.setRow_other w9 g11 a.block _ (hap11 a ha))
      replace K11 := Lib.hid (K11.out.setRow (u8V s1))
      replace BB := Lib.hid (below_setRow (g := g11) BB.out (by omega) (u8V s1))
      generalize w9.setRow g11 (u8V s1) = w10 at *
      have CA := fun (W : World) (hb : Below w.heap.size w W) => of_any A B k x 64 m c d W KL.out HM.out (row_below HK.out hb) (row_below HX.out hb) (by omega) (by omega) (RT.out.below hb)
      simp only [HMAC.out] at CA
      have CL : Hid ((y2 ++ s1).length = 96) := Lib.hid (by rw [List.length_append, TL2.out, S1L.out])
      have CB := fun (P : Option Addr) (cp : Nat) (W : World) (hr : Row W P (y2 ++ s1)) (hb : Below w.heap.size w W) => sum_any P (y2 ++ s1) 96 cp W CL.out hr (by omega) (RT.out.below hb)
      have TL := sha_len (y2 ++ s1)
      generalize sha (y2 ++ s1) = t at *
      have EQ := eql_b32_self t TL
      replace CA := Lib.hid CA
      replace CB := Lib.hid CB
      clear TL HMAC hap11
      go_wp2_with fail
      refine wp_region_qx 11 (by kernel_rfl) (by kernel_rfl) ?_
      simp only [List.take_succ_cons, List.take_zero, List.drop_succ_cons, List.drop_zero]
      repeat (first
      | go_big_quiet_skip
      | (go_big_quiet_want
         first
           | (go_big_quiet_op
              first
                | go_big_quiet_on
                | go_big_quiet_call ((((with_reducible refine ext_of (CA.out _ ?_)); exact BB.out.trans (Below.mono (exw_bel _) BB.out.size)))))))
      refine wpQuiet_nil ?_
      intro _ hw'
      obtain ⟨y, rfl⟩ := hw'
      have by_ := exw_bel y
      replace oZ8 := Lib.hid (own_below oZ8.out by_)
      replace K11 := Lib.hid (K11.out.below by_)
      replace BB := Lib.hid (bt BB.out by_)
      clear by_ CA
      generalize exw w10 y = w11 at *
      have R11 : Hid (Row w11 (some ⟨g11, 0, none⟩) s1) := Lib.hid (u8V_row K11.out S1B.out)
      have s11 : g6 + 1 ≤ w11.heap.size := by have := K11.out.lt; omega
      go_wp2_with ((with_reducible show wpList _ _ _ (⟨some 58, _, _, _, _, _⟩ :: _) _ _); (with_reducible refine wpList_append_bytes' _ ?_ (.tmp 56) (.tmp 57) rfl (g6 + 1) Z cz 64 y2 TL2.out ?_ oZ8.out (some ⟨g11, 0, none⟩) 32 32 s1 S1L.out ?_ R11.out (by omega) s11 ?_); (· exact wantedY (j := 1) (d := 48) (want := true) rfl rfl rfl); (· rfl); (· rfl); intro P2 cp2 w12 o12 b12 k12; refine Marker.mk ?_)
      refine Marker.in ?_
      replace BB := Lib.hid (BB.out.trans (b12.mono (by omega)))
      have r12 := Lib.hid o12.row
      clear b12 k12 o12 oZ8 R11 K11
      go_wp2_with fail
      ((with_reducible refine (CB.out _ _ _ r12.out BB.out).mono ?_))
      rintro e w13 ⟨rfl, b13⟩
      replace BB := Lib.hid (bt BB.out b13)
      clear b13 r12 CB
      go_wp2_with fail
      go_ret
      exact ⟨rfl, BB.out⟩
theorem walk_MacMade (v0 v1 : Value) (w : World) (hR : Roots w) (q0 : IsRow .u8 w v0) (q1 : IsRow .u8 w v1) :
    Calls Tryd.prog 6 #[v0, v1] w fun e w' => e = .returned (.bool true) ∧ Below w.heap.size w w' := by
  obtain ⟨A, xs, cap, rfl, h1, h2, h3, h4⟩ := bytes_of_row q0
  obtain ⟨B, x, m, d, hm, m3, m1, m2, hx, hB, hg⟩ := few_of (k := 150) q1 few05
  by_cases h : xs.length ≤ 64
  · exact made_short A B xs x xs.length xs.length m cap d v1 w hR rfl h1 h2 h3 rfl h hm m3 hx hg
  · exact made_long A B xs x xs.length 64 m cap d v1 w hR rfl h1 h2 h3 rfl h hm m3 hx hg
end Go.Proofs.YtalekcpdkfdmaaaDoor
