/- sidestickref05.Of. -/
import Derived.Test.YtalekcpdkfdmaaaDoorRefS
import Derived.Test.YtalekcpdkfdmaaaDoorAppB
namespace Go.Proofs.YtalekcpdkfdmaaaDoor
open Go.RowKit

theorem turnB_step' (l : List Int) (b : Int) (i : Nat) (h : i < l.length) : turnB (l.take (i + 1)) b = turnB (l.take i) b ++ [bits .xor .u8 (l.getD i 0) b] := by
  unfold turnB
  rw [List.take_succ_eq_append_getElem h, List.map_append]
  congr 1
  simp [h]
theorem cur_get {cur : Array Value} {xs : List Int} (h : cur.toList.take xs.length = xs.map (Value.int .u8)) (i : Nat) (hi : i < xs.length) : cur[i]? = some (.int .u8 (xs.getD i 0)) := by
  rw [← Array.getElem?_toList, ← List.getElem?_take_of_lt hi, h]
  simp [hi]
set_option maxRecDepth 100000 in
set_option maxHeartbeats 1600000 in
theorem rof_short (A B : Option Addr) (k b : List Int) (n m c d : Nat) (w : World) (hn : k.length = n) (hm : b.length = m) (hk : Row w A k) (hb : Row w B b) (hl : n ≤ 64) (hl2 : m ≤ 900000) :
    Calls Tryd.prog 26 #[.slice A n c, .slice B m d] w fun e w' => e = .returned (.agg (u8V (hmac k b))) ∧ Below w.heap.size w w' := by
  have HKL := Lib.hid hn
  have HBL := Lib.hid hm
  have HKR := Lib.hid hk
  have HBR := Lib.hid hb
  obtain ⟨kk, hkk⟩ : ∃ x, keyed k = x := ⟨_, rfl⟩
  obtain ⟨kl, hkl⟩ : ∃ x, kk.length = x := ⟨_, rfl⟩
  have hkl2 : kl ≤ 64 := by rw [← hkl, ← hkk]; exact keyed_le k
  obtain ⟨full, hfull⟩ : ∃ x, key64 k = x := ⟨_, rfl⟩
  have hfu : kk ++ zeros (64 - kl) = full := by rw [← hfull, ← hkl, ← hkk]; rfl
  have FL : full.length = 64 := by rw [← hfull]; exact key64_len k
  have HM : hmac k b = sha (turnB full 92 ++ sha (turnB full 54 ++ b)) := by rw [← hfull]; rfl
  obtain ⟨ans, hans⟩ : ∃ a, hmac k b = a := ⟨_, rfl⟩
  rw [hans] at HM
  rw [hans]
  have AL : ans.length = 32 := by rw [← hans]; exact hmac_len k b
  have KKL := Lib.hid hkl
  have HFU := Lib.hid hfu
  replace FL := Lib.hid FL
  replace HM := Lib.hid HM
  replace AL := Lib.hid AL
  have hkk2 : k = kk := by rw [← hkk]; unfold keyed; rw [if_neg (by omega)]
  have HKK := Lib.hid hkk2
  clear hn hm hk hb hkl hfull hfu hans hkk hkk2
  have t0 : decide (64 < (n : Int)) = false := decide_eq_false (by omega)
  go_enter Tryd.func26, Tryd.ntmps26
  go_wp2_with ((with_reducible show wpList _ _ _ (⟨_, .alloc 28, _, _, _, none⟩ :: _) _ _); (with_reducible refine wpRow_alloc zeroT_b32 ?_ ?_ ?_); (· exact wanted0 rfl); (· rfl); refine Marker.mk ?_)
  refine Marker.in ?_
  have BB := Lib.hid (Below.refl w.heap.size w)
  have bel := below_alloc1 w (.cells (u8V (zeros 32)) 28)
  replace BB := Lib.hid (bt BB.out bel)
  have K4 := Lib.hid (Blk.new w (u8V (zeros 32)) 28)
  clear bel
  generalize w.alloc (.cells (u8V (zeros 32)) 28) = w1 at *
  have l1 := K4.out.lt
  have bl := Lib.hid (below_alloc1 w1 (.cells #[] 5))
  have o1 := Lib.hid (own_lit w1 w.heap.size (by omega))
  have HKR1 := Lib.hid ((row_below HKR.out (bt BB.out bl.out)))
  go_wp2_with ((with_reducible show wpList _ _ _ (⟨some 13, _, _, _, _, _⟩ :: _) _ _); (with_reducible refine wpList_append_bytes' _ (wanted0 rfl) (.tmp 11) (.tmp 12) rfl w.heap.size (some ⟨w1.heap.size, 0, none⟩) 0 0 [] rfl ?_ o1.out A c n k HKL.out ?_ HKR1.out (by omega) (by have := bl.out.size; omega) ?_); (· rfl); (· rfl); intro B2 d2 w2 o2 b2 k2; refine Marker.mk ?_)
  refine Marker.in ?_
  have k4 := k2 w.heap.size (by have := bl.out.size; omega) (fun a ha => by injection ha with ha; subst ha; show w1.heap.size ≠ _; omega)
  have ne2 := k4.2
  replace K4 := Lib.hid (show Blk w2 w.heap.size (u8V (zeros 32)) 28 from k4.1.trans (K4.out.below bl.out))
  replace BB := Lib.hid ((bt BB.out bl.out).trans b2)
  rw [List.nil_append] at o2
  replace o2 := Lib.hid o2
  try simp only [Nat.zero_add]
  clear k4 b2 k2 o1 HKR1 bl
  go_wp2_with fail
  clear t0
  rw [HKK.out] at o2 HKL
  have hkn : n = kl := by rw [← HKL.out, KKL.out]
  subst hkn
  have o3 := o2
  have ne3 := ne2
  clear o2 ne2
  go_loopw [5] (fun x wr => ∃ (j : Nat) (C : Option Addr) (f L : Nat), j ≤ 64 - n ∧ x = .slice C L f ∧ L = n + j ∧ Own wr w.heap.size C f (kk ++ zeros j) ∧ (∀ a, C = some a → a.block ≠ w.heap.size) ∧ Blk wr w.heap.size (u8V (zeros 32)) 28 ∧ Below w.heap.size w wr) (fun x _ => match x with | .slice _ L _ => 64 - L | _ => 0)
  case atStart => exact ⟨0, B2, d2, n, Nat.zero_le _, rfl, rfl, by simpa [zeros] using o3.out, ne3, K4.out, BB.out⟩
  case round =>
    clear o3 BB K4 ne3
    obtain ⟨j, C, f, L, hj, rfl, hL, ho, hne, K4, BB⟩ := hrel
    have LX : (kk ++ zeros j).length = L := by rw [List.length_append, zeros_len, KKL.out, hL]
    replace BB := Lib.hid BB
    replace ho := Lib.hid ho
    replace K4 := Lib.hid K4
    replace LX := Lib.hid LX
    by_cases hlt : L < 64
    · have t1 : decide ((L : Int) < 64) = true := decide_eq_true (by omega)
      have r1 := Lib.hid (one_byte (w := wr) 0 (by omega))
      have bl := Lib.hid (below_alloc1 wr (.cells #[.int .u8 0] 5))
      have l4 := K4.out.lt
      have HL := Lib.hid hL
      clear hL
      go_wp2_with ((with_reducible show wpList _ _ _ (⟨some 27, _, _, _, _, _⟩ :: _) _ _); (with_reducible refine wpList_append_bytes' _ (wanted0 rfl) (.tmp 25) (.tmp 26) rfl w.heap.size C f L (kk ++ zeros j) LX.out ?_ (own_below ho.out bl.out) (some ⟨wr.heap.size, 0, none⟩) 1 1 [0] rfl ?_ r1.out (by omega) (by have := bl.out.size; omega) ?_); (· rfl); (· rfl); intro B1 d1 w6 o6 b6 k6; refine Marker.mk ?_)
      refine Marker.in ?_
      have e6 : (kk ++ zeros j) ++ [0] = kk ++ zeros (j + 1) := by unfold zeros; rw [List.replicate_succ']; simp
      rw [e6] at o6
      have ne6 : ∀ a, B1 = some a → a.block ≠ w.heap.size := fun a ha => (k6 w.heap.size (by have := bl.out.size; omega) (fun a ha => hne a ha)).2 a ha
      have K46 : Blk w6 w.heap.size (u8V (zeros 32)) 28 := (k6 w.heap.size (by have := bl.out.size; omega) (fun a ha => hne a ha)).1.trans (K4.out.below bl.out)
      have BB6 := (BB.out.trans (bl.out.mono (by omega))).trans b6
      replace o6 := Lib.hid o6
      replace K46 := Lib.hid K46
      replace BB6 := Lib.hid BB6
      clear b6 k6 r1 bl e6 t1
      go_wp2_with fail
      have hL := HL.out
      exact ⟨⟨j + 1, B1, d1, L + 1, by omega, rfl, by omega, o6.out, ne6, K46.out, BB6.out⟩, by simp only; omega⟩
    · have hL64 : L = 64 := by omega
      have hj2 : j = 64 - n := by omega
      subst hj2
      subst hL64
      rw [HFU.out] at ho LX
      obtain ⟨gk, cur, rfl, hgk, KK, hcur, -⟩ := own_blk ho.out (by rw [LX.out]; omega)
      have nk := hne _ rfl
      replace KK := Lib.hid KK
      replace hcur := Lib.hid hcur
      clear ho hne hL
      have t1 : decide (((64 : Nat) : Int) < 64) = false := rfl
      go_wp2_with fail
      clear t1
      have l4 := K4.out.lt
      have lk := KK.out.lt
      obtain ⟨w9, rfl⟩ : ∃ w9, w9 = wr := ⟨_, rfl⟩
      go_loopw [7, 8, 9] (fun p q y wx => ∃ (i : Nat) (P : Option Addr) (cp : Nat) (Z : Option Addr) (cz : Nat), i ≤ 64 ∧ y = .int .i64 i ∧ p = .slice P i cp ∧ q = .slice Z i cz ∧ Own wx w9.heap.size P cp (turnB (full.take i) 54) ∧ Own wx w9.heap.size Z cz (turnB (full.take i) 92) ∧ (∀ b, Z = some b → Apart P b.block) ∧ Below w9.heap.size w9 wx) (fun _ _ y _ => 64 - (intOf y).toNat)
      case atStart =>
        have bl1 := below_alloc1 w9 (.cells #[] 5)
        have bl2 := below_alloc1 (w9.alloc (.cells #[] 5)) (.cells #[] 5)
        have e2 : (w9.alloc (.cells #[] 5)).heap.size = w9.heap.size + 1 := alloc_size _ _
        have o1 := own_below (own_lit w9 w9.heap.size (by omega)) bl2
        have o2 := own_lit (w9.alloc (.cells #[] 5)) w9.heap.size (by omega)
        rw [e2] at o2
        refine ⟨0, some ⟨w9.heap.size, 0, none⟩, 0, some ⟨w9.heap.size + 1, 0, none⟩, 0, Nat.zero_le _, rfl, rfl, rfl, o1, o2, fun b hb a ha => ?_, bt bl1 bl2⟩
        injection hb with hb
        injection ha with ha
        subst hb ha
        show w9.heap.size ≠ w9.heap.size + 1
        omega
      case round =>
        obtain ⟨i, P, cp, Z, cz, hi, rfl, rfl, rfl, oP, oZ, hap, b6⟩ := hrel
        replace oP := Lib.hid oP
        replace oZ := Lib.hid oZ
        replace hap := Lib.hid hap
        replace b6 := Lib.hid b6
        have KF1 : Hid (Blk wr gk cur 5) := Lib.hid ((b6.out.block gk lk).trans KK.out)
        have sz : w9.heap.size ≤ wr.heap.size := b6.out.size
        by_cases hlt : i < 64
        · have HS1 := Lib.hid (turnB_step' full 54 i (by rw [FL.out]; exact hlt))
          have HS2 := Lib.hid (turnB_step' full 92 i (by rw [FL.out]; exact hlt))
          have TL1 : Hid ((turnB (full.take i) 54).length = i) := Lib.hid (by rw [turnB_len, List.length_take, FL.out]; omega)
          have TL2 : Hid ((turnB (full.take i) 92).length = i) := Lib.hid (by rw [turnB_len, List.length_take, FL.out]; omega)
          have cd := KF1.out.cell i
          rw [cur_get hcur.out i (by rw [FL.out]; exact hlt)] at cd
          generalize full.getD i 0 = f at *
          generalize turnB (full.take i) 54 = y1 at *
          generalize turnB (full.take i) 92 = y2 at *
          have t1 : decide ((i : Int) < 64) = true := decide_eq_true (by omega)
          have bl := Lib.hid (below_alloc1 wr (.cells #[.int .u8 (bits .xor .u8 f 54)] 5))
          have r1 := Lib.hid (one_byte (w := wr) (bits .xor .u8 f 54) (xor_byte _ _))
          go_wp2_with ((with_reducible show wpList _ _ _ (⟨some 41, _, _, _, _, _⟩ :: _) _ _); (with_reducible refine wpList_append_bytes' _ (wanted0 rfl) (.tmp 34) (.tmp 40) rfl w9.heap.size P cp i y1 TL1.out ?_ (own_below oP.out bl.out) (some ⟨wr.heap.size, 0, none⟩) 1 1 [bits .xor .u8 f 54] rfl ?_ r1.out (by omega) (Nat.le_trans sz bl.out.size) ?_); (· rfl); (· rfl); intro P1 cp1 w7 o7 b7 k7; refine Marker.mk ?_)
          refine Marker.in ?_
          rw [← HS1.out] at o7
          have oZ7 := own_apart (own_below oZ.out bl.out) hap.out (fun k h1 h2 => (k7 k h1 h2).1)
          have hap7 : ∀ b, Z = some b → Apart P1 b.block := fun b hb => (k7 b.block (own_lt (own_below oZ.out bl.out) b hb).2 (hap.out b hb)).2
          have b7' := (b6.out.trans (bl.out.mono sz)).trans b7
          have cd7 : w7.cell? ⟨gk, i, none⟩ = some (.int .u8 f) := by
            have h : Blk w7 gk cur 5 := (b7'.block gk lk).trans KK.out
            rw [h.cell i, ← KF1.out.cell i]; exact cd
          have sz7 : w9.heap.size ≤ w7.heap.size := b7'.size
          replace o7 := Lib.hid o7
          replace oZ7 := Lib.hid oZ7
          replace hap7 := Lib.hid hap7
          replace b7' := Lib.hid b7'
          have bl7 := Lib.hid (below_alloc1 w7 (.cells #[.int .u8 (bits .xor .u8 f 92)] 5))
          have r2 := Lib.hid (one_byte (w := w7) (bits .xor .u8 f 92) (xor_byte _ _))
          clear b7 k7 cd r1 bl oP oZ hap b6 KF1 HS1 TL1
          go_wp2_with ((with_reducible show wpList _ _ _ (⟨some 49, _, _, _, _, _⟩ :: _) _ _); (with_reducible refine wpList_append_bytes' _ (wanted0 rfl) (.tmp 42) (.tmp 48) rfl w9.heap.size Z cz i y2 TL2.out ?_ (own_below oZ7.out bl7.out) (some ⟨w7.heap.size, 0, none⟩) 1 1 [bits .xor .u8 f 92] rfl ?_ r2.out (by omega) (Nat.le_trans sz7 bl7.out.size) ?_); (· rfl); (· rfl); intro Z1 cz1 w8 o8 b8 k8; refine Marker.mk ?_)
          refine Marker.in ?_
          rw [← HS2.out] at o8
          have hap7s : ∀ a, P1 = some a → Apart Z a.block := fun a ha b hb e => hap7.out b hb a ha e.symm
          have oP8 := own_apart (own_below o7.out bl7.out) hap7s (fun k h1 h2 => (k8 k h1 h2).1)
          have hap8 : ∀ b, Z1 = some b → Apart P1 b.block := fun b hb a ha e => (k8 a.block (own_lt (own_below o7.out bl7.out) a ha).2 (hap7s a ha)).2 b hb e.symm
          have b8' := (b7'.out.trans (bl7.out.mono sz7)).trans b8
          replace o8 := Lib.hid o8
          replace oP8 := Lib.hid oP8
          replace hap8 := Lib.hid hap8
          replace b8' := Lib.hid b8'
          clear b8 k8 hap7s oZ7 o7 hap7 b7' bl7 r2 cd7
          go_wp2_with fail
          exact ⟨⟨i + 1, P1, cp1, Z1, cz1, by omega, by simp, rfl, rfl, oP8.out, o8.out, hap8.out, b8'.out⟩, by simp [intOf]; omega⟩
        · obtain rfl : i = 64 := by omega
          rw [show ((64 : Nat) : Int) = 64 from rfl]
          rw [List.take_of_length_le (by rw [FL.out]; omega)] at oP oZ
          have TL1 : Hid ((turnB full 54).length = 64) := Lib.hid (by rw [turnB_len, FL.out])
          have TL2 : Hid ((turnB full 92).length = 64) := Lib.hid (by rw [turnB_len, FL.out])
          generalize turnB full 54 = y1 at *
          generalize turnB full 92 = y2 at *
          replace K4 := Lib.hid (show Blk wr w.heap.size (u8V (zeros 32)) 28 from (b6.out.block _ l4).trans K4.out)
          replace BB := Lib.hid (BB.out.trans (b6.out.mono (by omega)))
          have rb := Lib.hid (row_below HBR.out BB.out)
          go_wp2_with ((with_reducible show wpList _ _ _ (⟨some 52, _, _, _, _, _⟩ :: _) _ _); (with_reducible refine wpList_append_bytes' _ (wanted0 rfl) (.tmp 50) (.tmp 51) rfl w9.heap.size P cp 64 y1 TL1.out ?_ oP.out B d m b HBL.out ?_ rb.out (by omega) sz ?_); (· rfl); (· rfl); intro P1 cp1 w10 o10 b10 k10; refine Marker.mk ?_)
          refine Marker.in ?_
          have oZ10 := Lib.hid (own_apart oZ.out hap.out (fun k h1 h2 => (k10 k h1 h2).1))
          have l44 := K4.out.lt
          replace K4 := Lib.hid (show Blk w10 w.heap.size (u8V (zeros 32)) 28 from (b10.block _ l4).trans K4.out)
          replace BB := Lib.hid (BB.out.trans (b10.mono (by omega)))
          have LJ : Hid ((y1 ++ b).length = 64 + m) := Lib.hid (by rw [List.length_append, TL1.out, HBL.out])
          have rj := Lib.hid o10.row
          have sz10 : w9.heap.size ≤ w10.heap.size := Nat.le_trans sz b10.size
          clear o10 k10 b10 oZ oP hap b6 KF1 rb
          generalize hJ : y1 ++ b = j1 at *
          replace hJ := Lib.hid hJ
          go_wp2_with fail
          ((with_reducible refine (rsum_any P1 j1 (64 + m) cp1 w10 LJ.out rj.out (by omega)).mono ?_))
          rintro e w11 ⟨rfl, b11⟩
          replace K4 := Lib.hid (K4.out.below b11)
          replace BB := Lib.hid (bt BB.out b11)
          replace oZ10 := Lib.hid (own_below oZ10.out b11)
          have S1L := sha_len j1
          have S1B := sha_bytes j1
          generalize hS : sha j1 = s1 at *
          replace hS := Lib.hid hS
          replace S1L := Lib.hid S1L
          replace S1B := Lib.hid S1B
          have l11 := K4.out.lt
          have sz11 : w9.heap.size ≤ w11.heap.size := Nat.le_trans sz10 b11.size
          clear b11 rj
          go_wp2_with ((with_reducible show wpList _ _ _ (⟨_, .alloc 28, _, _, _, none⟩ :: _) _ _); (with_reducible refine wpRow_alloc zeroT_b32 ?_ ?_ ?_); (· exact wanted0 rfl); (· rfl); refine Marker.mk ?_)
          refine Marker.in ?_
          have bel := below_alloc1 w11 (.cells (u8V (zeros 32)) 28)
          have zlt := fun a ha => (own_lt oZ10.out a ha).2
          replace K4 := Lib.hid (K4.out.below bel)
          replace BB := Lib.hid (bt BB.out bel)
          replace oZ10 := Lib.hid (own_below oZ10.out bel)
          have K10 := Lib.hid (Blk.new w11 (u8V (zeros 32)) 28)
          have sz12 := Nat.le_trans sz11 bel.size
          clear bel
          generalize w11.alloc (.cells (u8V (zeros 32)) 28) = w12 at *
          generalize w11.heap.size = g10 at *
          go_wp2_with ((with_reducible show wpList _ _ _ (⟨_, .store 28 _ _, _, _, _, none⟩ :: _) _ _); (with_reducible refine wpBlk_store (g := g10) (cs := u8V s1) agg_b32 ?_ ?_ K10 ?_ ?_ ?_ ?_); (· exact wanted0 rfl); (· exact ⟨rfl, rfl, rfl⟩); (· rw [u8V_size, zeros_len]); (· rw [u8V_size, S1L.out]); (· exact u8V_one _); refine Marker.mk ?_)
          refine Marker.in ?_
          replace K4 := Lib.hid (K4.out.setRow_other g10 (u8V s1) (by omega))
          replace oZ10 := Lib.hid (own_same (w' := w12.setRow g10 (u8V s1)) oZ10.out (fun a ha => setRow_other w12 g10 a.block (u8V s1) (by have := zlt a ha; omega)))
          replace K10 := Lib.hid (K10.out.setRow (u8V s1))
          replace BB := Lib.hid (below_setRow (g := g10) BB.out (by omega) (u8V s1))
          have l12 := K10.out.lt
          have sz13 : w9.heap.size ≤ (w12.setRow g10 (u8V s1)).heap.size := by simpa using sz12
          clear zlt
          generalize w12.setRow g10 (u8V s1) = w13 at *
          have rs := Lib.hid (u8V_row K10.out S1B.out)
          go_wp2_with ((with_reducible show wpList _ _ _ (⟨some 56, _, _, _, _, _⟩ :: _) _ _); (with_reducible refine wpList_append_bytes' _ (wanted0 rfl) (.tmp 54) (.tmp 55) rfl w9.heap.size Z cz 64 y2 TL2.out ?_ oZ10.out (some ⟨g10, 0, none⟩) 32 32 s1 S1L.out ?_ rs.out (by omega) sz13 ?_); (· rfl); (· rfl); intro Z1 cz1 w14 o14 b14 k14; refine Marker.mk ?_)
          refine Marker.in ?_
          replace K4 := Lib.hid (show Blk w14 w.heap.size (u8V (zeros 32)) 28 from (b14.block _ l4).trans K4.out)
          replace BB := Lib.hid (BB.out.trans (b14.mono (by omega)))
          have LJ2 : Hid ((y2 ++ s1).length = 96) := Lib.hid (by rw [List.length_append, TL2.out, S1L.out])
          have rj2 := Lib.hid o14.row
          clear o14 k14 b14 oZ10 rs K10
          have ea : sha (y2 ++ s1) = ans := HM.out.symm
          go_wp2_with fail
          ((with_reducible refine (rsum_any Z1 (y2 ++ s1) 96 cz1 w14 LJ2.out rj2.out (by omega)).mono ?_))
          rintro e w15 ⟨rfl, b15⟩
          rw [ea]
          replace K4 := Lib.hid (K4.out.below b15)
          replace BB := Lib.hid (bt BB.out b15)
          clear b15 rj2 ea
          go_wp2_with ((with_reducible show wpList _ _ _ (⟨_, .store 28 _ _, _, _, _, none⟩ :: _) _ _); (with_reducible refine wpBlk_store (g := w.heap.size) (cs := u8V ans) agg_b32 ?_ ?_ K4 ?_ ?_ ?_ ?_); (· exact wanted0 rfl); (· exact ⟨rfl, rfl, rfl⟩); (· rw [u8V_size, zeros_len]); (· rw [u8V_size, AL.out]); (· exact u8V_one _))
          refine bodyPost_ret (v := .agg (u8V ans)) (results_blk agg_b32 rfl _ _ (w.heap.size) _ rfl (K4.out.setRow _) (by rw [u8V_size, AL.out])) rfl ⟨rfl, below_setRow BB.out (by omega) _⟩
set_option maxRecDepth 100000 in
set_option maxHeartbeats 1600000 in
theorem rof_long (A B : Option Addr) (k b : List Int) (n m c d : Nat) (w : World) (hn : k.length = n) (hm : b.length = m) (hk : Row w A k) (hb : Row w B b) (hl : 64 < n ∧ n ≤ 1000000) (hl2 : m ≤ 900000) :
    Calls Tryd.prog 26 #[.slice A n c, .slice B m d] w fun e w' => e = .returned (.agg (u8V (hmac k b))) ∧ Below w.heap.size w w' := by
  have HKL := Lib.hid hn
  have HBL := Lib.hid hm
  have HKR := Lib.hid hk
  have HBR := Lib.hid hb
  obtain ⟨kk, hkk⟩ : ∃ x, keyed k = x := ⟨_, rfl⟩
  obtain ⟨kl, hkl⟩ : ∃ x, kk.length = x := ⟨_, rfl⟩
  have hkl2 : kl ≤ 64 := by rw [← hkl, ← hkk]; exact keyed_le k
  obtain ⟨full, hfull⟩ : ∃ x, key64 k = x := ⟨_, rfl⟩
  have hfu : kk ++ zeros (64 - kl) = full := by rw [← hfull, ← hkl, ← hkk]; rfl
  have FL : full.length = 64 := by rw [← hfull]; exact key64_len k
  have HM : hmac k b = sha (turnB full 92 ++ sha (turnB full 54 ++ b)) := by rw [← hfull]; rfl
  obtain ⟨ans, hans⟩ : ∃ a, hmac k b = a := ⟨_, rfl⟩
  rw [hans] at HM
  rw [hans]
  have AL : ans.length = 32 := by rw [← hans]; exact hmac_len k b
  have KKL := Lib.hid hkl
  have HFU := Lib.hid hfu
  replace FL := Lib.hid FL
  replace HM := Lib.hid HM
  replace AL := Lib.hid AL
  have hkk2 : sha k = kk := by rw [← hkk]; unfold keyed; rw [if_pos (by omega)]
  have HKK := Lib.hid hkk2
  clear hn hm hk hb hkl hfull hfu hans hkk hkk2
  have t0 : decide (64 < (n : Int)) = true := decide_eq_true (by omega)
  go_enter Tryd.func26, Tryd.ntmps26
  go_wp2_with ((with_reducible show wpList _ _ _ (⟨_, .alloc 28, _, _, _, none⟩ :: _) _ _); (with_reducible refine wpRow_alloc zeroT_b32 ?_ ?_ ?_); (· exact wanted0 rfl); (· rfl); refine Marker.mk ?_)
  refine Marker.in ?_
  have BB := Lib.hid (Below.refl w.heap.size w)
  have bel := below_alloc1 w (.cells (u8V (zeros 32)) 28)
  replace BB := Lib.hid (bt BB.out bel)
  have K4 := Lib.hid (Blk.new w (u8V (zeros 32)) 28)
  clear bel
  generalize w.alloc (.cells (u8V (zeros 32)) 28) = w1 at *
  have l1 := K4.out.lt
  have bl := Lib.hid (below_alloc1 w1 (.cells #[] 5))
  have o1 := Lib.hid (own_lit w1 w.heap.size (by omega))
  have HKR1 := Lib.hid ((row_below HKR.out (bt BB.out bl.out)))
  go_wp2_with ((with_reducible show wpList _ _ _ (⟨some 13, _, _, _, _, _⟩ :: _) _ _); (with_reducible refine wpList_append_bytes' _ (wanted0 rfl) (.tmp 11) (.tmp 12) rfl w.heap.size (some ⟨w1.heap.size, 0, none⟩) 0 0 [] rfl ?_ o1.out A c n k HKL.out ?_ HKR1.out (by omega) (by have := bl.out.size; omega) ?_); (· rfl); (· rfl); intro B2 d2 w2 o2 b2 k2; refine Marker.mk ?_)
  refine Marker.in ?_
  have k4 := k2 w.heap.size (by have := bl.out.size; omega) (fun a ha => by injection ha with ha; subst ha; show w1.heap.size ≠ _; omega)
  have ne2 := k4.2
  replace K4 := Lib.hid (show Blk w2 w.heap.size (u8V (zeros 32)) 28 from k4.1.trans (K4.out.below bl.out))
  replace BB := Lib.hid ((bt BB.out bl.out).trans b2)
  rw [List.nil_append] at o2
  replace o2 := Lib.hid o2
  try simp only [Nat.zero_add]
  clear k4 b2 k2 o1 HKR1 bl
  go_wp2_with fail
  clear t0
  ((with_reducible refine (rsum_any B2 k n d2 w2 HKL.out o2.out.row (by omega)).mono ?_))
  rintro e w3 ⟨rfl, b3⟩
  rw [HKK.out]
  replace K4 := Lib.hid (K4.out.below b3)
  replace BB := Lib.hid (bt BB.out b3)
  clear b3 o2
  have SL : Hid (kk.length = 32) := Lib.hid (by rw [← HKK.out]; exact sha_len k)
  have SB : Hid (∀ x ∈ kk, 0 ≤ x ∧ x ≤ 255) := Lib.hid (by rw [← HKK.out]; exact sha_bytes k)
  have l3 := K4.out.lt
  go_wp2_with ((with_reducible show wpList _ _ _ (⟨_, .alloc 28, _, _, _, none⟩ :: _) _ _); (with_reducible refine wpRow_alloc zeroT_b32 ?_ ?_ ?_); (· exact wanted0 rfl); (· rfl); refine Marker.mk ?_)
  refine Marker.in ?_
  have bel := below_alloc1 w3 (.cells (u8V (zeros 32)) 28)
  replace K4 := Lib.hid (K4.out.below bel)
  replace BB := Lib.hid (bt BB.out bel)
  have K6 := Lib.hid (Blk.new w3 (u8V (zeros 32)) 28)
  clear bel
  generalize w3.alloc (.cells (u8V (zeros 32)) 28) = w4 at *
  generalize w3.heap.size = g6 at *
  go_wp2_with ((with_reducible show wpList _ _ _ (⟨_, .store 28 _ _, _, _, _, none⟩ :: _) _ _); (with_reducible refine wpBlk_store (g := g6) (cs := u8V kk) agg_b32 ?_ ?_ K6 ?_ ?_ ?_ ?_); (· exact wanted0 rfl); (· exact ⟨rfl, rfl, rfl⟩); (· rw [u8V_size, zeros_len]); (· rw [u8V_size, SL.out]); (· exact u8V_one _); refine Marker.mk ?_)
  refine Marker.in ?_
  replace K4 := Lib.hid (K4.out.setRow_other g6 (u8V kk) (by omega))
  replace K6 := Lib.hid (K6.out.setRow (u8V kk))
  replace BB := Lib.hid (below_setRow (g := g6) BB.out (by omega) (u8V kk))
  generalize w4.setRow g6 (u8V kk) = w5 at *
  have l5 := K4.out.lt
  have bl := Lib.hid (below_alloc1 w5 (.cells #[] 5))
  have o1 := Lib.hid (own_lit w5 w.heap.size (by omega))
  have r5 := Lib.hid (row_below (u8V_row K6.out SB.out) bl.out)
  go_wp2_with ((with_reducible show wpList _ _ _ (⟨some 21, _, _, _, _, _⟩ :: _) _ _); (with_reducible refine wpList_append_bytes' _ (wanted0 rfl) (.tmp 19) (.tmp 20) rfl w.heap.size (some ⟨w5.heap.size, 0, none⟩) 0 0 [] rfl ?_ o1.out (some ⟨g6, 0, none⟩) 32 32 kk SL.out ?_ r5.out (by omega) (by have := bl.out.size; omega) ?_); (· rfl); (· rfl); intro B6 d6 w6 o6 b6 k6; refine Marker.mk ?_)
  refine Marker.in ?_
  have k4 := k6 w.heap.size (by have := bl.out.size; omega) (fun a ha => by injection ha with ha; subst ha; show w5.heap.size ≠ _; omega)
  have ne3 := k4.2
  replace K4 := Lib.hid (show Blk w6 w.heap.size (u8V (zeros 32)) 28 from k4.1.trans (K4.out.below bl.out))
  replace BB := Lib.hid ((bt BB.out bl.out).trans b6)
  rw [List.nil_append] at o6
  replace o6 := Lib.hid o6
  try simp only [Nat.zero_add]
  have h32 : kl = 32 := by rw [← KKL.out, SL.out]
  subst h32
  clear k4 b6 k6 o1 r5 bl K6
  go_wp2_with fail
  have o3 := o6
  go_loopw [5] (fun x wr => ∃ (j : Nat) (C : Option Addr) (f L : Nat), j ≤ 64 - 32 ∧ x = .slice C L f ∧ L = 32 + j ∧ Own wr w.heap.size C f (kk ++ zeros j) ∧ (∀ a, C = some a → a.block ≠ w.heap.size) ∧ Blk wr w.heap.size (u8V (zeros 32)) 28 ∧ Below w.heap.size w wr) (fun x _ => match x with | .slice _ L _ => 64 - L | _ => 0)
  case atStart => exact ⟨0, B6, d6, 32, Nat.zero_le _, rfl, rfl, by simpa [zeros] using o3.out, ne3, K4.out, BB.out⟩
  case round =>
    clear o3 BB K4 ne3
    obtain ⟨j, C, f, L, hj, rfl, hL, ho, hne, K4, BB⟩ := hrel
    have LX : (kk ++ zeros j).length = L := by rw [List.length_append, zeros_len, KKL.out, hL]
    replace BB := Lib.hid BB
    replace ho := Lib.hid ho
    replace K4 := Lib.hid K4
    replace LX := Lib.hid LX
    by_cases hlt : L < 64
    · have t1 : decide ((L : Int) < 64) = true := decide_eq_true (by omega)
      have r1 := Lib.hid (one_byte (w := wr) 0 (by omega))
      have bl := Lib.hid (below_alloc1 wr (.cells #[.int .u8 0] 5))
      have l4 := K4.out.lt
      have HL := Lib.hid hL
      clear hL
      go_wp2_with ((with_reducible show wpList _ _ _ (⟨some 27, _, _, _, _, _⟩ :: _) _ _); (with_reducible refine wpList_append_bytes' _ (wanted0 rfl) (.tmp 25) (.tmp 26) rfl w.heap.size C f L (kk ++ zeros j) LX.out ?_ (own_below ho.out bl.out) (some ⟨wr.heap.size, 0, none⟩) 1 1 [0] rfl ?_ r1.out (by omega) (by have := bl.out.size; omega) ?_); (· rfl); (· rfl); intro B1 d1 w6 o6 b6 k6; refine Marker.mk ?_)
      refine Marker.in ?_
      have e6 : (kk ++ zeros j) ++ [0] = kk ++ zeros (j + 1) := by unfold zeros; rw [List.replicate_succ']; simp
      rw [e6] at o6
      have ne6 : ∀ a, B1 = some a → a.block ≠ w.heap.size := fun a ha => (k6 w.heap.size (by have := bl.out.size; omega) (fun a ha => hne a ha)).2 a ha
      have K46 : Blk w6 w.heap.size (u8V (zeros 32)) 28 := (k6 w.heap.size (by have := bl.out.size; omega) (fun a ha => hne a ha)).1.trans (K4.out.below bl.out)
      have BB6 := (BB.out.trans (bl.out.mono (by omega))).trans b6
      replace o6 := Lib.hid o6
      replace K46 := Lib.hid K46
      replace BB6 := Lib.hid BB6
      clear b6 k6 r1 bl e6 t1
      go_wp2_with fail
      have hL := HL.out
      exact ⟨⟨j + 1, B1, d1, L + 1, by omega, rfl, by omega, o6.out, ne6, K46.out, BB6.out⟩, by simp only; omega⟩
    · have hL64 : L = 64 := by omega
      have hj2 : j = 64 - 32 := by omega
      subst hj2
      subst hL64
      rw [HFU.out] at ho LX
      obtain ⟨gk, cur, rfl, hgk, KK, hcur, -⟩ := own_blk ho.out (by rw [LX.out]; omega)
      have nk := hne _ rfl
      replace KK := Lib.hid KK
      replace hcur := Lib.hid hcur
      clear ho hne hL
      have t1 : decide (((64 : Nat) : Int) < 64) = false := rfl
      go_wp2_with fail
      clear t1
      have l4 := K4.out.lt
      have lk := KK.out.lt
      obtain ⟨w9, rfl⟩ : ∃ w9, w9 = wr := ⟨_, rfl⟩
      go_loopw [7, 8, 9] (fun p q y wx => ∃ (i : Nat) (P : Option Addr) (cp : Nat) (Z : Option Addr) (cz : Nat), i ≤ 64 ∧ y = .int .i64 i ∧ p = .slice P i cp ∧ q = .slice Z i cz ∧ Own wx w9.heap.size P cp (turnB (full.take i) 54) ∧ Own wx w9.heap.size Z cz (turnB (full.take i) 92) ∧ (∀ b, Z = some b → Apart P b.block) ∧ Below w9.heap.size w9 wx) (fun _ _ y _ => 64 - (intOf y).toNat)
      case atStart =>
        have bl1 := below_alloc1 w9 (.cells #[] 5)
        have bl2 := below_alloc1 (w9.alloc (.cells #[] 5)) (.cells #[] 5)
        have e2 : (w9.alloc (.cells #[] 5)).heap.size = w9.heap.size + 1 := alloc_size _ _
        have o1 := own_below (own_lit w9 w9.heap.size (by omega)) bl2
        have o2 := own_lit (w9.alloc (.cells #[] 5)) w9.heap.size (by omega)
        rw [e2] at o2
        refine ⟨0, some ⟨w9.heap.size, 0, none⟩, 0, some ⟨w9.heap.size + 1, 0, none⟩, 0, Nat.zero_le _, rfl, rfl, rfl, o1, o2, fun b hb a ha => ?_, bt bl1 bl2⟩
        injection hb with hb
        injection ha with ha
        subst hb ha
        show w9.heap.size ≠ w9.heap.size + 1
        omega
      case round =>
        obtain ⟨i, P, cp, Z, cz, hi, rfl, rfl, rfl, oP, oZ, hap, b6⟩ := hrel
        replace oP := Lib.hid oP
        replace oZ := Lib.hid oZ
        replace hap := Lib.hid hap
        replace b6 := Lib.hid b6
        have KF1 : Hid (Blk wr gk cur 5) := Lib.hid ((b6.out.block gk lk).trans KK.out)
        have sz : w9.heap.size ≤ wr.heap.size := b6.out.size
        by_cases hlt : i < 64
        · have HS1 := Lib.hid (turnB_step' full 54 i (by rw [FL.out]; exact hlt))
          have HS2 := Lib.hid (turnB_step' full 92 i (by rw [FL.out]; exact hlt))
          have TL1 : Hid ((turnB (full.take i) 54).length = i) := Lib.hid (by rw [turnB_len, List.length_take, FL.out]; omega)
          have TL2 : Hid ((turnB (full.take i) 92).length = i) := Lib.hid (by rw [turnB_len, List.length_take, FL.out]; omega)
          have cd := KF1.out.cell i
          rw [cur_get hcur.out i (by rw [FL.out]; exact hlt)] at cd
          generalize full.getD i 0 = f at *
          generalize turnB (full.take i) 54 = y1 at *
          generalize turnB (full.take i) 92 = y2 at *
          have t1 : decide ((i : Int) < 64) = true := decide_eq_true (by omega)
          have bl := Lib.hid (below_alloc1 wr (.cells #[.int .u8 (bits .xor .u8 f 54)] 5))
          have r1 := Lib.hid (one_byte (w := wr) (bits .xor .u8 f 54) (xor_byte _ _))
          go_wp2_with ((with_reducible show wpList _ _ _ (⟨some 41, _, _, _, _, _⟩ :: _) _ _); (with_reducible refine wpList_append_bytes' _ (wanted0 rfl) (.tmp 34) (.tmp 40) rfl w9.heap.size P cp i y1 TL1.out ?_ (own_below oP.out bl.out) (some ⟨wr.heap.size, 0, none⟩) 1 1 [bits .xor .u8 f 54] rfl ?_ r1.out (by omega) (Nat.le_trans sz bl.out.size) ?_); (· rfl); (· rfl); intro P1 cp1 w7 o7 b7 k7; refine Marker.mk ?_)
          refine Marker.in ?_
          rw [← HS1.out] at o7
          have oZ7 := own_apart (own_below oZ.out bl.out) hap.out (fun k h1 h2 => (k7 k h1 h2).1)
          have hap7 : ∀ b, Z = some b → Apart P1 b.block := fun b hb => (k7 b.block (own_lt (own_below oZ.out bl.out) b hb).2 (hap.out b hb)).2
          have b7' := (b6.out.trans (bl.out.mono sz)).trans b7
          have cd7 : w7.cell? ⟨gk, i, none⟩ = some (.int .u8 f) := by
            have h : Blk w7 gk cur 5 := (b7'.block gk lk).trans KK.out
            rw [h.cell i, ← KF1.out.cell i]; exact cd
          have sz7 : w9.heap.size ≤ w7.heap.size := b7'.size
          replace o7 := Lib.hid o7
          replace oZ7 := Lib.hid oZ7
          replace hap7 := Lib.hid hap7
          replace b7' := Lib.hid b7'
          have bl7 := Lib.hid (below_alloc1 w7 (.cells #[.int .u8 (bits .xor .u8 f 92)] 5))
          have r2 := Lib.hid (one_byte (w := w7) (bits .xor .u8 f 92) (xor_byte _ _))
          clear b7 k7 cd r1 bl oP oZ hap b6 KF1 HS1 TL1
          go_wp2_with ((with_reducible show wpList _ _ _ (⟨some 49, _, _, _, _, _⟩ :: _) _ _); (with_reducible refine wpList_append_bytes' _ (wanted0 rfl) (.tmp 42) (.tmp 48) rfl w9.heap.size Z cz i y2 TL2.out ?_ (own_below oZ7.out bl7.out) (some ⟨w7.heap.size, 0, none⟩) 1 1 [bits .xor .u8 f 92] rfl ?_ r2.out (by omega) (Nat.le_trans sz7 bl7.out.size) ?_); (· rfl); (· rfl); intro Z1 cz1 w8 o8 b8 k8; refine Marker.mk ?_)
          refine Marker.in ?_
          rw [← HS2.out] at o8
          have hap7s : ∀ a, P1 = some a → Apart Z a.block := fun a ha b hb e => hap7.out b hb a ha e.symm
          have oP8 := own_apart (own_below o7.out bl7.out) hap7s (fun k h1 h2 => (k8 k h1 h2).1)
          have hap8 : ∀ b, Z1 = some b → Apart P1 b.block := fun b hb a ha e => (k8 a.block (own_lt (own_below o7.out bl7.out) a ha).2 (hap7s a ha)).2 b hb e.symm
          have b8' := (b7'.out.trans (bl7.out.mono sz7)).trans b8
          replace o8 := Lib.hid o8
          replace oP8 := Lib.hid oP8
          replace hap8 := Lib.hid hap8
          replace b8' := Lib.hid b8'
          clear b8 k8 hap7s oZ7 o7 hap7 b7' bl7 r2 cd7
          go_wp2_with fail
          exact ⟨⟨i + 1, P1, cp1, Z1, cz1, by omega, by simp, rfl, rfl, oP8.out, o8.out, hap8.out, b8'.out⟩, by simp [intOf]; omega⟩
        · obtain rfl : i = 64 := by omega
          rw [show ((64 : Nat) : Int) = 64 from rfl]
          rw [List.take_of_length_le (by rw [FL.out]; omega)] at oP oZ
          have TL1 : Hid ((turnB full 54).length = 64) := Lib.hid (by rw [turnB_len, FL.out])
          have TL2 : Hid ((turnB full 92).length = 64) := Lib.hid (by rw [turnB_len, FL.out])
          generalize turnB full 54 = y1 at *
          generalize turnB full 92 = y2 at *
          replace K4 := Lib.hid (show Blk wr w.heap.size (u8V (zeros 32)) 28 from (b6.out.block _ l4).trans K4.out)
          replace BB := Lib.hid (BB.out.trans (b6.out.mono (by omega)))
          have rb := Lib.hid (row_below HBR.out BB.out)
          go_wp2_with ((with_reducible show wpList _ _ _ (⟨some 52, _, _, _, _, _⟩ :: _) _ _); (with_reducible refine wpList_append_bytes' _ (wanted0 rfl) (.tmp 50) (.tmp 51) rfl w9.heap.size P cp 64 y1 TL1.out ?_ oP.out B d m b HBL.out ?_ rb.out (by omega) sz ?_); (· rfl); (· rfl); intro P1 cp1 w10 o10 b10 k10; refine Marker.mk ?_)
          refine Marker.in ?_
          have oZ10 := Lib.hid (own_apart oZ.out hap.out (fun k h1 h2 => (k10 k h1 h2).1))
          have l44 := K4.out.lt
          replace K4 := Lib.hid (show Blk w10 w.heap.size (u8V (zeros 32)) 28 from (b10.block _ l4).trans K4.out)
          replace BB := Lib.hid (BB.out.trans (b10.mono (by omega)))
          have LJ : Hid ((y1 ++ b).length = 64 + m) := Lib.hid (by rw [List.length_append, TL1.out, HBL.out])
          have rj := Lib.hid o10.row
          have sz10 : w9.heap.size ≤ w10.heap.size := Nat.le_trans sz b10.size
          clear o10 k10 b10 oZ oP hap b6 KF1 rb
          generalize hJ : y1 ++ b = j1 at *
          replace hJ := Lib.hid hJ
          go_wp2_with fail
          ((with_reducible refine (rsum_any P1 j1 (64 + m) cp1 w10 LJ.out rj.out (by omega)).mono ?_))
          rintro e w11 ⟨rfl, b11⟩
          replace K4 := Lib.hid (K4.out.below b11)
          replace BB := Lib.hid (bt BB.out b11)
          replace oZ10 := Lib.hid (own_below oZ10.out b11)
          have S1L := sha_len j1
          have S1B := sha_bytes j1
          generalize hS : sha j1 = s1 at *
          replace hS := Lib.hid hS
          replace S1L := Lib.hid S1L
          replace S1B := Lib.hid S1B
          have l11 := K4.out.lt
          have sz11 : w9.heap.size ≤ w11.heap.size := Nat.le_trans sz10 b11.size
          clear b11 rj
          go_wp2_with ((with_reducible show wpList _ _ _ (⟨_, .alloc 28, _, _, _, none⟩ :: _) _ _); (with_reducible refine wpRow_alloc zeroT_b32 ?_ ?_ ?_); (· exact wanted0 rfl); (· rfl); refine Marker.mk ?_)
          refine Marker.in ?_
          have bel := below_alloc1 w11 (.cells (u8V (zeros 32)) 28)
          have zlt := fun a ha => (own_lt oZ10.out a ha).2
          replace K4 := Lib.hid (K4.out.below bel)
          replace BB := Lib.hid (bt BB.out bel)
          replace oZ10 := Lib.hid (own_below oZ10.out bel)
          have K10 := Lib.hid (Blk.new w11 (u8V (zeros 32)) 28)
          have sz12 := Nat.le_trans sz11 bel.size
          clear bel
          generalize w11.alloc (.cells (u8V (zeros 32)) 28) = w12 at *
          generalize w11.heap.size = g10 at *
          go_wp2_with ((with_reducible show wpList _ _ _ (⟨_, .store 28 _ _, _, _, _, none⟩ :: _) _ _); (with_reducible refine wpBlk_store (g := g10) (cs := u8V s1) agg_b32 ?_ ?_ K10 ?_ ?_ ?_ ?_); (· exact wanted0 rfl); (· exact ⟨rfl, rfl, rfl⟩); (· rw [u8V_size, zeros_len]); (· rw [u8V_size, S1L.out]); (· exact u8V_one _); refine Marker.mk ?_)
          refine Marker.in ?_
          replace K4 := Lib.hid (K4.out.setRow_other g10 (u8V s1) (by omega))
          replace oZ10 := Lib.hid (own_same (w' := w12.setRow g10 (u8V s1)) oZ10.out (fun a ha => setRow_other w12 g10 a.block (u8V s1) (by have := zlt a ha; omega)))
          replace K10 := Lib.hid (K10.out.setRow (u8V s1))
          replace BB := Lib.hid (below_setRow (g := g10) BB.out (by omega) (u8V s1))
          have l12 := K10.out.lt
          have sz13 : w9.heap.size ≤ (w12.setRow g10 (u8V s1)).heap.size := by simpa using sz12
          clear zlt
          generalize w12.setRow g10 (u8V s1) = w13 at *
          have rs := Lib.hid (u8V_row K10.out S1B.out)
          go_wp2_with ((with_reducible show wpList _ _ _ (⟨some 56, _, _, _, _, _⟩ :: _) _ _); (with_reducible refine wpList_append_bytes' _ (wanted0 rfl) (.tmp 54) (.tmp 55) rfl w9.heap.size Z cz 64 y2 TL2.out ?_ oZ10.out (some ⟨g10, 0, none⟩) 32 32 s1 S1L.out ?_ rs.out (by omega) sz13 ?_); (· rfl); (· rfl); intro Z1 cz1 w14 o14 b14 k14; refine Marker.mk ?_)
          refine Marker.in ?_
          replace K4 := Lib.hid (show Blk w14 w.heap.size (u8V (zeros 32)) 28 from (b14.block _ l4).trans K4.out)
          replace BB := Lib.hid (BB.out.trans (b14.mono (by omega)))
          have LJ2 : Hid ((y2 ++ s1).length = 96) := Lib.hid (by rw [List.length_append, TL2.out, S1L.out])
          have rj2 := Lib.hid o14.row
          clear o14 k14 b14 oZ10 rs K10
          have ea : sha (y2 ++ s1) = ans := HM.out.symm
          go_wp2_with fail
          ((with_reducible refine (rsum_any Z1 (y2 ++ s1) 96 cz1 w14 LJ2.out rj2.out (by omega)).mono ?_))
          rintro e w15 ⟨rfl, b15⟩
          rw [ea]
          replace K4 := Lib.hid (K4.out.below b15)
          replace BB := Lib.hid (bt BB.out b15)
          clear b15 rj2 ea
          go_wp2_with ((with_reducible show wpList _ _ _ (⟨_, .store 28 _ _, _, _, _, none⟩ :: _) _ _); (with_reducible refine wpBlk_store (g := w.heap.size) (cs := u8V ans) agg_b32 ?_ ?_ K4 ?_ ?_ ?_ ?_); (· exact wanted0 rfl); (· exact ⟨rfl, rfl, rfl⟩); (· rw [u8V_size, zeros_len]); (· rw [u8V_size, AL.out]); (· exact u8V_one _))
          refine bodyPost_ret (v := .agg (u8V ans)) (results_blk agg_b32 rfl _ _ (w.heap.size) _ rfl (K4.out.setRow _) (by rw [u8V_size, AL.out])) rfl ⟨rfl, below_setRow BB.out (by omega) _⟩
theorem rof_any (A B : Option Addr) (k b : List Int) (n m c d : Nat) (w : World) (hn : k.length = n) (hm : b.length = m) (hk : Row w A k) (hb : Row w B b) (hl : n ≤ 1000000) (hl2 : m ≤ 900000) :
    Calls Tryd.prog 26 #[.slice A n c, .slice B m d] w fun e w' => e = .returned (.agg (u8V (hmac k b))) ∧ Below w.heap.size w w' := by
  rcases Nat.lt_or_ge 64 n with h | h
  · exact rof_long A B k b n m c d w hn hm hk hb ⟨h, hl⟩ hl2
  · exact rof_short A B k b n m c d w hn hm hk hb h hl2
theorem build_y8 : Tryd.prog.built 37 [] = some (u8V (zeros 8)) := by kernel_rfl
set_option maxRecDepth 100000 in
set_option maxHeartbeats 800000 in
theorem rtag_any (A B : Option Addr) (k b : List Int) (n m c d : Nat) (w : World) (hn : k.length = n) (hm : b.length = m) (hk : Row w A k) (hb : Row w B b) (hl : n ≤ 1000000) (hl2 : m ≤ 900000) :
    Calls Tryd.prog 28 #[.slice A n c, .slice B m d] w fun e w' => e = .returned (.agg (u8V ((hmac k b).take 8))) ∧ Below w.heap.size w w' := by
  have C := fun (W : World) (hb' : Below w.heap.size w W) => rof_any A B k b n m c d W hn hm (row_below hk hb') (row_below hb hb') hl hl2
  have AL := hmac_len k b
  generalize hmac k b = ans at *
  have AL2 := Lib.hid AL
  have C2 := Lib.hid C
  have TL : (ans.take 8).length = 8 := by rw [List.length_take, AL2.out]; rfl
  have TG : ∀ i, i < 8 → (ans.take 8).getD i 0 = ans.getD i 0 := fun i hi => by
    simp only [List.getD_eq_getElem?_getD]
    rw [List.getElem?_take_of_lt hi]
  generalize ans.take 8 = tg at *
  replace TL := Lib.hid TL
  replace TG := Lib.hid TG
  have B8 := Lib.hid build_y8
  clear C AL hk hb hn hm
  go_enter Tryd.func28, Tryd.ntmps28
  go_wp2_with ((with_reducible show wpList _ _ _ (⟨_, .alloc 37, _, _, _, none⟩ :: _) _ _); (with_reducible refine wpRow_alloc zeroT_b8 ?_ ?_ ?_); (· exact wanted0 rfl); (· rfl); refine Marker.mk ?_)
  refine Marker.in ?_
  have BB := Lib.hid (Below.refl w.heap.size w)
  have bel := below_alloc1 w (.cells (u8V (zeros 8)) 37)
  replace BB := Lib.hid (bt BB.out bel)
  have K4 := Lib.hid (Blk.new w (u8V (zeros 8)) 37)
  clear bel
  generalize w.alloc (.cells (u8V (zeros 8)) 37) = w1 at *
  go_wp2_with fail
  ((with_reducible refine (C2.out _ BB.out).mono ?_))
  rintro e w2 ⟨rfl, b2⟩
  replace K4 := Lib.hid (K4.out.below b2)
  replace BB := Lib.hid (bt BB.out b2)
  clear b2 C2
  have l2 := K4.out.lt
  go_wp2_with ((with_reducible show wpList _ _ _ (⟨_, .alloc 28, _, _, _, none⟩ :: _) _ _); (with_reducible refine wpRow_alloc zeroT_b32 ?_ ?_ ?_); (· exact wanted0 rfl); (· rfl); refine Marker.mk ?_)
  refine Marker.in ?_
  have bel := below_alloc1 w2 (.cells (u8V (zeros 32)) 28)
  replace K4 := Lib.hid (K4.out.below bel)
  replace BB := Lib.hid (bt BB.out bel)
  have K5 := Lib.hid (Blk.new w2 (u8V (zeros 32)) 28)
  clear bel
  generalize w2.alloc (.cells (u8V (zeros 32)) 28) = w3 at *
  generalize w2.heap.size = g5 at *
  go_wp2_with ((with_reducible show wpList _ _ _ (⟨_, .store 28 _ _, _, _, _, none⟩ :: _) _ _); (with_reducible refine wpBlk_store (g := g5) (cs := u8V ans) agg_b32 ?_ ?_ K5 ?_ ?_ ?_ ?_); (· exact wanted0 rfl); (· exact ⟨rfl, rfl, rfl⟩); (· rw [u8V_size, zeros_len]); (· rw [u8V_size, AL2.out]); (· exact u8V_one _); refine Marker.mk ?_)
  refine Marker.in ?_
  replace K4 := Lib.hid (K4.out.setRow_other g5 (u8V ans) (by omega))
  replace K5 := Lib.hid (K5.out.setRow (u8V ans))
  replace BB := Lib.hid (below_setRow (g := g5) BB.out (by omega) (u8V ans))
  generalize w3.setRow g5 (u8V ans) = w4 at *
  have l5 := K5.out.lt
  go_wp2_with (first | ((with_reducible show wpList _ _ _ (⟨some 11, _, _, _, _, _⟩ :: _) _ _); refine wpList_build' rfl 37 _ rfl (u8V (zeros 8)) B8.out ?_) | ((with_reducible show wpList _ _ _ (⟨_, .alloc 37, _, _, _, none⟩ :: _) _ _); (with_reducible refine wpRow_alloc zeroT_b8 ?_ ?_ ?_); (· exact wanted0 rfl); (· rfl); refine Marker.mk ?_))
  refine Marker.in ?_
  have bel := below_alloc1 w4 (.cells (u8V (zeros 8)) 37)
  replace K4 := Lib.hid (K4.out.below bel)
  replace K5 := Lib.hid (K5.out.below bel)
  replace BB := Lib.hid (bt BB.out bel)
  have K6 := Lib.hid (Blk.new w4 (u8V (zeros 8)) 37)
  clear bel
  generalize w4.alloc (.cells (u8V (zeros 8)) 37) = w5 at *
  generalize w4.heap.size = g6 at *
  go_wp2_with ((with_reducible show wpList _ _ _ (⟨_, .store 37 _ _, _, _, _, none⟩ :: _) _ _); (with_reducible refine wpBlk_store (g := g6) (cs := u8V (zeros 8)) agg_b8 ?_ ?_ K6 ?_ ?_ ?_ ?_); (· exact wanted0 rfl); (· exact ⟨rfl, rfl, rfl⟩); (· rw [u8V_size, zeros_len]); (· rw [u8V_size, zeros_len]); (· exact u8V_one _); refine Marker.mk ?_)
  refine Marker.in ?_
  replace K4 := Lib.hid (K4.out.setRow_other g6 (u8V (zeros 8)) (by omega))
  replace K5 := Lib.hid (K5.out.setRow_other g6 (u8V (zeros 8)) (by omega))
  replace K6 := Lib.hid (K6.out.setRow (u8V (zeros 8)))
  replace BB := Lib.hid (below_setRow (g := g6) BB.out (by omega) (u8V (zeros 8)))
  generalize w5.setRow g6 (u8V (zeros 8)) = w6 at *
  go_wp2_with fail
  go_loopw [7] (fun y wr => ∃ i : Nat, i ≤ 8 ∧ y = .int .i64 i ∧ Blk wr w.heap.size (u8V (zeros 8)) 37 ∧ Blk wr g5 (u8V ans) 28 ∧ Blk wr g6 (u8V (over tg (zeros 8) i)) 37 ∧ Below w.heap.size w wr) (fun y _ => 8 - (intOf y).toNat)
  case atStart => exact ⟨0, by omega, rfl, K4.out, K5.out, by rw [over_zero]; exact K6.out, BB.out⟩
  case round =>
    clear K4 K5 K6 BB
    obtain ⟨i, hi, rfl, K4, K5, K6, BB⟩ := hrel
    have le : tg.length = (zeros 8).length := by rw [TL.out, zeros_len]
    have lz := TL.out
    by_cases hlt : i < 8
    · have lo := over_len tg (zeros 8) i le (by omega)
      have c5 := K5.cell i
      rw [u8V_get _ _ (by rw [AL2.out]; omega)] at c5
      have c6 := K6.cell i
      have f6 := K6.frozen i
      rw [u8V_get _ _ (by omega)] at c6
      have S1 := over_set tg (zeros 8) i le (by omega)
      rw [TG.out i hlt] at S1
      generalize ans.getD i 0 = x at *
      replace S1 := Lib.hid S1
      replace K4 := Lib.hid K4
      replace K5 := Lib.hid K5
      replace K6 := Lib.hid K6
      replace BB := Lib.hid BB
      clear le lz lo
      go_wp2_with fail
      have h := K6.out.set i (.int .u8 x)
      rw [u8V_set, S1.out] at h
      exact ⟨⟨i + 1, by omega, by simp, K4.out.other _ _ _ (by omega), K5.out.other _ _ _ (by omega), h, BB.out.setCell (by simp; omega) _⟩, by simp [intOf]; omega⟩
    · obtain rfl : i = 8 := by omega
      rw [show ((8 : Nat) : Int) = 8 from rfl]
      rw [over_all tg (zeros 8) 8 (by omega) (by rw [zeros_len]; omega)] at K6
      replace K4 := Lib.hid K4
      replace K6 := Lib.hid K6
      replace BB := Lib.hid BB
      clear le lz
      go_wp2_with (first | ((with_reducible show wpList _ _ _ (⟨_, .load 37 _, _, _, _, none⟩ :: _) _ _); (with_reducible refine wpBlk_load (g := g6) agg_b8 ?_ ?_ K6 ?_ ?_); (· exact wanted0 rfl); (· exact ⟨rfl, rfl⟩); (· rw [u8V_size, TL.out])) | ((with_reducible show wpList _ _ _ (⟨_, .store 37 _ _, _, _, _, none⟩ :: _) _ _); (with_reducible refine wpBlk_store (g := w.heap.size) (cs := u8V tg) agg_b8 ?_ ?_ K4 ?_ ?_ ?_ ?_); (· exact wanted0 rfl); (· exact ⟨rfl, rfl, rfl⟩); (· rw [u8V_size, zeros_len]); (· rw [u8V_size, TL.out]); (· exact u8V_one _)))
      refine bodyPost_ret (v := .agg (u8V tg)) (results_blk agg_b8 rfl _ _ (w.heap.size) _ rfl (K4.out.setRow _) (by rw [u8V_size, TL.out])) rfl ⟨rfl, below_setRow BB.out (by omega) _⟩
end Go.Proofs.YtalekcpdkfdmaaaDoor
