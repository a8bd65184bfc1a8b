/- The walk of MacTags. -/
import Derived.Test.YtalekcpdkfdmaaaDoorMacT
import Derived.Test.YtalekcpdkfdmaaaDoorConv
namespace Go.Proofs.YtalekcpdkfdmaaaDoor
open Go.RowKit

set_option maxRecDepth 100000 in
set_option maxHeartbeats 800000 in
theorem walk_MacTags (v0 v1 v2 : Value) (w : World) (hR : Roots w) (q0 : IsRow .u8 w v0) (q1 : IsRow .u8 w v1) (q2 : IsRow .u8 w v2) :
    Calls Tryd.prog 9 #[v0, v1, v2] w fun e w' => e = .returned (.bool true) ∧ Below w.heap.size w w' := by
  obtain ⟨A, k, n, c, hn, n3, n1, n2, hk, hA, hf⟩ := few_of (k := 150) q0 few05
  obtain ⟨B, x, m, d, hm, m3, m1, m2, hx, hB, hg⟩ := few_of (k := 150) q1 few05
  obtain ⟨D, y, l, f, hl, l3, l1, l2, hy, hD, hh⟩ := few_of (k := 150) q2 few05
  have HF := Lib.hid hf
  have HG := Lib.hid hg
  have HH := Lib.hid hh
  have HN := Lib.hid hn
  have HM := Lib.hid hm
  have HL := Lib.hid hl
  have HK := Lib.hid hk
  have HX := Lib.hid hx
  have HY := Lib.hid hy
  have RT := Lib.hid hR
  have BB := Lib.hid (Below.refl w.heap.size w)
  clear hf hg hh hn hm hl hk hx hy hR q0 q1 q2
  go_enter Tryd.func9, Tryd.ntmps9
  go_wp2_with fail
  ((with_reducible refine (shown05 _ RT.out).mono ?_))
  rintro e w1 ⟨rfl, b1⟩
  replace BB := Lib.hid (bt BB.out b1)
  clear b1
  go_wp2_with fail
  ((with_reducible refine (HF.out _).mono ?_))
  rintro e w2 ⟨rfl, rfl⟩
  go_wp2_with fail
  ((with_reducible refine (HG.out _).mono ?_))
  rintro e w2 ⟨rfl, rfl⟩
  go_wp2_with fail
  ((with_reducible refine (HH.out _).mono ?_))
  rintro e w2 ⟨rfl, rfl⟩
  go_wp2_with fail
  ((with_reducible refine (of_any A B k x n m c d _ HN.out HM.out (row_below HK.out BB.out) (row_below HX.out BB.out) (by omega) (by omega) (RT.out.below BB.out)).mono ?_))
  rintro e w2 ⟨rfl, b2⟩
  replace BB := Lib.hid (bt BB.out b2)
  have z2 : w.heap.size ≤ w2.heap.size := BB.out.size
  clear b2
  have CT := fun (W : World) (hb : Below w.heap.size w W) => tag_any A B k x n m c d W HN.out HM.out (row_below HK.out hb) (row_below HX.out hb) (by omega) (by omega) (RT.out.below hb)
  have AL := hmac_len k x
  have AB := hmac_bytes k x
  generalize hmac k x = h at *
  replace CT := Lib.hid CT
  replace AL := Lib.hid AL
  replace AB := Lib.hid AB
  have TL : Hid ((h.take 8).length = 8) := Lib.hid (by rw [List.length_take, AL.out]; rfl)
  go_wp2_with ((with_reducible show wpList _ _ _ (⟨_, .alloc 28, _, _, _, none⟩ :: _) _ _); (with_reducible refine wpRow_alloc zeroT_b32 ?_ ?_ ?_); (· exact wanted0 rfl); (· rfl); refine Marker.mk ?_)
  refine Marker.in ?_
  have bel := below_alloc1 w2 (.cells (u8V (zeros 32)) 28)
  replace BB := Lib.hid (bt BB.out bel)
  have KS := Lib.hid (Blk.new w2 (u8V (zeros 32)) 28)
  clear bel
  generalize w2.alloc (.cells (u8V (zeros 32)) 28) = w3 at *
  generalize w2.heap.size = gs at *
  go_wp2_with ((with_reducible show wpList _ _ _ (⟨_, .store 28 _ _, _, _, _, none⟩ :: _) _ _); (with_reducible refine wpBlk_store (g := gs) (cs := u8V h) agg_b32 ?_ ?_ KS ?_ ?_ ?_ ?_); (· exact wanted0 rfl); (· exact ⟨rfl, rfl, rfl⟩); (· rw [u8V_size, zeros_len]); (· rw [u8V_size, AL.out]); (· exact u8V_one _); refine Marker.mk ?_)
  refine Marker.in ?_
  replace KS := Lib.hid (KS.out.setRow (u8V h))
  replace BB := Lib.hid (below_setRow (g := gs) BB.out (by omega) (u8V h))
  generalize w3.setRow gs (u8V h) = w4 at *
  go_wp2_with fail
  ((with_reducible refine (CT.out _ BB.out).mono ?_))
  rintro e w5 ⟨rfl, b5⟩
  replace KS := Lib.hid (KS.out.below b5)
  replace BB := Lib.hid (bt BB.out b5)
  have l5 := KS.out.lt
  clear b5 CT
  go_wp2_with ((with_reducible show wpList _ _ _ (⟨_, .alloc 37, _, _, _, none⟩ :: _) _ _); (with_reducible refine wpRow_alloc zeroT_b8 ?_ ?_ ?_); (· exact wanted0 rfl); (· rfl); refine Marker.mk ?_)
  refine Marker.in ?_
  have bel := below_alloc1 w5 (.cells (u8V (zeros 8)) 37)
  replace KS := Lib.hid (KS.out.below bel)
  replace BB := Lib.hid (bt BB.out bel)
  have KT := Lib.hid (Blk.new w5 (u8V (zeros 8)) 37)
  clear bel
  generalize w5.alloc (.cells (u8V (zeros 8)) 37) = w6 at *
  generalize w5.heap.size = gt at *
  go_wp2_with ((with_reducible show wpList _ _ _ (⟨_, .store 37 _ _, _, _, _, none⟩ :: _) _ _); (with_reducible refine wpBlk_store (g := gt) (cs := u8V (h.take 8)) agg_b8 ?_ ?_ KT ?_ ?_ ?_ ?_); (· exact wanted0 rfl); (· exact ⟨rfl, rfl, rfl⟩); (· rw [u8V_size, zeros_len]); (· rw [u8V_size, TL.out]); (· exact u8V_one _); refine Marker.mk ?_)
  refine Marker.in ?_
  replace KS := Lib.hid (KS.out.setRow_other gt (u8V (h.take 8)) (by omega))
  replace KT := Lib.hid (KT.out.setRow (u8V (h.take 8)))
  replace BB := Lib.hid (below_setRow (g := gt) BB.out (by omega) (u8V (h.take 8)))
  generalize w6.setRow gt (u8V (h.take 8)) = w7 at *
  go_wp2_with fail
  go_loopw [13] (fun z wr => ∃ i q : Nat, i ≤ 8 ∧ z = .int .i64 i ∧ wr = w7.drewN q) (fun z _ => 8 - (intOf z).toNat)
  case atStart => exact ⟨0, 0, by omega, rfl, rfl⟩
  case round =>
    obtain ⟨i, q, hi, rfl, rfl⟩ := hrel
    by_cases hlt : i < 8
    · have c1 := KS.out.cell i
      have c2 := KT.out.cell i
      rw [u8V_get _ _ (by rw [AL.out]; omega)] at c1
      rw [u8V_get _ _ (by rw [TL.out]; omega)] at c2
      have e8 : (h.take 8).getD i 0 = h.getD i 0 := by
        simp only [List.getD_eq_getElem?_getD]
        rw [List.getElem?_take_of_lt hlt]
      rw [e8] at c2
      clear e8
      generalize h.getD i 0 = t at *
      go_wp2_with fail
      go_quiet (fail)
      go_wp2_with fail
      exact ⟨⟨i + 1, q + nq, by omega, by simp, rfl⟩, by simp [intOf]; omega⟩
    · obtain rfl : i = 8 := by omega
      rw [show ((8 : Nat) : Int) = 8 from rfl]
      replace BB := Lib.hid (below_drewN BB.out q)
      clear KS KT TL
      generalize w7.drewN q = w8 at *
      have hsx := fun q => same_any B D x y m l d f (w8.drewN q) HM.out HL.out (row_drewN (row_below HX.out BB.out) q) (row_drewN (row_below HY.out BB.out) q) (by omega) (by omega)
      have hsy := fun q => same_any D B y x l m f d (w8.drewN q) HL.out HM.out (row_drewN (row_below HY.out BB.out) q) (row_drewN (row_below HX.out BB.out) q) (by omega) (by omega)
      have eq1 : decide (y = x) = decide (x = y) := decide_eq_decide.2 ⟨Eq.symm, Eq.symm⟩
      have es := str_beq HX.out.2 HY.out.2
      rw [eq1] at hsy
      generalize decide (x = y) = b at *
      have S1 := Lib.hid hsx
      have S2 := Lib.hid hsy
      have c1 := conv_drewN m d HM.out (row_below HX.out BB.out)
      have c2 := conv_drewN l f HL.out (row_below HY.out BB.out)
      clear hsx hsy eq1
      go_wp2_with fail
      go_quiet ((first | ((with_reducible refine (S1.out _).mono ?_); (rintro e w2 ⟨rfl, rfl⟩; exact ⟨rfl, _, rfl⟩)) | ((with_reducible refine (S2.out _).mono ?_); (rintro e w2 ⟨rfl, rfl⟩; exact ⟨rfl, _, rfl⟩))))
      go_wp2_with fail
      go_ret
      exact ⟨rfl, below_drewN BB.out _⟩
end Go.Proofs.YtalekcpdkfdmaaaDoor
