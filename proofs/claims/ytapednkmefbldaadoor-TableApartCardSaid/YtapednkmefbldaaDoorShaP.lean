/- sha.Start, sha.Pad. -/
import Derived.Test.YtapednkmefbldaaDoorShaB
namespace Go.Proofs.YtapednkmefbldaaDoor
open Go.RowKit

set_option maxRecDepth 100000 in
set_option maxHeartbeats 400000 in
theorem start_any (w : World) : Calls Tryd.prog 55 #[] w fun e w' => e = .returned (.agg startS.cells) ∧ Below w.heap.size w w' := by
  go_enter Tryd.func55, Tryd.ntmps55
  go_wp2_with ((with_reducible show wpList _ _ _ (⟨_, .alloc 112, _, _, _, none⟩ :: _) _ _); (with_reducible refine wpRow_alloc zeroT_8 ?_ ?_ ?_); (· exact wanted0 rfl); (· rfl); refine Marker.mk ?_)
  refine Marker.in ?_
  have KR := Lib.hid (Blk.new w (u32V (zeros 8)) 112)
  have BB := Lib.hid (below_alloc1 w (.cells (u32V (zeros 8)) 112))
  generalize w.alloc (.cells (u32V (zeros 8)) 112) = w3 at *
  go_wp2_with ((with_reducible show wpList _ _ _ (⟨_, .store 112 _ _, _, _, _, none⟩ :: _) _ _); (with_reducible refine wpBlk_store (g := w.heap.size) (cs := startS.cells) agg_8 ?_ ?_ KR ?_ ?_ ?_ ?_); (· exact wanted0 rfl); (· exact ⟨rfl, rfl, rfl⟩); (· rw [u32V_size, zeros_len]); (· rfl); (· exact St.cells_one _))
  refine bodyPost_ret (v := .agg startS.cells) (results_blk agg_8 rfl _ _ (w.heap.size) _ rfl (KR.out.setRow _) (St.cells_size _)) rfl ⟨rfl, below_setRow BB.out (by omega) _⟩

/-- the bytes, 128, noughts, and the last i bytes of the length -/
def padPart (xs : List Int) (i : Nat) : List Int := xs ++ 128 :: (List.replicate (wholeOf xs.length - xs.length - 1 - i) 0 ++ be ((xs.length : Int) * 8) i)
theorem padPart_all (xs : List Int) : padPart xs 8 = padL xs := by
  unfold padPart padL
  rw [show wholeOf xs.length - xs.length - 1 - 8 = wholeOf xs.length - xs.length - 9 by omega]
theorem padPart_len (xs : List Int) (i : Nat) (h : i ≤ 8) : (padPart xs i).length = wholeOf xs.length := by
  have := wholeOf_le xs.length
  simp only [padPart, List.length_append, List.length_cons, List.length_replicate, be_len]
  omega
theorem set_nought (A B : List Int) (c v : Int) (k j : Nat) (hj : j = A.length + 1 + k) : (A ++ c :: (List.replicate (k + 1) 0 ++ B)).set j v = A ++ c :: (List.replicate k 0 ++ v :: B) := by
  subst hj
  rw [List.set_append_right _ _ (by omega), show A.length + 1 + k - A.length = k + 1 by omega, List.set_cons_succ, List.replicate_succ', List.append_assoc, List.set_append_right _ _ (by simp)]
  simp
theorem padPart_set (xs : List Int) (i : Nat) (h : i < 8) : (padPart xs i).set (wholeOf xs.length - 1 - i) ((xs.length : Int) * 8 / 2 ^ (8 * i) % 256) = padPart xs (i + 1) := by
  have := wholeOf_le xs.length
  unfold padPart
  obtain ⟨k, hk⟩ : ∃ k, wholeOf xs.length - xs.length - 1 - i = k + 1 := ⟨wholeOf xs.length - xs.length - 2 - i, by omega⟩
  rw [hk, set_nought _ _ _ _ k _ (by omega), be_cons, show wholeOf xs.length - xs.length - 1 - (i + 1) = k by omega]
theorem padPart_zero (xs : List Int) (W : Nat) (hW : wholeOf xs.length = W) : (putAt (zeros W) 0 xs).set xs.length 128 = padPart xs 0 := by
  have := wholeOf_le xs.length
  subst hW
  unfold putAt padPart zeros
  obtain ⟨k, hk⟩ : ∃ k, wholeOf xs.length = xs.length + (k + 1) := ⟨wholeOf xs.length - xs.length - 1, by omega⟩
  rw [hk]
  simp only [List.take_zero, List.nil_append, Nat.zero_add, List.drop_replicate, be_zero, List.append_nil]
  rw [show xs.length + (k + 1) - xs.length = k + 1 by omega, show k + 1 - 1 - 0 = k by omega, List.set_append_right _ _ (Nat.le_refl _), Nat.sub_self, List.replicate_succ, List.set_cons_zero]
set_option maxRecDepth 100000 in
set_option maxHeartbeats 400000 in
theorem pad_any (A : Option Addr) (xs : List Int) (n c : Nat) (w : World) (hn : xs.length = n) (hr : Row w A xs) (hl : n ≤ 1000000000) :
    Calls Tryd.prog 56 #[.slice A n c] w fun e w' => e = .returned (.slice (some ⟨w.heap.size, 0, none⟩) (wholeOf n) (wholeOf n)) ∧ Blk w' w.heap.size (u8V (padL xs)) 5 ∧ Below w.heap.size w w' := by
  obtain ⟨W, hW⟩ : ∃ W, wholeOf n = W := ⟨_, rfl⟩
  have hW1 : ((n : Int) + 9 + 64 - 1) / 64 * 64 = (W : Int) := by rw [← hW]; unfold wholeOf; omega
  have hW2 : n + 9 ≤ W := by rw [← hW]; exact wholeOf_le n
  have hW3 : W ≤ 2000000000 := by rw [← hW]; unfold wholeOf; omega
  have hmk := run_makeU8 W (by omega)
  rw [hW]
  have HN := Lib.hid hn
  have HR := Lib.hid hr
  have HW := Lib.hid hW
  clear hn hr hW
  go_enter Tryd.func56, Tryd.ntmps56
  go_wp2_with ((with_reducible show wpList _ _ _ (⟨some 18, _, _, _, _, none⟩ :: _) _ _); refine Marker.mk ?_)
  refine Marker.in ?_
  have KP := Lib.hid (Blk.new w (u8V (zeros W)) 5)
  have bl := below_alloc1 w (.cells (u8V (zeros W)) 5)
  have HR := Lib.hid (row_below HR.out bl)
  have BB := Lib.hid bl
  clear hmk hW1 bl
  generalize w.alloc (.cells (u8V (zeros W)) 5) = w1 at *
  (with_reducible refine wpBlk_copy ?_ w.heap.size 0 W W (zeros W) 5 A n c xs n (some ⟨w.heap.size, 0, none⟩) ?_ KP HN.out HR ?_ ?_ ?_ ?_)
  · exact wanted0 rfl
  · exact ⟨rfl, _, _, rfl, rfl, rfl⟩
  · exact Nat.min_eq_left (by omega)
  · rw [zeros_len]; omega
  · exact fun _ => rfl
  intro w2 K2 b2 o2 s2
  have hN := HN.out
  have hlp : (putAt (zeros W) 0 (xs.take n)).length = W := by rw [putAt_len, zeros_len]; simp [zeros_len]; omega
  rw [List.take_of_length_le (by omega)] at K2 hlp
  replace BB := Lib.hid (BB.out.trans b2)
  have c0 := K2.cell n
  have f0 := K2.frozen n
  rw [u8V_get _ _ (by omega)] at c0
  have KP := Lib.hid (K2.set n (.int .u8 128))
  have HZ := Lib.hid (padPart_zero xs W (by rw [hN]; exact HW.out))
  clear K2 b2 o2 s2 hlp hN
  go_wp2_with fail
  go_loopw [27] (fun y wr => ∃ i : Nat, i ≤ 8 ∧ y = .int .i64 i ∧ Blk wr w.heap.size (u8V (padPart xs i)) 5 ∧ Below w.heap.size w wr) (fun y _ => 8 - (intOf y).toNat)
  case atStart =>
    have h := KP.out
    have z := HZ.out
    rw [HN.out] at z
    rw [u8V_set, z] at h
    exact ⟨0, by omega, rfl, h, BB.out.setCell (by simp) _⟩
  case round =>
    clear KP BB
    obtain ⟨i, hi, rfl, KP, BB⟩ := hrel
    have hN := HN.out
    have hWo := HW.out
    have hlp : (padPart xs i).length = W := by rw [padPart_len xs i hi, hN, hWo]
    by_cases hlt : i < 8
    · have c0 := KP.cell (W - 1 - i)
      have f0 := KP.frozen (W - 1 - i)
      rw [u8V_get _ _ (by omega)] at c0
      have ST := padPart_set xs i hlt
      rw [hN, hWo] at ST
      replace KP := Lib.hid (KP.set (W - 1 - i) (.int .u8 ((n : Int) * 8 / 2 ^ (8 * i) % 256)))
      replace ST := Lib.hid ST
      replace BB := Lib.hid BB
      clear hN hWo hlp
      go_wp2_with fail
      have h := KP.out
      rw [u8V_set, ST.out] at h
      exact ⟨⟨i + 1, by omega, by simp, h, BB.out.setCell (by simp) _⟩, by simp [intOf]; omega⟩
    · obtain rfl : i = 8 := by omega
      rw [show ((8 : Nat) : Int) = 8 from rfl]
      rw [padPart_all] at KP
      replace KP := Lib.hid KP
      replace BB := Lib.hid BB
      clear hN hWo hlp
      go_wp2_with fail
      go_ret
      exact ⟨rfl, KP.out, BB.out⟩
end Go.Proofs.YtapednkmefbldaaDoor
