/- sidestickref04.Pad. -/
import Derived.Test.YtalekcpdkfdmaaaDoorRefB
import Derived.Test.YtalekcpdkfdmaaaDoorMacW
import Derived.Test.YtalekcpdkfdmaaaDoorShaL
namespace Go.Proofs.YtalekcpdkfdmaaaDoor
open Go.RowKit

theorem be_take_succ (N : Int) (j : Nat) (h : j < 8) : (be N 8).take (j + 1) = (be N 8).take j ++ [N / 2 ^ (8 * (7 - j)) % 256] := by
  rw [List.take_succ_eq_append_getElem (by rw [be_len]; omega)]
  congr 1
  simp [be]
theorem u64_and255 (n : Int) (h0 : 0 ≤ n) (h1 : n ≤ 18446744073709551615) : bits .and .u64 n 255 = n % 256 := by
  have h := u64_mask 8 (by omega) n h0 h1
  rw [show IntKind.u64.wrap (IntKind.u64.wrap (2 ^ 8) - 1) = 255 by decide] at h
  rw [h]; rfl
theorem padL_split (xs : List Int) : padL xs = (xs ++ 128 :: List.replicate (wholeOf xs.length - xs.length - 9) 0) ++ be ((xs.length : Int) * 8) 8 := by
  simp [padL]
theorem one_byte {w : World} (x : Int) (h : 0 ≤ x ∧ x ≤ 255) : Row (w.alloc (.cells #[.int .u8 x] 5)) (some ⟨w.heap.size, 0, none⟩) [x] := row_block' (heap_alloc_new _ _) rfl (by intro y hy; simp at hy; subst hy; exact h)
set_option maxRecDepth 100000 in
set_option maxHeartbeats 800000 in
theorem rpad_any (A : Option Addr) (xs : List Int) (n c : Nat) (w : World) (hn : xs.length = n) (hr : Row w A xs) (hl : n ≤ 1000000) :
    Calls Tryd.prog 18 #[.slice A n c] w fun e w' => (∃ B d, e = .returned (.slice B (wholeOf n) d) ∧ Own w' w.heap.size B d (padL xs)) ∧ Below w.heap.size w w' := by
  obtain ⟨z, hz⟩ : ∃ z, wholeOf n - n - 9 = z := ⟨_, rfl⟩
  have hz1 : ∀ k : Nat, k < z → (((n + 1 + k : Nat) : Int) % 64 != 56) = true := by
    intro k hk
    have : wholeOf n = (n + 72) / 64 * 64 := rfl
    have h2 : ((n + 1 + k : Nat) : Int) % 64 ≠ 56 := by omega
    simpa using h2
  have hz2 : (((n + 1 + z : Nat) : Int) % 64 != 56) = false := by
    have : wholeOf n = (n + 72) / 64 * 64 := rfl
    have h2 : ((n + 1 + z : Nat) : Int) % 64 = 56 := by omega
    rw [h2]; rfl
  have hW : wholeOf n = n + 1 + z + 8 := by have := wholeOf_le n; omega
  have hz3 : z ≤ 64 := by have : wholeOf n = (n + 72) / 64 * 64 := rfl; omega
  have hPS := padL_split xs
  rw [hn, hz] at hPS
  rw [hW, hPS]
  obtain ⟨N, hNN⟩ : ∃ N : Int, (n : Int) * 8 = N := ⟨_, rfl⟩
  have hN0 : 0 ≤ N ∧ N ≤ 18446744073709551615 := by omega
  have BT := be_take_succ N
  have BL := be_len N 8
  rw [hNN]
  have hshr : ∀ s : Nat, 0 ≤ N / 2 ^ (8 * s) ∧ N / 2 ^ (8 * s) ≤ 18446744073709551615 := by
    intro s
    have hp : (0 : Int) < 2 ^ (8 * s) := Int.pow_pos (by omega)
    exact ⟨Int.ediv_nonneg hN0.1 (by omega), Int.le_trans (Int.ediv_le_self _ hN0.1) hN0.2⟩
  have HZ1 := Lib.hid hz1
  have HZ2 := Lib.hid hz2
  have HN := Lib.hid hn
  have HR := Lib.hid hr
  have HBT := Lib.hid BT
  have HBL := Lib.hid BL
  have HNN := Lib.hid hNN
  have HSH := Lib.hid hshr
  generalize be N 8 = nb at *
  clear hz1 hz2 hz hn hr hW hPS BT BL hNN hshr
  go_enter Tryd.func18, Tryd.ntmps18
  go_wp2_with (at_builtin; refine Marker.mk ?_)
  refine Marker.in ?_
  have b1 := below_alloc1 w (.cells #[] 5)
  have o1 := own_lit w w.heap.size (Nat.le_refl _)
  have r1 := row_below HR.out b1
  have BB := Lib.hid b1
  generalize hw1 : w.alloc (.cells #[] 5) = w1 at *
  clear hw1 b1
  replace o1 := Lib.hid o1
  replace r1 := Lib.hid r1
  (with_reducible refine wpList_append_bytes _ ?_ (.tmp 6) (.tmp 7) rfl w.heap.size (some ⟨w.heap.size, 0, none⟩) 0 0 [] rfl ?_ o1.out A c n xs HN.out ?_ r1.out (by omega) BB.out.size ?_)
  · rfl
  · rfl
  · rfl
  intro A2 c2 w2 o2 b2
  rw [Nat.zero_add]
  replace BB := Lib.hid (BB.out.trans b2)
  rw [List.nil_append] at o2
  replace o2 := Lib.hid o2
  clear b2 o1 r1
  go_wp2_with (at_builtin; refine Marker.mk ?_)
  refine Marker.in ?_
  have b3 := below_alloc1 w2 (.cells #[.int .u8 128] 5)
  have o3 := own_below o2.out b3
  have r3 := one_byte (w := w2) 128 (by omega)
  replace BB := Lib.hid (bt BB.out b3)
  generalize w2.alloc (.cells #[.int .u8 128] 5) = w3 at *
  generalize w2.heap.size = g3 at *
  replace o3 := Lib.hid o3
  replace r3 := Lib.hid r3
  clear b3 o2
  (with_reducible refine wpList_append_bytes _ ?_ (.tmp 8) (.tmp 9) rfl w.heap.size A2 c2 n xs HN.out ?_ o3.out (some ⟨g3, 0, none⟩) 1 1 [128] rfl ?_ r3.out (by omega) BB.out.size ?_)
  · rfl
  · rfl
  · rfl
  intro A4 c4 w4 o4 b4
  replace BB := Lib.hid (BB.out.trans b4)
  replace o4 := Lib.hid o4
  clear b4 o3 r3
  go_wp2_with fail
  go_loopw [3] (fun x wr => ∃ (k : Nat) (B : Option Addr) (d : Nat) (L : Nat), k ≤ z ∧ x = .slice B L d ∧ L = n + 1 + k ∧ Own wr w.heap.size B d (xs ++ 128 :: List.replicate k 0) ∧ Below w.heap.size w wr) (fun x _ => match x with | .slice _ L _ => n + 1 + z - L | _ => 0)
  case atStart => exact ⟨0, A4, c4, n + 1, Nat.zero_le _, rfl, rfl, o4.out, BB.out⟩
  case round =>
    clear o4 BB
    obtain ⟨k, B, d, L, hk, rfl, hL, ho, BB⟩ := hrel
    have LX : (xs ++ 128 :: List.replicate k 0).length = L := by simp [HN.out]; omega
    replace BB := Lib.hid BB
    replace ho := Lib.hid ho
    replace LX := Lib.hid LX
    by_cases hlt : k < z
    · have t1 := HZ1.out k hlt
      rw [← hL] at t1
      have hL2 : L ≤ 2000000 := by omega
      have HL := Lib.hid hL
      clear hL
      go_wp2_with (at_builtin; refine Marker.mk ?_)
      refine Marker.in ?_
      clear t1
      have b3 := below_alloc1 wr (.cells #[.int .u8 0] 5)
      have o3 := own_below ho.out b3
      have r3 := one_byte (w := wr) 0 (by omega)
      replace BB := Lib.hid (bt BB.out b3)
      generalize wr.alloc (.cells #[.int .u8 0] 5) = w5 at *
      generalize wr.heap.size = g5 at *
      replace o3 := Lib.hid o3
      replace r3 := Lib.hid r3
      clear b3
      (with_reducible refine wpList_append_bytes _ ?_ (.tmp 15) (.tmp 16) rfl w.heap.size B d L (xs ++ 128 :: List.replicate k 0) LX.out ?_ o3.out (some ⟨g5, 0, none⟩) 1 1 [0] rfl ?_ r3.out (by omega) BB.out.size ?_)
      · rfl
      · rfl
      · rfl
      intro A6 c6 w6 o6 b6
      replace BB := Lib.hid (BB.out.trans b6)
      have e6 : (xs ++ 128 :: List.replicate k 0) ++ [0] = xs ++ 128 :: List.replicate (k + 1) 0 := by rw [List.replicate_succ']; simp
      rw [e6] at o6
      replace o6 := Lib.hid o6
      clear b6 o3 r3 e6
      go_wp2_with fail
      have hL := HL.out
      exact ⟨⟨k + 1, A6, c6, L + 1, by omega, rfl, by omega, o6.out, BB.out⟩, by simp only; omega⟩
    · obtain rfl : k = z := by omega
      have t1 := HZ2.out
      rw [← hL] at t1
      rw [← hL]
      have hL2 : L ≤ 2000000 := by omega
      have nn := HNN.out
      have HL := Lib.hid hL
      clear hL
      go_wp2_with fail
      clear t1 nn
      generalize hpre : xs ++ 128 :: List.replicate k 0 = pre at *
      replace hpre := Lib.hid hpre
      go_loopw [3, 5] (fun x y wx => ∃ (t : Nat) (C : Option Addr) (f M : Nat), t ≤ 8 ∧ y = .int .i64 ((t : Int) - 1) ∧ x = .slice C M f ∧ M = L + (8 - t) ∧ Own wx w.heap.size C f (pre ++ nb.take (8 - t)) ∧ Below w.heap.size w wx) (fun _ y _ => (intOf y + 1).toNat)
      case atStart => exact ⟨8, B, d, L, by omega, rfl, rfl, by omega, by simpa using ho.out, BB.out⟩
      case round =>
        clear ho BB
        obtain ⟨t, C, f, M, ht, rfl, rfl, hM, ho, BB⟩ := hrel
        replace BB := Lib.hid BB
        replace ho := Lib.hid ho
        cases t with
        | succ s =>
          have es : ((s + 1 : Nat) : Int) - 1 = (s : Int) := by omega
          rw [es]
          have LX2 : (pre ++ nb.take (8 - (s + 1))).length = M := by rw [List.length_append, LX.out, List.length_take, HBL.out]; omega
          replace LX2 := Lib.hid LX2
          have BT := HBT.out (8 - (s + 1)) (by omega)
          rw [show 8 - (s + 1) + 1 = 8 - s by omega, show 7 - (8 - (s + 1)) = s by omega] at BT
          have sh := HSH.out s
          have AN := u64_and255 (N / 2 ^ (8 * s)) sh.1 sh.2
          have vb : 0 ≤ N / 2 ^ (8 * s) % 256 ∧ N / 2 ^ (8 * s) % 256 ≤ 255 := by omega
          have wv : IntKind.u8.wrap (N / 2 ^ (8 * s) % 256) = N / 2 ^ (8 * s) % 256 := by rw [IntKind.wrap_u8']; omega
          generalize N / 2 ^ (8 * s) % 256 = v at *
          replace BT := Lib.hid BT
          have hM2 : M ≤ 2000100 := by omega
          have HM := Lib.hid hM
          clear hM es
          go_wp2_with (at_builtin; refine Marker.mk ?_)
          refine Marker.in ?_
          clear AN wv sh
          have b3 := below_alloc1 wr (.cells #[.int .u8 v] 5)
          have o3 := own_below ho.out b3
          have r3 := one_byte (w := wr) v vb
          replace BB := Lib.hid (bt BB.out b3)
          generalize wr.alloc (.cells #[.int .u8 v] 5) = w5 at *
          generalize wr.heap.size = g5 at *
          replace o3 := Lib.hid o3
          replace r3 := Lib.hid r3
          clear b3
          (with_reducible refine wpList_append_bytes _ ?_ (.tmp 26) (.tmp 33) rfl w.heap.size C f M (pre ++ nb.take (8 - (s + 1))) LX2.out ?_ o3.out (some ⟨g5, 0, none⟩) 1 1 [v] rfl ?_ r3.out (by omega) BB.out.size ?_)
          · rfl
          · rfl
          · rfl
          intro A6 c6 w6 o6 b6
          replace BB := Lib.hid (BB.out.trans b6)
          rw [List.append_assoc, ← BT.out] at o6
          replace o6 := Lib.hid o6
          clear b6 o3 r3 BT
          go_wp2_with fail
          have hM := HM.out
          exact ⟨⟨s, A6, c6, M + 1, by omega, by first | rfl | simp, rfl, by omega, o6.out, BB.out⟩, by simp [intOf]⟩
        | zero =>
          have hM2 : M ≤ 2000100 := by omega
          obtain rfl : M = L + 8 := by omega
          have ha := ho.out
          rw [List.take_of_length_le (by rw [HBL.out]; omega)] at ha
          replace ha := Lib.hid ha
          clear hM
          go_wp2_with fail
          go_ret
          exact ⟨⟨C, f, by rw [← HL.out]; rfl, by rw [hpre.out]; exact ha.out⟩, BB.out⟩
end Go.Proofs.YtalekcpdkfdmaaaDoor
