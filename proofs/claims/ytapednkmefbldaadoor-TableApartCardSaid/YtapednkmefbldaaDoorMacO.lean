/- mac.Of, mac.Tag. -/
import Derived.Test.YtapednkmefbldaaDoorMacW
import Derived.Test.YtapednkmefbldaaDoorShaC
namespace Go.Proofs.YtapednkmefbldaaDoor
open Go.RowKit

theorem zeroT_b64 : ZeroT Tryd.prog 87 (u8V (zeros 64)) := by
  intro ev o w ho
  unfold execOp
  simp only [ho]
  simp [go_sem]
  exact congrArg (fun c => w.alloc (.cells c 87)) (by kernel_rfl)
theorem zeroT_b8 : ZeroT Tryd.prog 29 (u8V (zeros 8)) := by
  intro ev o w ho
  unfold execOp
  simp only [ho]
  simp [go_sem]
  exact congrArg (fun c => w.alloc (.cells c 29)) (by kernel_rfl)
theorem agg_b8 : AggT Tryd.prog 29 8 := ⟨⟨_, Tryd.underlying29, rfl⟩, by kernel_rfl⟩
/-- the region that makes the answer -/
def ROf (full x2 s1 : List Int) (g7 : Nat) (i : Nat) (v : Value) (w : World) : Prop := match i with
  | 0 => v = .agg (u8V full)
  | 1 => ∃ g, v = .slice (some ⟨g, 0, none⟩) 64 64 ∧ Row w (some ⟨g, 0, none⟩) x2
  | 2 => v = .slice (some ⟨g7, 0, none⟩) 32 32
  | 3 => ∃ g A, v = .slice (some ⟨g, 0, none⟩) 2 2 ∧ Blk w g #[.slice A 64 64, .slice (some ⟨g7, 0, none⟩) 32 32] 23 ∧ Row w A x2
  | 4 => ∃ A d, v = .slice A 96 d ∧ Row w A (x2 ++ s1)
  | 5 => v = .agg (u8V (sha (x2 ++ s1)))
  | _ => True
theorem ROf_keep (full x2 s1 : List Int) (g7 : Nat) : ∀ i v w w', i < 6 → ROf full x2 s1 g7 i v w → Below w.heap.size w w' → ROf full x2 s1 g7 i v w' := by
  intro i v w w' hi h hb
  match i, hi with
  | 0, _ => exact h
  | 1, _ =>
    obtain ⟨g, e, r⟩ := h
    exact ⟨g, e, row_below r hb⟩
  | 2, _ => exact h
  | 3, _ =>
    obtain ⟨g, A, e, k, r⟩ := h
    exact ⟨g, A, e, k.below hb, row_below r hb⟩
  | 4, _ =>
    obtain ⟨A, d, e, r⟩ := h
    exact ⟨A, d, e, row_below r hb⟩
  | 5, _ => exact h
  | _ + 6, hi => exact absurd hi (by omega)
theorem full_of (k : List Int) (hk : k.length ≤ 64) : putAt (zeros 64) 0 k = k ++ zeros (64 - k.length) := by
  unfold putAt zeros
  simp only [List.take_zero, List.nil_append, Nat.zero_add, List.drop_replicate]

set_option maxRecDepth 100000 in
set_option maxHeartbeats 800000 in
theorem of_short (A B : Option Addr) (k b : List Int) (n m c d : Nat) (w : World) (hn : k.length = n) (hm : b.length = m) (hk : Row w A k) (hb : Row w B b) (hl : n ≤ 64) (hl2 : m ≤ 10000000) (hR : Roots w) :
    Calls Tryd.prog 17 #[.slice A n c, .slice B m d] w fun e w' => e = .returned (.agg (u8V (hmac k b))) ∧ Below w.heap.size w w' := by
  have HKL := Lib.hid hn
  have HBL := Lib.hid hm
  have HKR := Lib.hid hk
  have HBR := Lib.hid hb
  have RT := Lib.hid hR
  have hl64 : ¬ 64 < (n : Int) := by omega
  obtain ⟨ans, hans⟩ : ∃ a, hmac k b = a := ⟨_, rfl⟩
  rw [hans]
  have HANS := Lib.hid hans
  clear hn hm hk hb hR hans
  go_enter Tryd.func17, Tryd.ntmps17
  go_wp2_with (first | ((with_reducible show wpList _ _ _ (⟨_, .alloc 22, _, _, _, none⟩ :: _) _ _); (with_reducible refine wpRow_alloc zeroT_b32 ?_ ?_ ?_); (· exact wanted0 rfl); (· rfl)) | ((with_reducible show wpList _ _ _ (⟨_, .alloc 87, _, _, _, none⟩ :: _) _ _); (with_reducible refine wpRow_alloc zeroT_b64 ?_ ?_ ?_); (· exact wanted0 rfl); (· rfl); refine Marker.mk ?_))
  refine Marker.in ?_
  have K4 := Lib.hid ((Blk.new w (u8V (zeros 32)) 22).alloc (.cells (u8V (zeros 64)) 87))
  have K5 := Lib.hid (Blk.new' (w.alloc (.cells (u8V (zeros 32)) 22)) (u8V (zeros 64)) 87 (g := w.heap.size + 1) (by simp))
  have BB := Lib.hid (below_alloc2 w (.cells (u8V (zeros 32)) 22) (.cells (u8V (zeros 64)) 87))
  have lg : w.heap.size < w.heap.size + 1 := by omega
  generalize (w.alloc (.cells (u8V (zeros 32)) 22)).alloc (.cells (u8V (zeros 64)) 87) = w1 at *
  generalize w.heap.size + 1 = g5 at *
  go_wp2_with ((with_reducible show wpList _ _ _ (⟨some 18, _, _, _, _, none⟩ :: _) _ _); refine Marker.mk ?_)
  refine Marker.in ?_
  have HKR1 := Lib.hid (row_below HKR.out BB.out)
  (with_reducible refine wpBlk_copy ?_ g5 0 64 64 (zeros 64) 87 A n c k n (some ⟨g5, 0, none⟩) ?_ K5 HKL.out HKR1 ?_ ?_ ?_ ?_)
  · exact wanted0 rfl
  · exact ⟨rfl, _, _, rfl, rfl, rfl⟩
  · exact Nat.min_eq_left (by omega)
  · rw [zeros_len]; omega
  · exact fun _ => rfl
  intro w5 K5' b5 o5 s5
  have e5 : putAt (zeros 64) 0 (k.take n) = key64 k := by
    have h1 := HKL.out
    rw [List.take_of_length_le (by omega), full_of k (by omega)]
    have h2 : keyed k = k := if_neg (by omega)
    unfold key64
    rw [h2]
  rw [e5] at K5'
  replace K4 := Lib.hid (show Blk w5 w.heap.size (u8V (zeros 32)) 22 from (o5 _ (by omega)).trans K4.out)
  replace BB := Lib.hid (BB.out.trans (b5.mono (by omega)))
  clear K5 o5 s5 b5 e5 HKR1
  have K5 := K5'
  clear K5'

  replace K5 := Lib.hid K5
  have HF2 := key64_bytes HKR.out.2
  have HFL := key64_len k
  have HMAC : hmac k b = sha (turnB (key64 k) 92 ++ sha (turnB (key64 k) 54 ++ b)) := rfl
  generalize key64 k = full at *
  rw [HANS.out] at HMAC
  replace HF2 := Lib.hid HF2
  replace HFL := Lib.hid HFL
  have HM := Lib.hid HMAC
  clear HMAC
  have C1 := Lib.hid (turned_any full 54 · HFL.out (by omega))
  have C2 := Lib.hid (turned_any full 92 · HFL.out (by omega))
  have X1L : (turnB full 54).length = 64 := by rw [turnB_len, HFL.out]
  have X2L : (turnB full 92).length = 64 := by rw [turnB_len, HFL.out]
  have X1B := turnB_bytes full 54
  have X2B := turnB_bytes full 92
  generalize turnB full 54 = x1 at *
  generalize turnB full 92 = x2 at *
  replace X1L := Lib.hid X1L
  replace X2L := Lib.hid X2L
  replace X1B := Lib.hid X1B
  replace X2B := Lib.hid X2B
  go_wp2_with ((with_reducible show wpList _ _ _ (⟨_, .load 87 _, _, _, _, none⟩ :: _) _ _); (with_reducible refine wpBlk_load (g := g5) agg_b64 ?_ ?_ K5 ?_ ?_); (· exact wanted0 rfl); (· exact ⟨rfl, rfl⟩); (· rw [u8V_size, HFL.out]))
  ((with_reducible refine (C1.out _).mono ?_))
  rintro e w6 ⟨rfl, KT, b6⟩
  replace K4 := Lib.hid (K4.out.below b6)
  replace K5 := Lib.hid (K5.out.below b6)
  replace BB := Lib.hid (bt BB.out b6)
  have RT1 := Lib.hid (u8V_row KT X1B.out)
  clear b6 KT
  generalize (w5.heap.size + 1) = gt at *
  go_wp2_with (go_at_call 42; refine Marker.mk ?_)
  refine Marker.in ?_
  have bl := below_alloc1 w6 (.cells #[.slice (some ⟨gt, 0, none⟩) 64 64, .slice B m d] 23)
  have KJ := Blk.new w6 #[.slice (some ⟨gt, 0, none⟩) 64 64, .slice B m d] 23
  replace RT1 := Lib.hid (row_below RT1.out bl)
  replace K4 := Lib.hid (K4.out.below bl)
  replace K5 := Lib.hid (K5.out.below bl)
  replace BB := Lib.hid (bt BB.out bl)
  clear bl
  generalize w6.alloc (.cells #[.slice (some ⟨gt, 0, none⟩) 64 64, .slice B m d] 23) = w7 at *
  ((with_reducible refine (join_two w6.heap.size 2 (some ⟨gt, 0, none⟩) B 64 m 64 d x1 b w7 X1L.out HBL.out KJ RT1.out (row_below HBR.out BB.out) (by omega)).mono ?_))
  rintro e w8 ⟨⟨A1, d1, rfl, o1⟩, b8⟩
  replace K4 := Lib.hid (K4.out.below b8)
  replace K5 := Lib.hid (K5.out.below b8)
  replace BB := Lib.hid (bt BB.out b8)
  clear b8 KJ
  have RJ := Lib.hid o1.row
  have LJ : (x1 ++ b).length = 64 + m := by rw [List.length_append, X1L.out, HBL.out]
  clear o1
  generalize hJ : x1 ++ b = j1 at *
  replace LJ := Lib.hid LJ
  replace hJ := Lib.hid hJ
  go_wp2_with fail
  ((with_reducible refine (sum_any A1 j1 (64 + m) d1 w8 LJ.out RJ.out (by omega) (RT.out.below BB.out)).mono ?_))
  rintro e w9 ⟨rfl, b9⟩
  replace K4 := Lib.hid (K4.out.below b9)
  replace K5 := Lib.hid (K5.out.below b9)
  replace BB := Lib.hid (bt BB.out b9)
  have l9 := K5.out.lt
  clear b9 RJ
  have S1L := sha_len j1
  have S1B := sha_bytes j1
  generalize hS : sha j1 = s1 at *
  replace hS := Lib.hid hS
  replace S1L := Lib.hid S1L
  replace S1B := Lib.hid S1B
  go_wp2_with ((with_reducible show wpList _ _ _ (⟨_, .alloc 22, _, _, _, none⟩ :: _) _ _); (with_reducible refine wpRow_alloc zeroT_b32 ?_ ?_ ?_); (· exact wanted0 rfl); (· rfl); refine Marker.mk ?_)
  refine Marker.in ?_
  have bel := below_alloc1 w9 (.cells (u8V (zeros 32)) 22)
  replace K4 := Lib.hid (K4.out.below bel)
  replace K5 := Lib.hid (K5.out.below bel)
  replace BB := Lib.hid (bt BB.out bel)
  have K7 := Lib.hid (Blk.new w9 (u8V (zeros 32)) 22)
  clear bel
  generalize w9.alloc (.cells (u8V (zeros 32)) 22) = w10 at *
  generalize w9.heap.size = g7 at *
  go_wp2_with ((with_reducible show wpList _ _ _ (⟨_, .store 22 _ _, _, _, _, none⟩ :: _) _ _); (with_reducible refine wpBlk_store (g := g7) (cs := u8V s1) agg_b32 ?_ ?_ K7 ?_ ?_ ?_ ?_); (· exact wanted0 rfl); (· exact ⟨rfl, rfl, rfl⟩); (· rw [u8V_size, zeros_len]); (· rw [u8V_size, S1L.out]); (· exact u8V_one _); refine Marker.mk ?_)
  refine Marker.in ?_
  replace K4 := Lib.hid (K4.out.setRow_other g7 (u8V s1) (by omega))
  replace K5 := Lib.hid (K5.out.setRow_other g7 (u8V s1) (by omega))
  replace K7 := Lib.hid (K7.out.setRow (u8V s1))
  replace BB := Lib.hid (below_setRow (g := g7) BB.out (by omega) (u8V s1))
  generalize w10.setRow g7 (u8V s1) = w11 at *
  go_wp2_with fail
  refine wp_region_conf' (by kernel_rfl) 6 (by kernel_rfl) (by simp) (by decide) (ROf full x2 s1 g7) (ROf_keep full x2 s1 g7) ?_ ?_
  · simp only [ConfSteps, List.take_succ_cons, List.take_zero, putAll, Act.put, List.setIfInBounds_toArray, List.set_cons_succ, List.set_cons_zero, and_true]
    refine ⟨?_, ?_, ?_, ?_, ?_, ?_⟩
    all_goals intro v w' hb hd
    · exact conf_load (g := g5) (cs := u8V full) agg_b64 (wanted0 rfl) ⟨rfl, rfl⟩ (K5.out.below hb) (by rw [u8V_size, HFL.out]) rfl
    · have d0 : v 0 = _ := hd ⟨0, .data⟩ (by simp) rfl
      refine conf_call (f := 43) (args := #[v 0, .int .u8 92]) (wanted0 rfl) (by simp [go_sem]) ?_
      rw [d0]
      exact (C2.out w').mono fun e w'' ⟨he, hk, hb'⟩ => ⟨_, he, hb', _, rfl, u8V_row hk X2B.out⟩
    · exact conf_value (wanted0 rfl) (by simp [go_sem]) rfl
    · obtain ⟨g, d1, r1⟩ : ∃ g, v 1 = .slice (some ⟨g, 0, none⟩) 64 64 ∧ Row w' (some ⟨g, 0, none⟩) x2 := hd ⟨1, .data⟩ (by simp) rfl
      have d2 : v 2 = _ := hd ⟨2, .data⟩ (by simp) rfl
      refine conf_make (v := .slice (some ⟨w'.heap.size, 0, none⟩) 2 2) (w' := w'.alloc (.cells #[.slice (some ⟨g, 0, none⟩) 64 64, .slice (some ⟨g7, 0, none⟩) 32 32] 23)) (wanted0 rfl) (by simp [go_sem, d1, d2]) (below_alloc1 _ _) ⟨_, _, rfl, Blk.new _ _ _, row_below r1 (below_alloc1 _ _)⟩
    · obtain ⟨g, A, d3, k3, r3⟩ : ∃ g A, v 3 = .slice (some ⟨g, 0, none⟩) 2 2 ∧ Blk w' g #[.slice A 64 64, .slice (some ⟨g7, 0, none⟩) 32 32] 23 ∧ Row w' A x2 := hd ⟨3, .data⟩ (by simp) rfl
      refine conf_call (f := 42) (args := #[v 3]) (wanted0 rfl) (by simp [go_sem]) ?_
      rw [d3]
      exact (join_two g 2 A (some ⟨g7, 0, none⟩) 64 32 64 32 x2 s1 w' X2L.out S1L.out k3 r3 (u8V_row (K7.out.below hb) S1B.out) (by omega)).mono fun e w'' ⟨⟨A1, d1, he, o1⟩, hb'⟩ => ⟨_, he, hb', _, _, rfl, o1.row⟩
    · obtain ⟨A, d, d4, r4⟩ : ∃ A d, v 4 = .slice A 96 d ∧ Row w' A (x2 ++ s1) := hd ⟨4, .data⟩ (by simp) rfl
      refine conf_call (f := 41) (args := #[v 4]) (wanted0 rfl) (by simp [go_sem]) ?_
      rw [d4]
      exact (sum_any A (x2 ++ s1) 96 d w' (by rw [List.length_append, X2L.out, S1L.out]) r4 (by omega) (RT.out.below (bt BB.out hb))).mono fun e w'' ⟨he, hb'⟩ => ⟨_, he, hb', rfl⟩
  · intro v w' hb hr
    have d5 : v 5 = .agg (u8V (sha (x2 ++ s1))) := hr 5 (by omega)
    simp only [List.take_succ_cons, List.take_zero, List.drop_succ_cons, List.drop_zero, putAll, Act.put, List.setIfInBounds_toArray, List.set_cons_succ, List.set_cons_zero]
    have ea : sha (x2 ++ s1) = ans := HM.out.symm
    rw [ea] at d5
    have AL : ans.length = 32 := by rw [← ea, sha_len]
    rw [d5]
    replace K4 := Lib.hid (K4.out.below hb)
    replace BB := Lib.hid (bt BB.out hb)
    replace AL := Lib.hid AL
    clear hr hb d5 ea
    go_wp2_with ((with_reducible show wpList _ _ _ (⟨_, .store 22 _ _, _, _, _, none⟩ :: _) _ _); (with_reducible refine wpBlk_store (g := w.heap.size) (cs := u8V ans) agg_b32 ?_ ?_ K4 ?_ ?_ ?_ ?_); (· exact wanted0 rfl); (· exact ⟨rfl, rfl, rfl⟩); (· rw [u8V_size, zeros_len]); (· rw [u8V_size, AL.out]); (· exact u8V_one _))
    refine bodyPost_ret (v := .agg (u8V ans)) (results_blk agg_b32 rfl _ _ (w.heap.size) _ rfl (K4.out.setRow _) (by rw [u8V_size, AL.out])) rfl ⟨rfl, below_setRow BB.out (by omega) _⟩

set_option maxRecDepth 100000 in
set_option maxHeartbeats 800000 in
theorem of_long (A B : Option Addr) (k b : List Int) (n m c d : Nat) (w : World) (hn : k.length = n) (hm : b.length = m) (hk : Row w A k) (hb : Row w B b) (hl : 64 < n ∧ n ≤ 10000000) (hl2 : m ≤ 10000000) (hR : Roots w) :
    Calls Tryd.prog 17 #[.slice A n c, .slice B m d] w fun e w' => e = .returned (.agg (u8V (hmac k b))) ∧ Below w.heap.size w w' := by
  have HKL := Lib.hid hn
  have HBL := Lib.hid hm
  have HKR := Lib.hid hk
  have HBR := Lib.hid hb
  have RT := Lib.hid hR
  have hl64 : 64 < (n : Int) := by omega
  obtain ⟨ans, hans⟩ : ∃ a, hmac k b = a := ⟨_, rfl⟩
  rw [hans]
  have HANS := Lib.hid hans
  clear hn hm hk hb hR hans
  go_enter Tryd.func17, Tryd.ntmps17
  go_wp2_with (first | ((with_reducible show wpList _ _ _ (⟨_, .alloc 22, _, _, _, none⟩ :: _) _ _); (with_reducible refine wpRow_alloc zeroT_b32 ?_ ?_ ?_); (· exact wanted0 rfl); (· rfl)) | ((with_reducible show wpList _ _ _ (⟨_, .alloc 87, _, _, _, none⟩ :: _) _ _); (with_reducible refine wpRow_alloc zeroT_b64 ?_ ?_ ?_); (· exact wanted0 rfl); (· rfl); refine Marker.mk ?_))
  refine Marker.in ?_
  have K4 := Lib.hid ((Blk.new w (u8V (zeros 32)) 22).alloc (.cells (u8V (zeros 64)) 87))
  have K5 := Lib.hid (Blk.new' (w.alloc (.cells (u8V (zeros 32)) 22)) (u8V (zeros 64)) 87 (g := w.heap.size + 1) (by simp))
  have BB := Lib.hid (below_alloc2 w (.cells (u8V (zeros 32)) 22) (.cells (u8V (zeros 64)) 87))
  have lg : w.heap.size < w.heap.size + 1 := by omega
  generalize (w.alloc (.cells (u8V (zeros 32)) 22)).alloc (.cells (u8V (zeros 64)) 87) = w1 at *
  generalize w.heap.size + 1 = g5 at *
  go_wp2_with fail
  ((with_reducible refine (sum_any A k n c w1 HKL.out (row_below HKR.out BB.out) (by omega) (RT.out.below BB.out)).mono ?_))
  rintro e w2 ⟨rfl, b2⟩
  have KL := sha_len k
  have KB := sha_bytes k
  have hkk : keyed k = sha k := if_pos (by rw [HKL.out]; omega)
  generalize sha k = sk at *
  replace KL := Lib.hid KL
  replace KB := Lib.hid KB
  replace hkk := Lib.hid hkk
  replace K4 := Lib.hid (K4.out.below b2)
  replace K5 := Lib.hid (K5.out.below b2)
  replace BB := Lib.hid (bt BB.out b2)
  have l2 := K5.out.lt
  clear b2
  go_wp2_with ((with_reducible show wpList _ _ _ (⟨_, .alloc 22, _, _, _, none⟩ :: _) _ _); (with_reducible refine wpRow_alloc zeroT_b32 ?_ ?_ ?_); (· exact wanted0 rfl); (· rfl); refine Marker.mk ?_)
  refine Marker.in ?_
  have bel := below_alloc1 w2 (.cells (u8V (zeros 32)) 22)
  replace K4 := Lib.hid (K4.out.below bel)
  replace K5 := Lib.hid (K5.out.below bel)
  replace BB := Lib.hid (bt BB.out bel)
  have K6 := Lib.hid (Blk.new w2 (u8V (zeros 32)) 22)
  clear bel
  generalize w2.alloc (.cells (u8V (zeros 32)) 22) = w3 at *
  generalize w2.heap.size = g6 at *
  go_wp2_with ((with_reducible show wpList _ _ _ (⟨_, .store 22 _ _, _, _, _, none⟩ :: _) _ _); (with_reducible refine wpBlk_store (g := g6) (cs := u8V sk) agg_b32 ?_ ?_ K6 ?_ ?_ ?_ ?_); (· exact wanted0 rfl); (· exact ⟨rfl, rfl, rfl⟩); (· rw [u8V_size, zeros_len]); (· rw [u8V_size, KL.out]); (· exact u8V_one _); refine Marker.mk ?_)
  refine Marker.in ?_
  replace K4 := Lib.hid (K4.out.setRow_other g6 (u8V sk) (by omega))
  replace K5 := Lib.hid (K5.out.setRow_other g6 (u8V sk) (by omega))
  replace K6 := Lib.hid (K6.out.setRow (u8V sk))
  replace BB := Lib.hid (below_setRow (g := g6) BB.out (by omega) (u8V sk))
  generalize w3.setRow g6 (u8V sk) = w4 at *
  go_wp2_with fail
  refine wp_region_qt' 2 (by kernel_rfl) (by kernel_rfl) ?_
  simp only [List.take_succ_cons, List.take_zero, List.drop_succ_cons, List.drop_zero]
  repeat (go_big_quiet_step (fail))
  refine wpQuiet_nil ?_
  intro _ hw'
  obtain ⟨nq, rfl⟩ := hw'
  replace K4 := Lib.hid (K4.out.drewN nq)
  replace K5 := Lib.hid (K5.out.drewN nq)
  have HKR1 := Lib.hid (u8V_row (K6.out.drewN nq) KB.out)
  replace BB := Lib.hid (below_drewN BB.out nq)
  generalize w4.drewN nq = w4 at *
  (with_reducible refine wpBlk_copy ?_ g5 0 64 64 (zeros 64) 87 (some ⟨g6, 0, none⟩) 32 32 sk 32 (some ⟨g5, 0, none⟩) ?_ K5 KL.out HKR1 ?_ ?_ ?_ ?_)
  · exact wanted0 rfl
  · exact ⟨rfl, _, _, rfl, rfl, rfl⟩
  · rfl
  · rw [zeros_len]; omega
  · exact fun _ => rfl
  intro w5 K5' b5 o5 s5
  have e5 : putAt (zeros 64) 0 (sk.take 32) = key64 k := by
    have h1 := KL.out
    rw [List.take_of_length_le (by omega), full_of sk (by omega)]
    unfold key64
    rw [hkk.out]
  rw [e5] at K5'
  replace K4 := Lib.hid (show Blk w5 w.heap.size (u8V (zeros 32)) 22 from (o5 _ (by omega)).trans K4.out)
  replace BB := Lib.hid (BB.out.trans (b5.mono (by omega)))
  clear K5 K6 o5 s5 b5 e5 HKR1 hkk
  have K5 := K5'
  clear K5'

  replace K5 := Lib.hid K5
  have HF2 := key64_bytes HKR.out.2
  have HFL := key64_len k
  have HMAC : hmac k b = sha (turnB (key64 k) 92 ++ sha (turnB (key64 k) 54 ++ b)) := rfl
  generalize key64 k = full at *
  rw [HANS.out] at HMAC
  replace HF2 := Lib.hid HF2
  replace HFL := Lib.hid HFL
  have HM := Lib.hid HMAC
  clear HMAC
  have C1 := Lib.hid (turned_any full 54 · HFL.out (by omega))
  have C2 := Lib.hid (turned_any full 92 · HFL.out (by omega))
  have X1L : (turnB full 54).length = 64 := by rw [turnB_len, HFL.out]
  have X2L : (turnB full 92).length = 64 := by rw [turnB_len, HFL.out]
  have X1B := turnB_bytes full 54
  have X2B := turnB_bytes full 92
  generalize turnB full 54 = x1 at *
  generalize turnB full 92 = x2 at *
  replace X1L := Lib.hid X1L
  replace X2L := Lib.hid X2L
  replace X1B := Lib.hid X1B
  replace X2B := Lib.hid X2B
  go_wp2_with ((with_reducible show wpList _ _ _ (⟨_, .load 87 _, _, _, _, none⟩ :: _) _ _); (with_reducible refine wpBlk_load (g := g5) agg_b64 ?_ ?_ K5 ?_ ?_); (· exact wanted0 rfl); (· exact ⟨rfl, rfl⟩); (· rw [u8V_size, HFL.out]))
  ((with_reducible refine (C1.out _).mono ?_))
  rintro e w6 ⟨rfl, KT, b6⟩
  replace K4 := Lib.hid (K4.out.below b6)
  replace K5 := Lib.hid (K5.out.below b6)
  replace BB := Lib.hid (bt BB.out b6)
  have RT1 := Lib.hid (u8V_row KT X1B.out)
  clear b6 KT
  generalize (w5.heap.size + 1) = gt at *
  go_wp2_with (go_at_call 42; refine Marker.mk ?_)
  refine Marker.in ?_
  have bl := below_alloc1 w6 (.cells #[.slice (some ⟨gt, 0, none⟩) 64 64, .slice B m d] 23)
  have KJ := Blk.new w6 #[.slice (some ⟨gt, 0, none⟩) 64 64, .slice B m d] 23
  replace RT1 := Lib.hid (row_below RT1.out bl)
  replace K4 := Lib.hid (K4.out.below bl)
  replace K5 := Lib.hid (K5.out.below bl)
  replace BB := Lib.hid (bt BB.out bl)
  clear bl
  generalize w6.alloc (.cells #[.slice (some ⟨gt, 0, none⟩) 64 64, .slice B m d] 23) = w7 at *
  ((with_reducible refine (join_two w6.heap.size 2 (some ⟨gt, 0, none⟩) B 64 m 64 d x1 b w7 X1L.out HBL.out KJ RT1.out (row_below HBR.out BB.out) (by omega)).mono ?_))
  rintro e w8 ⟨⟨A1, d1, rfl, o1⟩, b8⟩
  replace K4 := Lib.hid (K4.out.below b8)
  replace K5 := Lib.hid (K5.out.below b8)
  replace BB := Lib.hid (bt BB.out b8)
  clear b8 KJ
  have RJ := Lib.hid o1.row
  have LJ : (x1 ++ b).length = 64 + m := by rw [List.length_append, X1L.out, HBL.out]
  clear o1
  generalize hJ : x1 ++ b = j1 at *
  replace LJ := Lib.hid LJ
  replace hJ := Lib.hid hJ
  go_wp2_with fail
  ((with_reducible refine (sum_any A1 j1 (64 + m) d1 w8 LJ.out RJ.out (by omega) (RT.out.below BB.out)).mono ?_))
  rintro e w9 ⟨rfl, b9⟩
  replace K4 := Lib.hid (K4.out.below b9)
  replace K5 := Lib.hid (K5.out.below b9)
  replace BB := Lib.hid (bt BB.out b9)
  have l9 := K5.out.lt
  clear b9 RJ
  have S1L := sha_len j1
  have S1B := sha_bytes j1
  generalize hS : sha j1 = s1 at *
  replace hS := Lib.hid hS
  replace S1L := Lib.hid S1L
  replace S1B := Lib.hid S1B
  go_wp2_with ((with_reducible show wpList _ _ _ (⟨_, .alloc 22, _, _, _, none⟩ :: _) _ _); (with_reducible refine wpRow_alloc zeroT_b32 ?_ ?_ ?_); (· exact wanted0 rfl); (· rfl); refine Marker.mk ?_)
  refine Marker.in ?_
  have bel := below_alloc1 w9 (.cells (u8V (zeros 32)) 22)
  replace K4 := Lib.hid (K4.out.below bel)
  replace K5 := Lib.hid (K5.out.below bel)
  replace BB := Lib.hid (bt BB.out bel)
  have K7 := Lib.hid (Blk.new w9 (u8V (zeros 32)) 22)
  clear bel
  generalize w9.alloc (.cells (u8V (zeros 32)) 22) = w10 at *
  generalize w9.heap.size = g7 at *
  go_wp2_with ((with_reducible show wpList _ _ _ (⟨_, .store 22 _ _, _, _, _, none⟩ :: _) _ _); (with_reducible refine wpBlk_store (g := g7) (cs := u8V s1) agg_b32 ?_ ?_ K7 ?_ ?_ ?_ ?_); (· exact wanted0 rfl); (· exact ⟨rfl, rfl, rfl⟩); (· rw [u8V_size, zeros_len]); (· rw [u8V_size, S1L.out]); (· exact u8V_one _); refine Marker.mk ?_)
  refine Marker.in ?_
  replace K4 := Lib.hid (K4.out.setRow_other g7 (u8V s1) (by omega))
  replace K5 := Lib.hid (K5.out.setRow_other g7 (u8V s1) (by omega))
  replace K7 := Lib.hid (K7.out.setRow (u8V s1))
  replace BB := Lib.hid (below_setRow (g := g7) BB.out (by omega) (u8V s1))
  generalize w10.setRow g7 (u8V s1) = w11 at *
  go_wp2_with fail
  refine wp_region_conf' (by kernel_rfl) 6 (by kernel_rfl) (by simp) (by decide) (ROf full x2 s1 g7) (ROf_keep full x2 s1 g7) ?_ ?_
  · simp only [ConfSteps, List.take_succ_cons, List.take_zero, putAll, Act.put, List.setIfInBounds_toArray, List.set_cons_succ, List.set_cons_zero, and_true]
    refine ⟨?_, ?_, ?_, ?_, ?_, ?_⟩
    all_goals intro v w' hb hd
    · exact conf_load (g := g5) (cs := u8V full) agg_b64 (wanted0 rfl) ⟨rfl, rfl⟩ (K5.out.below hb) (by rw [u8V_size, HFL.out]) rfl
    · have d0 : v 0 = _ := hd ⟨0, .data⟩ (by simp) rfl
      refine conf_call (f := 43) (args := #[v 0, .int .u8 92]) (wanted0 rfl) (by simp [go_sem]) ?_
      rw [d0]
      exact (C2.out w').mono fun e w'' ⟨he, hk, hb'⟩ => ⟨_, he, hb', _, rfl, u8V_row hk X2B.out⟩
    · exact conf_value (wanted0 rfl) (by simp [go_sem]) rfl
    · obtain ⟨g, d1, r1⟩ : ∃ g, v 1 = .slice (some ⟨g, 0, none⟩) 64 64 ∧ Row w' (some ⟨g, 0, none⟩) x2 := hd ⟨1, .data⟩ (by simp) rfl
      have d2 : v 2 = _ := hd ⟨2, .data⟩ (by simp) rfl
      refine conf_make (v := .slice (some ⟨w'.heap.size, 0, none⟩) 2 2) (w' := w'.alloc (.cells #[.slice (some ⟨g, 0, none⟩) 64 64, .slice (some ⟨g7, 0, none⟩) 32 32] 23)) (wanted0 rfl) (by simp [go_sem, d1, d2]) (below_alloc1 _ _) ⟨_, _, rfl, Blk.new _ _ _, row_below r1 (below_alloc1 _ _)⟩
    · obtain ⟨g, A, d3, k3, r3⟩ : ∃ g A, v 3 = .slice (some ⟨g, 0, none⟩) 2 2 ∧ Blk w' g #[.slice A 64 64, .slice (some ⟨g7, 0, none⟩) 32 32] 23 ∧ Row w' A x2 := hd ⟨3, .data⟩ (by simp) rfl
      refine conf_call (f := 42) (args := #[v 3]) (wanted0 rfl) (by simp [go_sem]) ?_
      rw [d3]
      exact (join_two g 2 A (some ⟨g7, 0, none⟩) 64 32 64 32 x2 s1 w' X2L.out S1L.out k3 r3 (u8V_row (K7.out.below hb) S1B.out) (by omega)).mono fun e w'' ⟨⟨A1, d1, he, o1⟩, hb'⟩ => ⟨_, he, hb', _, _, rfl, o1.row⟩
    · obtain ⟨A, d, d4, r4⟩ : ∃ A d, v 4 = .slice A 96 d ∧ Row w' A (x2 ++ s1) := hd ⟨4, .data⟩ (by simp) rfl
      refine conf_call (f := 41) (args := #[v 4]) (wanted0 rfl) (by simp [go_sem]) ?_
      rw [d4]
      exact (sum_any A (x2 ++ s1) 96 d w' (by rw [List.length_append, X2L.out, S1L.out]) r4 (by omega) (RT.out.below (bt BB.out hb))).mono fun e w'' ⟨he, hb'⟩ => ⟨_, he, hb', rfl⟩
  · intro v w' hb hr
    have d5 : v 5 = .agg (u8V (sha (x2 ++ s1))) := hr 5 (by omega)
    simp only [List.take_succ_cons, List.take_zero, List.drop_succ_cons, List.drop_zero, putAll, Act.put, List.setIfInBounds_toArray, List.set_cons_succ, List.set_cons_zero]
    have ea : sha (x2 ++ s1) = ans := HM.out.symm
    rw [ea] at d5
    have AL : ans.length = 32 := by rw [← ea, sha_len]
    rw [d5]
    replace K4 := Lib.hid (K4.out.below hb)
    replace BB := Lib.hid (bt BB.out hb)
    replace AL := Lib.hid AL
    clear hr hb d5 ea
    go_wp2_with ((with_reducible show wpList _ _ _ (⟨_, .store 22 _ _, _, _, _, none⟩ :: _) _ _); (with_reducible refine wpBlk_store (g := w.heap.size) (cs := u8V ans) agg_b32 ?_ ?_ K4 ?_ ?_ ?_ ?_); (· exact wanted0 rfl); (· exact ⟨rfl, rfl, rfl⟩); (· rw [u8V_size, zeros_len]); (· rw [u8V_size, AL.out]); (· exact u8V_one _))
    refine bodyPost_ret (v := .agg (u8V ans)) (results_blk agg_b32 rfl _ _ (w.heap.size) _ rfl (K4.out.setRow _) (by rw [u8V_size, AL.out])) rfl ⟨rfl, below_setRow BB.out (by omega) _⟩

theorem of_any (A B : Option Addr) (k b : List Int) (n m c d : Nat) (w : World) (hn : k.length = n) (hm : b.length = m) (hk : Row w A k) (hb : Row w B b) (hl : n ≤ 10000000) (hl2 : m ≤ 10000000) (hR : Roots w) :
    Calls Tryd.prog 17 #[.slice A n c, .slice B m d] w fun e w' => e = .returned (.agg (u8V (hmac k b))) ∧ Below w.heap.size w w' := by
  rcases Nat.lt_or_ge 64 n with h | h
  · exact of_long A B k b n m c d w hn hm hk hb ⟨h, hl⟩ hl2 hR
  · exact of_short A B k b n m c d w hn hm hk hb h hl2 hR
end Go.Proofs.YtapednkmefbldaaDoor
