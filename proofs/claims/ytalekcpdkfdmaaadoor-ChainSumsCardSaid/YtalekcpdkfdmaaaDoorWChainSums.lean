/- The walk of ChainSums. -/
import Derived.Test.YtalekcpdkfdmaaaDoorChainO
import Derived.Test.YtalekcpdkfdmaaaDoorShaC
import Derived.Test.YtalekcpdkfdmaaaDoorGrow
import Derived.Test.YtalekcpdkfdmaaaDoorStep
namespace Go.Proofs.YtalekcpdkfdmaaaDoor
open Go.RowKit

theorem flat_two (v : Value) (w : World) (base : Nat) (h : Value.okWide Tryd.prog w .any base 53 v) : ∃ h0 h1 : List Int, v = .agg (u8V (h0 ++ h1)) ∧ h0.length = 32 ∧ h1.length = 32 ∧ (∀ x ∈ h0, 0 ≤ x ∧ x ≤ 255) ∧ (∀ x ∈ h1, 0 ≤ x ∧ x ≤ 255) := by
  obtain ⟨cs, rfl, hs, hc⟩ := flat (ts := List.replicate 64 5) (.inr ⟨_, _, Tryd.underlying53⟩) (by kernel_rfl) (by kernel_rfl) h
  have key : ∀ i (hi : i < 64), ∃ n : Int, cs[i]? = some (.int .u8 n) ∧ 0 ≤ n ∧ n ≤ 255 := by
    intro i hi
    have hi2 : i < cs.size := by simp at hs; omega
    obtain ⟨n, e, n0, n1⟩ := opn_u8 Tryd.underlying5 (hc i 5 (cs[i]'hi2) (by rw [List.getElem?_replicate, if_pos hi]) (Array.getElem?_eq_getElem hi2))
    exact ⟨n, by rw [Array.getElem?_eq_getElem hi2, e], n0, n1⟩
  have hs2 : cs.size = 64 := by simpa using hs
  let f : Nat → Int := fun i => match cs[i]? with
    | some (.int _ n) => n
    | _ => 0
  have hf : ∀ i, i < 64 → cs[i]? = some (.int .u8 (f i)) ∧ 0 ≤ f i ∧ f i ≤ 255 := by
    intro i hi
    obtain ⟨n, e, n0, n1⟩ := key i hi
    have e2 : f i = n := by simp only [f, e]
    rw [e2]
    exact ⟨e, n0, n1⟩
  have ec : cs = u8V ((List.range 64).map f) := by
    apply Array.ext
    · rw [hs2]; simp [u8V]
    · intro i h1 h2
      have := (hf i (by omega)).1
      rw [Array.getElem?_eq_getElem h1] at this
      have h3 := Option.some.inj this
      rw [h3]
      simp [u8V]
  refine ⟨(List.range 32).map f, (List.range' 32 32).map f, ?_, by simp, by simp, ?_, ?_⟩
  · rw [ec, ← List.map_append]
    rfl
  · intro x hx
    obtain ⟨i, hi, rfl⟩ := List.mem_map.1 hx
    have := List.mem_range.1 hi
    exact (hf i (by omega)).2
  · intro x hx
    obtain ⟨i, hi, rfl⟩ := List.mem_map.1 hx
    have := List.mem_range'_1.1 hi
    exact (hf i (by omega)).2

theorem own_mono {w : World} {b c : Nat} {A : Option Addr} {cap : Nat} {xs : List Int} (h : Own w c A cap xs) (hb : b ≤ c) : Own w b A cap xs := by
  obtain ⟨⟨h1, h2⟩, h3⟩ := h
  refine ⟨⟨h1, ?_⟩, h3⟩
  rcases h2 with h2 | ⟨g, cap', cur, hv, hg, hh⟩
  · exact .inl h2
  · exact .inr ⟨g, cap', cur, hv, Nat.le_trans hb hg, hh⟩
def RSums (G g0 g8 : Nat) (h0 ra sv : List Int) (i : Nat) (v : Value) (w : World) : Prop := match i with
  | 0 => ∃ g, v = .slice (some ⟨g, 0, none⟩) 0 0
  | 1 => v = .pointer (some ⟨g0, 0, none⟩)
  | 2 => v = .slice (some ⟨g0, 0, none⟩) 32 32
  | 3 => ∃ A cp, v = .slice A 32 cp ∧ Own w G A cp h0
  | 4 => v = .slice (some ⟨g8, 0, none⟩) 10 10
  | 5 => ∃ A cp, v = .slice A 42 cp ∧ Own w G A cp (h0 ++ ra)
  | 6 => v = .agg (u8V sv)
  | 7 => ∃ g, v = .pointer (some ⟨g, 0, none⟩) ∧ G ≤ g ∧ Blk w g (u8V (zeros 32)) 28
  | _ => True
theorem RSums_keep (G g0 g8 : Nat) (h0 ra sv : List Int) (hl : h0.length = 32) : ∀ i v w w', i < 8 → RSums G g0 g8 h0 ra sv i v w → GrowR G 5 32 (ra.map (Value.int .u8)) w w' → RSums G g0 g8 h0 ra sv i v w' := by
  intro i v w w' hi h hb
  match i, hi with
  | 3, _ =>
    obtain ⟨A, cp, e, o⟩ := h
    exact ⟨A, cp, e, growR_own hb o (.inl (by omega))⟩
  | 5, _ =>
    obtain ⟨A, cp, e, o⟩ := h
    exact ⟨A, cp, e, growR_own hb o (.inr ⟨h0, hl, rfl⟩)⟩
  | 7, _ =>
    obtain ⟨g, e, hg, k⟩ := h
    exact ⟨g, e, hg, growR_blk hb k (by decide)⟩
  | 0, _ => exact h
  | 1, _ => exact h
  | 2, _ => exact h
  | 4, _ => exact h
  | 6, _ => exact h
  | _ + 8, hi => exact absurd hi (by omega)
def RFin (g0 : Nat) (h0 h1 sv z sz : List Int) (ca cb : Array Value) (r : Rec) (sm : Bool) (i : Nat) (v : Value) (w : World) : Prop := match i with
  | 2 => v = .pointer (some ⟨g0, 0, none⟩)
  | 3 => v = .agg (u8V h0)
  | 4 => v = .agg ca
  | 5 => v = .agg (u8V sv)
  | 6 => v = .agg (u8V sv)
  | 10 => v = .bool sm
  | 11 => v = .bool (!sm)
  | 12 => v = .bool (!sm)
  | 13 => sm = true → v = .pointer (some ⟨g0, 32, none⟩)
  | 14 => sm = true → v = .agg (u8V h1)
  | 15 => sm = true → v = .agg cb
  | 16 => sm = true → v = .agg (u8V sv)
  | 17 => sm = true → v = .agg (u8V sv)
  | 18 => sm = true → v = .bool true
  | 22 => v = .agg ca
  | 23 => ∃ g, v = .slice (some ⟨g, 0, none⟩) 1 1 ∧ RecRow w (some ⟨g, 0, none⟩) [r]
  | 24 => v = .agg (u8V sz)
  | 25 => v = .agg (u8V z)
  | 26 => v = .agg ca
  | 27 => v = .agg (u8V sz)
  | 30 => v = .bool true
  | _ => v = .bool true
theorem RFin_keep (g0 : Nat) (h0 h1 sv z sz : List Int) (ca cb : Array Value) (r : Rec) (sm : Bool) : ∀ i v w w', i < 31 → RFin g0 h0 h1 sv z sz ca cb r sm i v w → BelR w w' → RFin g0 h0 h1 sv z sz ca cb r sm i v w' := by
  intro i v w w' hi h hb
  by_cases e : i = 23
  · subst e
    obtain ⟨g, e, k⟩ := h
    exact ⟨g, e, k.below hb⟩
  · unfold RFin at *
    split at h
    case h_16 => exact absurd rfl e
    all_goals exact h
theorem u8V_ext0 (x y : List Int) (hx : x.length = 32) : (u8V (x ++ y)).extract 0 (0 + 32) = u8V x := by
  simp [u8V, hx, ← List.map_take]
theorem u8V_ext32 (x y : List Int) (hx : x.length = 32) (hy : y.length = 32) : (u8V (x ++ y)).extract 32 (32 + 32) = u8V y := by
  simp [u8V, hx, ← List.map_take, List.take_of_length_le (Nat.le_of_eq hy)]
set_option maxRecDepth 100000 in
set_option maxHeartbeats 800000 in
theorem walk_ChainSums (v0 v1 v2 : Value) (w : World) (hR : Roots w) (q0 : ∃ b0, Value.okWide Tryd.prog w .any b0 53 v0) (q1 : ∃ b0, Value.okWide Tryd.prog w .any b0 48 v1) (q2 : ∃ b0, Value.okWide Tryd.prog w .any b0 48 v2) :
    Calls Tryd.prog 12 #[v0, v1, v2] w fun e w' => e = .returned (.bool true) ∧ Below w.heap.size w w' := by
  obtain ⟨bx, q0⟩ := q0
  obtain ⟨by_, q1⟩ := q1
  obtain ⟨bz, q2⟩ := q2
  obtain ⟨h0, h1, rfl, L0, L1, B0, B1⟩ := flat_two _ _ _ q0
  obtain ⟨a0, a1, a2, a3, a4, a5, rfl, -⟩ := flat_rec _ _ _ q1
  obtain ⟨b0, b1, b2, b3, b4, b5, rfl, -⟩ := flat_rec _ _ _ q2
  have RT := Lib.hid hR
  replace L0 := Lib.hid L0
  replace L1 := Lib.hid L1
  replace B0 := Lib.hid B0
  replace B1 := Lib.hid B1
  clear q0 q1 q2 hR
  go_enter Tryd.func12, Tryd.ntmps12
  go_wp2_with fail
  have K3 := Lib.hid (((Blk.new w (u8V (h0 ++ h1)) 53).alloc (.cells #[.int .i64 a0, .int .i64 a1, .int .i64 a2, .int .i64 a3, .int .i64 a4, .int .i64 a5] 48)).alloc (.cells #[.int .i64 b0, .int .i64 b1, .int .i64 b2, .int .i64 b3, .int .i64 b4, .int .i64 b5] 48))
  have K4 := Lib.hid ((Blk.new' (w.alloc (.cells (u8V (h0 ++ h1)) 53)) #[.int .i64 a0, .int .i64 a1, .int .i64 a2, .int .i64 a3, .int .i64 a4, .int .i64 a5] 48 (g := w.heap.size + 1) (by simp)).alloc (.cells #[.int .i64 b0, .int .i64 b1, .int .i64 b2, .int .i64 b3, .int .i64 b4, .int .i64 b5] 48))
  have K5 := Lib.hid (Blk.new' ((w.alloc (.cells (u8V (h0 ++ h1)) 53)).alloc (.cells #[.int .i64 a0, .int .i64 a1, .int .i64 a2, .int .i64 a3, .int .i64 a4, .int .i64 a5] 48)) #[.int .i64 b0, .int .i64 b1, .int .i64 b2, .int .i64 b3, .int .i64 b4, .int .i64 b5] 48 (g := w.heap.size + 1 + 1) (by simp))
  have BB := Lib.hid (below_alloc3 w (.cells (u8V (h0 ++ h1)) 53) (.cells #[.int .i64 a0, .int .i64 a1, .int .i64 a2, .int .i64 a3, .int .i64 a4, .int .i64 a5] 48) (.cells #[.int .i64 b0, .int .i64 b1, .int .i64 b2, .int .i64 b3, .int .i64 b4, .int .i64 b5] 48))
  generalize ((w.alloc (.cells (u8V (h0 ++ h1)) 53)).alloc (.cells #[.int .i64 a0, .int .i64 a1, .int .i64 a2, .int .i64 a3, .int .i64 a4, .int .i64 a5] 48)).alloc (.cells #[.int .i64 b0, .int .i64 b1, .int .i64 b2, .int .i64 b3, .int .i64 b4, .int .i64 b5] 48) = w1 at *
  obtain ⟨g4, hg4⟩ : ∃ g, w.heap.size + 1 = g := ⟨_, rfl⟩
  rw [hg4] at K4 K5
  simp only [hg4]
  obtain ⟨g5, hg5⟩ : ∃ g, g4 + 1 = g := ⟨_, rfl⟩
  rw [hg5] at K5
  simp only [hg5]
  have lo4 : w.heap.size < g4 := by omega
  have lo5 : g4 < g5 := by omega
  clear hg4 hg5
  ((with_reducible refine (shown23 _).mono ?_))
  rintro e w2 ⟨rfl, b2⟩
  replace K3 := Lib.hid (K3.out.below b2)
  replace K4 := Lib.hid (K4.out.below b2)
  replace K5 := Lib.hid (K5.out.below b2)
  replace BB := Lib.hid (bt BB.out b2)
  clear b2
  have RLa := recB_len a0 a1 a2 a3 a4 a5
  have RBa := recB_bytes a0 a1 a2 a3 a4 a5
  have RLb := recB_len b0 b1 b2 b3 b4 b5
  have CA := fun W : World => rec_any a0 a1 a2 a3 a4 a5 W
  have CB := fun W : World => rec_any b0 b1 b2 b3 b4 b5 W
  obtain ⟨ra, hra⟩ : ∃ r, recB a0 a1 a2 a3 a4 a5 = r := ⟨_, rfl⟩
  obtain ⟨rb, hrb⟩ : ∃ r, recB b0 b1 b2 b3 b4 b5 = r := ⟨_, rfl⟩
  rw [hra] at RLa RBa
  rw [hrb] at RLb
  simp only [hra] at CA
  simp only [hrb] at CB
  replace RLa := Lib.hid RLa
  replace RBa := Lib.hid RBa
  replace RLb := Lib.hid RLb
  replace CA := Lib.hid CA
  replace CB := Lib.hid CB
  replace hra := Lib.hid hra
  replace hrb := Lib.hid hrb
  go_wp2_with ((with_reducible show wpList _ _ _ (⟨_, .load 48 _, _, _, _, none⟩ :: _) _ _); (with_reducible refine wpBlk_load (g := g4) agg_rec ?_ ?_ K4 ?_ ?_); (· exact wanted0 rfl); (· exact ⟨rfl, rfl⟩); (· rfl))
  ((with_reducible refine (CA.out _).mono ?_))
  rintro e w3 ⟨rfl, b3⟩
  replace K3 := Lib.hid (K3.out.below b3)
  replace K4 := Lib.hid (K4.out.below b3)
  replace K5 := Lib.hid (K5.out.below b3)
  replace BB := Lib.hid (bt BB.out b3)
  clear b3
  have l5 := K5.out.lt
  go_wp2_with ((with_reducible show wpList _ _ _ (⟨_, .alloc 44, _, _, _, none⟩ :: _) _ _); (with_reducible refine wpRow_alloc zeroT_b10 ?_ ?_ ?_); (· exact wanted0 rfl); (· rfl); refine Marker.mk ?_)
  refine Marker.in ?_
  have bel := below_alloc1 w3 (.cells (u8V (zeros 10)) 44)
  replace K3 := Lib.hid (K3.out.below bel)
  replace K4 := Lib.hid (K4.out.below bel)
  replace K5 := Lib.hid (K5.out.below bel)
  replace BB := Lib.hid (bt BB.out bel)
  have K8 := Lib.hid (Blk.new w3 (u8V (zeros 10)) 44)
  clear bel
  generalize w3.alloc (.cells (u8V (zeros 10)) 44) = w4 at *
  generalize w3.heap.size = g8 at *
  go_wp2_with ((with_reducible show wpList _ _ _ (⟨_, .store 44 _ _, _, _, _, none⟩ :: _) _ _); (with_reducible refine wpBlk_store (g := g8) (cs := u8V ra) agg_b10 ?_ ?_ K8 ?_ ?_ ?_ ?_); (· exact wanted0 rfl); (· exact ⟨rfl, rfl, rfl⟩); (· rw [u8V_size, zeros_len]); (· rw [u8V_size, RLa.out]); (· exact u8V_one _); refine Marker.mk ?_)
  refine Marker.in ?_
  replace K3 := Lib.hid (K3.out.setRow_other g8 (u8V ra) (by omega))
  replace K4 := Lib.hid (K4.out.setRow_other g8 (u8V ra) (by omega))
  replace K5 := Lib.hid (K5.out.setRow_other g8 (u8V ra) (by omega))
  replace K8 := Lib.hid (K8.out.setRow (u8V ra))
  replace BB := Lib.hid (below_setRow (g := g8) BB.out (by omega) (u8V ra))
  generalize w4.setRow g8 (u8V ra) = w5 at *
  go_wp2_with ((with_reducible show wpList _ _ _ (⟨_, .load 48 _, _, _, _, none⟩ :: _) _ _); (with_reducible refine wpBlk_load (g := g5) agg_rec ?_ ?_ K5 ?_ ?_); (· exact wanted0 rfl); (· exact ⟨rfl, rfl⟩); (· rfl))
  ((with_reducible refine (CB.out _).mono ?_))
  rintro e w6 ⟨rfl, b6⟩
  replace K3 := Lib.hid (K3.out.below b6)
  replace K4 := Lib.hid (K4.out.below b6)
  replace K5 := Lib.hid (K5.out.below b6)
  replace K8 := Lib.hid (K8.out.below b6)
  replace BB := Lib.hid (bt BB.out b6)
  clear b6
  have l8 := K8.out.lt
  go_wp2_with ((with_reducible show wpList _ _ _ (⟨_, .alloc 44, _, _, _, none⟩ :: _) _ _); (with_reducible refine wpRow_alloc zeroT_b10 ?_ ?_ ?_); (· exact wanted0 rfl); (· rfl); refine Marker.mk ?_)
  refine Marker.in ?_
  have bel := below_alloc1 w6 (.cells (u8V (zeros 10)) 44)
  replace K3 := Lib.hid (K3.out.below bel)
  replace K4 := Lib.hid (K4.out.below bel)
  replace K5 := Lib.hid (K5.out.below bel)
  replace K8 := Lib.hid (K8.out.below bel)
  replace BB := Lib.hid (bt BB.out bel)
  have K9 := Lib.hid (Blk.new w6 (u8V (zeros 10)) 44)
  clear bel
  generalize w6.alloc (.cells (u8V (zeros 10)) 44) = w7 at *
  generalize w6.heap.size = g9 at *
  go_wp2_with ((with_reducible show wpList _ _ _ (⟨_, .store 44 _ _, _, _, _, none⟩ :: _) _ _); (with_reducible refine wpBlk_store (g := g9) (cs := u8V rb) agg_b10 ?_ ?_ K9 ?_ ?_ ?_ ?_); (· exact wanted0 rfl); (· exact ⟨rfl, rfl, rfl⟩); (· rw [u8V_size, zeros_len]); (· rw [u8V_size, RLb.out]); (· exact u8V_one _); refine Marker.mk ?_)
  refine Marker.in ?_
  replace K3 := Lib.hid (K3.out.setRow_other g9 (u8V rb) (by omega))
  replace K4 := Lib.hid (K4.out.setRow_other g9 (u8V rb) (by omega))
  replace K5 := Lib.hid (K5.out.setRow_other g9 (u8V rb) (by omega))
  replace K8 := Lib.hid (K8.out.setRow_other g9 (u8V rb) (by omega))
  replace K9 := Lib.hid (K9.out.setRow (u8V rb))
  replace BB := Lib.hid (below_setRow (g := g9) BB.out (by omega) (u8V rb))
  generalize w7.setRow g9 (u8V rb) = w8 at *
  go_wp2_with fail
  have R0 : Row w8 (some ⟨w.heap.size, 0, none⟩) h0 := by
    have h := row_take (u8V_row K3.out (fun x hx => by rcases List.mem_append.1 hx with h | h; (· exact B0.out x h); (· exact B1.out x h))) 32
    rwa [List.take_left' L0.out] at h
  replace R0 := Lib.hid R0
  have SL := sha_len (h0 ++ ra)
  obtain ⟨sv, hsv⟩ : ∃ r, sha (h0 ++ ra) = r := ⟨_, rfl⟩
  rw [hsv] at SL
  replace SL := Lib.hid SL
  have hsv2 := Lib.hid hsv
  clear hsv
  refine wp_region_confR' (growR_kept (b0 := w8.heap.size) (T := 5) (N := 32) (ys := ra.map (Value.int .u8))) (by kernel_rfl) 8 (by kernel_rfl) (by simp) (by decide) (RSums w8.heap.size w.heap.size g8 h0 ra sv) (RSums_keep w8.heap.size w.heap.size g8 h0 ra sv L0.out) ?_ ?_
  · simp only [ConfStepsR, List.take_succ_cons, List.take_zero, putAll, Act.put, List.setIfInBounds_toArray, List.set_cons_succ, List.set_cons_zero, and_true]
    refine ⟨?_, ?_, ?_, ?_, ?_, ?_, ?_, ?_⟩
    all_goals intro v w' hb hd
    · exact conf_makeR (w' := w'.alloc (.cells #[] 5)) (v := .slice (some ⟨w'.heap.size, 0, none⟩) 0 0) (wanted0 rfl) (by simp [go_sem]) (growR_below (below_alloc1 w' _)) ⟨_, rfl⟩
    · exact conf_valueR growR_kept (wanted0 rfl) (by simp [go_sem]) rfl
    · have d1 : v 1 = .pointer (some ⟨w.heap.size, 0, none⟩) := hd.at 1 rfl
      exact conf_valueR growR_kept (wanted0 rfl) (by simp [go_sem, d1]) rfl
    · obtain ⟨g, d0⟩ : ∃ g, v 0 = .slice (some ⟨g, 0, none⟩) 0 0 := hd.at 0 rfl
      have d2 : v 2 = .slice (some ⟨w.heap.size, 0, none⟩) 32 32 := hd.at 2 rfl
      obtain ⟨A', cp, w2, hrun, hown, hbel⟩ := run_append_full w' g [] ⟨.inl rfl, fun x hx => by cases hx⟩ w.heap.size 32 h0 (row_below R0.out (hb.2.1 (Nat.le_refl _))) (by rw [L0.out]; omega) (by rw [L0.out]; simp) 22
      rw [L0.out] at hrun
      simp only [List.length_nil, Nat.zero_add, List.nil_append] at hrun hown
      exact conf_makeR (wanted0 rfl) (run_op_append rfl (by simp [go_sem, d0]) (by simp [go_sem, d2]) hrun) (growR_below hbel) ⟨A', cp, rfl, own_mono hown hb.1⟩
    · exact conf_valueR growR_kept (wanted0 rfl) (by simp [go_sem]) rfl
    · obtain ⟨A, cp, d3, o3⟩ : ∃ A cp, v 3 = .slice A 32 cp ∧ Own w' w8.heap.size A cp h0 := hd.at 3 rfl
      have d4 : v 4 = .slice (some ⟨g8, 0, none⟩) 10 10 := hd.at 4 rfl
      obtain ⟨A', cp', w2, hrun, hown, hrel⟩ := run_append_bytesR w' w8.heap.size w8.heap.size A cp h0 o3 (some ⟨g8, 0, none⟩) 10 ra (u8V_row (K8.out.below (hb.2.1 (Nat.le_refl _))) RBa.out) (by rw [RLa.out]; omega) (by rw [L0.out, RLa.out]; omega) hb.1 (Nat.le_refl _) 22
      rw [L0.out, RLa.out] at hrun
      rw [L0.out] at hrel
      exact conf_makeR (wanted0 rfl) (run_op_append rfl (by simp [go_sem, d3]) (by simp [go_sem, d4]) hrun) hrel ⟨A', cp', rfl, hown⟩
    · obtain ⟨A, cp, d5, o5⟩ : ∃ A cp, v 5 = .slice A 42 cp ∧ Own w' w8.heap.size A cp (h0 ++ ra) := hd.at 5 rfl
      refine conf_callR (f := 15) (args := #[v 5]) (wanted0 rfl) (by simp [go_sem]) ?_
      rw [d5]
      refine (sum_any A (h0 ++ ra) 42 cp w' (by rw [List.length_append, L0.out, RLa.out]) o5.row (by omega) (RT.out.below (bt BB.out (hb.2.1 (Nat.le_refl _))))).mono fun e w'' ⟨he, hb'⟩ => ⟨_, he, growR_below hb', ?_⟩
      show _ = Value.agg (u8V sv)
      rw [hsv2.out]
    · exact conf_makeR (wanted0 rfl) (zeroT_b32 _ _ _ rfl) (growR_below (below_alloc1 w' _)) ⟨_, rfl, hb.1, Blk.new _ _ _⟩

  · intro v w' hb hr
    obtain ⟨g10, d7, hg10, K10⟩ : ∃ g, v 7 = .pointer (some ⟨g, 0, none⟩) ∧ w8.heap.size ≤ g ∧ Blk w' g (u8V (zeros 32)) 28 := hr 7 (by omega)
    have d6 : v 6 = .agg (u8V sv) := hr 6 (by omega)
    simp only [List.take_succ_cons, List.take_zero, List.drop_succ_cons, List.drop_zero, putAll, Act.put, List.setIfInBounds_toArray, List.set_cons_succ, List.set_cons_zero]
    rw [d7, d6]
    have b9 := hb.2.1 (Nat.le_refl _)
    have l9 := K9.out.lt
    have l5b := K5.out.lt
    have l8b := K8.out.lt
    replace K10 := Lib.hid K10
    replace K3 := Lib.hid (K3.out.below b9)
    replace K4 := Lib.hid (K4.out.below b9)
    replace K5 := Lib.hid (K5.out.below b9)
    replace K8 := Lib.hid (K8.out.below b9)
    replace K9 := Lib.hid (K9.out.below b9)
    replace BB := Lib.hid (bt BB.out b9)
    clear hr hb b9 d6 d7
    go_wp2_with ((with_reducible show wpList _ _ _ (⟨_, .store 28 _ _, _, _, _, none⟩ :: _) _ _); (with_reducible refine wpBlk_store (g := g10) (cs := u8V sv) agg_b32 ?_ ?_ K10 ?_ ?_ ?_ ?_); (· exact wanted0 rfl); (· exact ⟨rfl, rfl, rfl⟩); (· rw [u8V_size, zeros_len]); (· rw [u8V_size, SL.out]); (· exact u8V_one _); refine Marker.mk ?_)
    refine Marker.in ?_
    replace K3 := Lib.hid (K3.out.setRow_other g10 (u8V sv) (by omega))
    replace K4 := Lib.hid (K4.out.setRow_other g10 (u8V sv) (by omega))
    replace K5 := Lib.hid (K5.out.setRow_other g10 (u8V sv) (by omega))
    replace K8 := Lib.hid (K8.out.setRow_other g10 (u8V sv) (by omega))
    replace K9 := Lib.hid (K9.out.setRow_other g10 (u8V sv) (by omega))
    replace K10 := Lib.hid (K10.out.setRow (u8V sv))
    replace BB := Lib.hid (below_setRow (g := g10) BB.out (by have := BB.out.size; omega) (u8V sv))
    generalize w'.setRow g10 (u8V sv) = w9 at *
    have NX : ∀ W : World, Roots W → Calls Tryd.prog 34 #[.agg (u8V h0), .agg #[.int .i64 a0, .int .i64 a1, .int .i64 a2, .int .i64 a3, .int .i64 a4, .int .i64 a5]] W fun e w' => e = .returned (.agg (u8V sv)) ∧ Below W.heap.size W w' := by
      intro W hW
      have h := next_any h0 a0 a1 a2 a3 a4 a5 L0.out B0.out W hW
      rw [hra.out, hsv2.out] at h
      exact h
    have NY : ∀ W : World, Roots W → Calls Tryd.prog 34 #[.agg (u8V h1), .agg #[.int .i64 b0, .int .i64 b1, .int .i64 b2, .int .i64 b3, .int .i64 b4, .int .i64 b5]] W fun e w' => e = .returned (.agg (u8V (sha (h1 ++ rb)))) ∧ Below W.heap.size W w' := by
      intro W hW
      have h := next_any h1 b0 b1 b2 b3 b4 b5 L1.out B1.out W hW
      rw [hrb.out] at h
      exact h
    have NZ : ∀ W : World, Roots W → Calls Tryd.prog 34 #[.agg (u8V (zeros 32)), .agg #[.int .i64 a0, .int .i64 a1, .int .i64 a2, .int .i64 a3, .int .i64 a4, .int .i64 a5]] W fun e w' => e = .returned (.agg (u8V (sha (zeros 32 ++ ra)))) ∧ Below W.heap.size W w' := by
      intro W hW
      have h := next_any (zeros 32) a0 a1 a2 a3 a4 a5 (zeros_len 32) (zeros_bytes 32) W hW
      rw [hra.out] at h
      exact h
    have NO : ∀ (W : World) (g : Nat), Roots W → RecRow W (some ⟨g, 0, none⟩) [⟨a0, a1, a2, a3, a4, a5⟩] → Calls Tryd.prog 32 #[.slice (some ⟨g, 0, none⟩) 1 1] W fun e w' => e = .returned (.agg (u8V (sha (zeros 32 ++ ra)))) ∧ Below W.heap.size W w' := by
      intro W g hW hr
      have h := of_rec (some ⟨g, 0, none⟩) [⟨a0, a1, a2, a3, a4, a5⟩] 1 1 rfl (by omega) W hr hW
      have e1 : headOf (zeros 32) [⟨a0, a1, a2, a3, a4, a5⟩] = sha (zeros 32 ++ ra) := by rw [← hra.out]; rfl
      rw [e1] at h
      exact h
    have SZ := sha_len (zeros 32 ++ ra)
    have BZ := build_b32
    have HSA : Hid (h0 = h1 → ra = rb → sha (h1 ++ rb) = sv) := Lib.hid (by intro e1 e2; rw [← e1, ← e2]; exact hsv2.out)
    generalize sha (zeros 32 ++ ra) = sz at *
    generalize zeros 32 = z at *
    generalize sha (h1 ++ rb) = sy at *
    have EQS := eql_b32_self sv SL.out
    have EQZ := eql_b32_self sz SZ
    have EQH := eql_b32 h0 h1 L0.out L1.out
    have EQR := eql_b10 ra rb RLa.out RLb.out
    replace NX := Lib.hid NX
    replace NY := Lib.hid NY
    replace NZ := Lib.hid NZ
    replace NO := Lib.hid NO
    replace SZ := Lib.hid SZ
    replace BZ := Lib.hid BZ
    replace EQS := Lib.hid EQS
    replace EQZ := Lib.hid EQZ
    by_cases e01 : h0 = h1
    · rw [decide_eq_true e01] at EQH
      obtain ⟨sm, hsm⟩ : ∃ b, decide (ra = rb) = b := ⟨_, rfl⟩
      rw [hsm] at EQR
      have HS : Hid (sm = true → h0 = h1 ∧ ra = rb) := Lib.hid (by intro h; rw [h] at hsm; exact ⟨e01, of_decide_eq_true hsm⟩)
      clear e01 hsm
      go_wp2_with (first | ((with_reducible show wpList _ _ _ (⟨_, .load 28 _, _, _, _, none⟩ :: _) _ _); (with_reducible refine wpBlk_mid (g := w.heap.size) (off := 0) (cs := u8V h0) agg_b32 ?_ ?_ K3 ?_ ?_ ?_); (· exact wanted0 rfl); (· exact ⟨rfl, rfl⟩); (· rw [u8V_size, L0.out]); (· exact u8V_ext0 _ _ L0.out)) | ((with_reducible show wpList _ _ _ (⟨_, .load 28 _, _, _, _, none⟩ :: _) _ _); (with_reducible refine wpBlk_mid (g := w.heap.size) (off := 32) (cs := u8V h1) agg_b32 ?_ ?_ K3 ?_ ?_ ?_); (· exact wanted0 rfl); (· exact ⟨rfl, rfl⟩); (· rw [u8V_size, L1.out]); (· exact u8V_ext32 _ _ L0.out L1.out)) | ((with_reducible show wpList _ _ _ (⟨_, .load 44 _, _, _, _, some _⟩ :: _) _ _); (with_reducible refine wpBlk_load (g := g8) agg_b10 ?_ ?_ K8 ?_ ?_); (· exact wantedY rfl rfl rfl); (· exact ⟨rfl, rfl⟩); (· rw [u8V_size, RLa.out])) | ((with_reducible show wpList _ _ _ (⟨_, .load 44 _, _, _, _, some _⟩ :: _) _ _); (with_reducible refine wpBlk_load (g := g9) agg_b10 ?_ ?_ K9 ?_ ?_); (· exact wantedY rfl rfl rfl); (· exact ⟨rfl, rfl⟩); (· rw [u8V_size, RLb.out])))
      clear EQH EQR
      have W9 := BB.out.size
      refine wp_region_confR' belR_kept (by kernel_rfl) 31 (by kernel_rfl) (by simp) (by decide) (RFin w.heap.size h0 h1 sv z sz #[.int .i64 a0, .int .i64 a1, .int .i64 a2, .int .i64 a3, .int .i64 a4, .int .i64 a5] #[.int .i64 b0, .int .i64 b1, .int .i64 b2, .int .i64 b3, .int .i64 b4, .int .i64 b5] ⟨a0, a1, a2, a3, a4, a5⟩ sm) (RFin_keep _ _ _ _ _ _ _ _ _ _) ?_ ?_
      · simp only [ConfStepsR, List.take_succ_cons, List.take_zero, putAll, Act.put, List.setIfInBounds_toArray, List.set_cons_succ, List.set_cons_zero, and_true]
        refine ⟨?_, ?_, ?_, ?_, ?_, ?_, ?_, ?_, ?_, ?_, ?_, ?_, ?_, ?_, ?_, ?_, ?_, ?_, ?_, ?_, ?_, ?_, ?_, ?_, ?_, ?_, ?_, ?_, ?_, ?_, ?_⟩
        all_goals intro v w' hb hd
        · exact conf_valueR belR_kept (wanted0 rfl) (by simp [go_sem]) rfl
        · have d0 : v 0 = Value.bool true := hd.at 0 rfl
          exact conf_valueR belR_kept (wanted0 rfl) (by simp [go_sem, d0]) rfl
        · have d1 : v 1 = Value.bool true := hd.at 1 rfl
          exact conf_valueR belR_kept (wantedY rfl rfl (congrArg some d1)) (by simp [go_sem, d1]) rfl
        · have d1 : v 1 = Value.bool true := hd.at 1 rfl
          have d2 : v 2 = Value.pointer (some ⟨w.heap.size, 0, none⟩) := hd.at 2 rfl
          exact conf_midR belR_kept (g := w.heap.size) (off := 0) (cs := u8V h0) agg_b32 (wantedY rfl rfl (congrArg some d1)) ⟨rfl, by simp [go_sem, d2]⟩ (K3.out.below hb) (by rw [u8V_size, L0.out]) (u8V_ext0 _ _ L0.out) rfl
        · have d1 : v 1 = Value.bool true := hd.at 1 rfl
          exact conf_loadR belR_kept (g := g4) agg_rec (wantedY rfl rfl (congrArg some d1)) ⟨rfl, by simp [go_sem]⟩ (K4.out.below hb) rfl rfl
        · have d1 : v 1 = Value.bool true := hd.at 1 rfl
          have d3 : v 3 = Value.agg (u8V h0) := hd.at 3 rfl
          have d4 : v 4 = Value.agg #[.int .i64 a0, .int .i64 a1, .int .i64 a2, .int .i64 a3, .int .i64 a4, .int .i64 a5] := hd.at 4 rfl
          refine conf_callR (f := 34) (args := #[v 3, v 4]) (wantedY rfl rfl (congrArg some d1)) (by simp [go_sem]) ?_
          rw [d3, d4]
          exact (NX.out w' (RT.out.below (bt BB.out hb))).mono fun e w'' ⟨he, hb'⟩ => ⟨_, he, hb', rfl⟩
        · have d1 : v 1 = Value.bool true := hd.at 1 rfl
          exact conf_loadR belR_kept (g := g10) agg_b32 (wantedY rfl rfl (congrArg some d1)) ⟨rfl, by simp [go_sem]⟩ (K10.out.below hb) (by rw [u8V_size, SL.out]) rfl
        · have d1 : v 1 = Value.bool true := hd.at 1 rfl
          have d5 : v 5 = Value.agg (u8V sv) := hd.at 5 rfl
          have d6 : v 6 = Value.agg (u8V sv) := hd.at 6 rfl
          exact conf_valueR belR_kept (wantedY rfl rfl (congrArg some d1)) (by simp [go_sem, d1, d5, d6, EQS.out]) rfl
        · have d1 : v 1 = Value.bool true := hd.at 1 rfl
          have d7 : v 7 = Value.bool true := hd.at 7 rfl
          exact conf_valueR belR_kept (wanted0 rfl) (by simp [go_sem, d1, d7]) rfl
        · have d8 : v 8 = Value.bool true := hd.at 8 rfl
          exact conf_valueR belR_kept (wanted0 rfl) (by simp [go_sem, d8]) rfl
        · have d9 : v 9 = Value.bool true := hd.at 9 rfl
          exact conf_valueR belR_kept (wantedY rfl rfl (congrArg some d9)) (by simp [go_sem, d9]) rfl
        · have d9 : v 9 = Value.bool true := hd.at 9 rfl
          have d10 : v 10 = Value.bool sm := hd.at 10 rfl
          exact conf_valueR belR_kept (wantedY rfl rfl (congrArg some d9)) (by simp [go_sem, d9, d10]) rfl
        · have d9 : v 9 = Value.bool true := hd.at 9 rfl
          have d11 : v 11 = Value.bool (!sm) := hd.at 11 rfl
          exact conf_valueR belR_kept (wantedY rfl rfl (congrArg some d9)) (by simp [go_sem, d9, d11]) rfl
        · have d12 : v 12 = Value.bool (!sm) := hd.at 12 rfl
          by_cases hs : sm = true
          · rw [hs] at d12
            exact conf_valueR belR_kept (wantedY rfl rfl (congrArg some d12)) (by simp [go_sem]) (fun _ => rfl)
          · have hs2 : sm = false := by simpa using hs
            rw [hs2] at d12
            exact conf_skipR (wantedN rfl rfl (congrArg some d12) rfl) (fun h => absurd h hs)
        · have d12 : v 12 = Value.bool (!sm) := hd.at 12 rfl
          by_cases hs : sm = true
          · rw [hs] at d12
            have d13 : v 13 = Value.pointer (some ⟨w.heap.size, 32, none⟩) := (show sm = true → _ from hd.at 13 rfl) hs
            exact conf_midR belR_kept (g := w.heap.size) (off := 32) (cs := u8V h1) agg_b32 (wantedY rfl rfl (congrArg some d12)) ⟨rfl, by simp [go_sem, d13]⟩ (K3.out.below hb) (by rw [u8V_size, L1.out]) (u8V_ext32 _ _ L0.out L1.out) (fun _ => rfl)
          · have hs2 : sm = false := by simpa using hs
            rw [hs2] at d12
            exact conf_skipR (wantedN rfl rfl (congrArg some d12) rfl) (fun h => absurd h hs)
        · have d12 : v 12 = Value.bool (!sm) := hd.at 12 rfl
          by_cases hs : sm = true
          · rw [hs] at d12
            exact conf_loadR belR_kept (g := g5) agg_rec (wantedY rfl rfl (congrArg some d12)) ⟨rfl, by simp [go_sem]⟩ (K5.out.below hb) rfl (fun _ => rfl)
          · have hs2 : sm = false := by simpa using hs
            rw [hs2] at d12
            exact conf_skipR (wantedN rfl rfl (congrArg some d12) rfl) (fun h => absurd h hs)
        · have d12 : v 12 = Value.bool (!sm) := hd.at 12 rfl
          by_cases hs : sm = true
          · rw [hs] at d12
            have d14 : v 14 = Value.agg (u8V h1) := (show sm = true → _ from hd.at 14 rfl) hs
            have d15 : v 15 = Value.agg #[.int .i64 b0, .int .i64 b1, .int .i64 b2, .int .i64 b3, .int .i64 b4, .int .i64 b5] := (show sm = true → _ from hd.at 15 rfl) hs
            refine conf_callR (f := 34) (args := #[v 14, v 15]) (wantedY rfl rfl (congrArg some d12)) (by simp [go_sem]) ?_
            rw [d14, d15]
            exact (NY.out w' (RT.out.below (bt BB.out hb))).mono fun e w'' ⟨he, hb'⟩ => ⟨_, he, hb', fun hs => by rw [HSA.out (HS.out hs).1 (HS.out hs).2]⟩
          · have hs2 : sm = false := by simpa using hs
            rw [hs2] at d12
            exact conf_skipR (wantedN rfl rfl (congrArg some d12) rfl) (fun h => absurd h hs)
        · have d12 : v 12 = Value.bool (!sm) := hd.at 12 rfl
          by_cases hs : sm = true
          · rw [hs] at d12
            exact conf_loadR belR_kept (g := g10) agg_b32 (wantedY rfl rfl (congrArg some d12)) ⟨rfl, by simp [go_sem]⟩ (K10.out.below hb) (by rw [u8V_size, SL.out]) (fun _ => rfl)
          · have hs2 : sm = false := by simpa using hs
            rw [hs2] at d12
            exact conf_skipR (wantedN rfl rfl (congrArg some d12) rfl) (fun h => absurd h hs)
        · have d12 : v 12 = Value.bool (!sm) := hd.at 12 rfl
          by_cases hs : sm = true
          · rw [hs] at d12
            have d16 : v 16 = Value.agg (u8V sv) := (show sm = true → _ from hd.at 16 rfl) hs
            have d17 : v 17 = Value.agg (u8V sv) := (show sm = true → _ from hd.at 17 rfl) hs
            exact conf_valueR belR_kept (wantedY rfl rfl (congrArg some d12)) (by simp [go_sem, d16, d17, EQS.out]) (fun _ => rfl)
          · have hs2 : sm = false := by simpa using hs
            rw [hs2] at d12
            exact conf_skipR (wantedN rfl rfl (congrArg some d12) rfl) (fun h => absurd h hs)
        · have d9 : v 9 = Value.bool true := hd.at 9 rfl
          have d12 : v 12 = Value.bool (!sm) := hd.at 12 rfl
          have d18 : sm = true → v 18 = Value.bool true := hd.at 18 rfl
          by_cases hs : sm = true
          · exact conf_valueR belR_kept (wantedY rfl rfl (congrArg some d9)) (by simp [go_sem, d12, d18 hs, hs]) rfl
          · have hs2 : sm = false := by simpa using hs
            exact conf_valueR belR_kept (wantedY rfl rfl (congrArg some d9)) (by simp [go_sem, d12, hs2]) rfl
        · have d9 : v 9 = Value.bool true := hd.at 9 rfl
          have d19 : v 19 = Value.bool true := hd.at 19 rfl
          exact conf_valueR belR_kept (wanted0 rfl) (by simp [go_sem, d9, d19]) rfl
        · have d20 : v 20 = Value.bool true := hd.at 20 rfl
          exact conf_valueR belR_kept (wanted0 rfl) (by simp [go_sem, d20]) rfl
        · have d21 : v 21 = Value.bool true := hd.at 21 rfl
          exact conf_loadR belR_kept (g := g4) agg_rec (wantedY rfl rfl (congrArg some d21)) ⟨rfl, by simp [go_sem]⟩ (K4.out.below hb) rfl rfl
        · have d21 : v 21 = Value.bool true := hd.at 21 rfl
          have d22 : v 22 = Value.agg #[.int .i64 a0, .int .i64 a1, .int .i64 a2, .int .i64 a3, .int .i64 a4, .int .i64 a5] := hd.at 22 rfl
          refine conf_makeR (v := .slice (some ⟨w'.heap.size, 0, none⟩) 1 1) (w' := w'.alloc (.cells #[.int .i64 a0, .int .i64 a1, .int .i64 a2, .int .i64 a3, .int .i64 a4, .int .i64 a5] 48)) (wantedY rfl rfl (congrArg some d21)) (by simp [go_sem, d22]) (below_alloc1 w' _) ⟨w'.heap.size, rfl, .inr ⟨w'.heap.size, 0, rfl, fun i hi j hj => ?_⟩⟩
          have hi0 : i = 0 := by simp at hi; omega
          subst hi0
          rw [(Blk.new w' _ _).cell]
          simp [Rec.cells]
        · have d21 : v 21 = Value.bool true := hd.at 21 rfl
          obtain ⟨g, d23, r23⟩ : ∃ g, v 23 = .slice (some ⟨g, 0, none⟩) 1 1 ∧ RecRow w' (some ⟨g, 0, none⟩) [⟨a0, a1, a2, a3, a4, a5⟩] := hd.at 23 rfl
          refine conf_callR (f := 32) (args := #[v 23]) (wantedY rfl rfl (congrArg some d21)) (by simp [go_sem]) ?_
          rw [d23]
          exact (NO.out w' g (RT.out.below (bt BB.out hb)) r23).mono fun e w'' ⟨he, hb'⟩ => ⟨_, he, hb', rfl⟩
        · have d21 : v 21 = Value.bool true := hd.at 21 rfl
          exact conf_valueR belR_kept (wantedY rfl rfl (congrArg some d21)) (run_op_build rfl BZ.out) rfl
        · have d21 : v 21 = Value.bool true := hd.at 21 rfl
          exact conf_loadR belR_kept (g := g4) agg_rec (wantedY rfl rfl (congrArg some d21)) ⟨rfl, by simp [go_sem]⟩ (K4.out.below hb) rfl rfl
        · have d21 : v 21 = Value.bool true := hd.at 21 rfl
          have d25 : v 25 = Value.agg (u8V z) := hd.at 25 rfl
          have d26 : v 26 = Value.agg #[.int .i64 a0, .int .i64 a1, .int .i64 a2, .int .i64 a3, .int .i64 a4, .int .i64 a5] := hd.at 26 rfl
          refine conf_callR (f := 34) (args := #[v 25, v 26]) (wantedY rfl rfl (congrArg some d21)) (by simp [go_sem]) ?_
          rw [d25, d26]
          exact (NZ.out w' (RT.out.below (bt BB.out hb))).mono fun e w'' ⟨he, hb'⟩ => ⟨_, he, hb', rfl⟩
        · have d21 : v 21 = Value.bool true := hd.at 21 rfl
          have d24 : v 24 = Value.agg (u8V sz) := hd.at 24 rfl
          have d27 : v 27 = Value.agg (u8V sz) := hd.at 27 rfl
          exact conf_valueR belR_kept (wantedY rfl rfl (congrArg some d21)) (by simp [go_sem, d21, d24, d27, EQZ.out]) rfl
        · have d21 : v 21 = Value.bool true := hd.at 21 rfl
          have d28 : v 28 = Value.bool true := hd.at 28 rfl
          exact conf_valueR belR_kept (wanted0 rfl) (by simp [go_sem, d21, d28]) rfl
        · have d29 : v 29 = Value.bool true := hd.at 29 rfl
          exact conf_valueR belR_kept (wanted0 rfl) (by simp [go_sem, d29]) rfl
      · intro v w' hb hr
        have d30 : v 30 = Value.bool true := hr 30 (by omega)
        simp only [List.take_succ_cons, List.take_zero, List.drop_succ_cons, List.drop_zero, putAll, Act.put, List.setIfInBounds_toArray, List.set_cons_succ, List.set_cons_zero]
        rw [d30]
        have b11 := bt BB.out hb
        clear hr hb d30
        go_wp2_with fail
        go_ret
        exact ⟨rfl, b11⟩
    · rw [decide_eq_false e01] at EQH
      clear e01 EQR
      go_wp2_with (first | ((with_reducible show wpList _ _ _ (⟨_, .load 28 _, _, _, _, none⟩ :: _) _ _); (with_reducible refine wpBlk_mid (g := w.heap.size) (off := 0) (cs := u8V h0) agg_b32 ?_ ?_ K3 ?_ ?_ ?_); (· exact wanted0 rfl); (· exact ⟨rfl, rfl⟩); (· rw [u8V_size, L0.out]); (· exact u8V_ext0 _ _ L0.out)) | ((with_reducible show wpList _ _ _ (⟨_, .load 28 _, _, _, _, none⟩ :: _) _ _); (with_reducible refine wpBlk_mid (g := w.heap.size) (off := 32) (cs := u8V h1) agg_b32 ?_ ?_ K3 ?_ ?_ ?_); (· exact wanted0 rfl); (· exact ⟨rfl, rfl⟩); (· rw [u8V_size, L1.out]); (· exact u8V_ext32 _ _ L0.out L1.out)))
      clear EQH
      have W9 := BB.out.size
      refine wp_region_confR' belR_kept (by kernel_rfl) 31 (by kernel_rfl) (by simp) (by decide) (RFin w.heap.size h0 h1 sv z sz #[.int .i64 a0, .int .i64 a1, .int .i64 a2, .int .i64 a3, .int .i64 a4, .int .i64 a5] #[.int .i64 b0, .int .i64 b1, .int .i64 b2, .int .i64 b3, .int .i64 b4, .int .i64 b5] ⟨a0, a1, a2, a3, a4, a5⟩ false) (RFin_keep _ _ _ _ _ _ _ _ _ _) ?_ ?_
      · simp only [ConfStepsR, List.take_succ_cons, List.take_zero, putAll, Act.put, List.setIfInBounds_toArray, List.set_cons_succ, List.set_cons_zero, and_true]
        refine ⟨?_, ?_, ?_, ?_, ?_, ?_, ?_, ?_, ?_, ?_, ?_, ?_, ?_, ?_, ?_, ?_, ?_, ?_, ?_, ?_, ?_, ?_, ?_, ?_, ?_, ?_, ?_, ?_, ?_, ?_, ?_⟩
        all_goals intro v w' hb hd
        · exact conf_valueR belR_kept (wanted0 rfl) (by simp [go_sem]) rfl
        · have d0 : v 0 = Value.bool true := hd.at 0 rfl
          exact conf_valueR belR_kept (wanted0 rfl) (by simp [go_sem, d0]) rfl
        · have d1 : v 1 = Value.bool true := hd.at 1 rfl
          exact conf_valueR belR_kept (wantedY rfl rfl (congrArg some d1)) (by simp [go_sem, d1]) rfl
        · have d1 : v 1 = Value.bool true := hd.at 1 rfl
          have d2 : v 2 = Value.pointer (some ⟨w.heap.size, 0, none⟩) := hd.at 2 rfl
          exact conf_midR belR_kept (g := w.heap.size) (off := 0) (cs := u8V h0) agg_b32 (wantedY rfl rfl (congrArg some d1)) ⟨rfl, by simp [go_sem, d2]⟩ (K3.out.below hb) (by rw [u8V_size, L0.out]) (u8V_ext0 _ _ L0.out) rfl
        · have d1 : v 1 = Value.bool true := hd.at 1 rfl
          exact conf_loadR belR_kept (g := g4) agg_rec (wantedY rfl rfl (congrArg some d1)) ⟨rfl, by simp [go_sem]⟩ (K4.out.below hb) rfl rfl
        · have d1 : v 1 = Value.bool true := hd.at 1 rfl
          have d3 : v 3 = Value.agg (u8V h0) := hd.at 3 rfl
          have d4 : v 4 = Value.agg #[.int .i64 a0, .int .i64 a1, .int .i64 a2, .int .i64 a3, .int .i64 a4, .int .i64 a5] := hd.at 4 rfl
          refine conf_callR (f := 34) (args := #[v 3, v 4]) (wantedY rfl rfl (congrArg some d1)) (by simp [go_sem]) ?_
          rw [d3, d4]
          exact (NX.out w' (RT.out.below (bt BB.out hb))).mono fun e w'' ⟨he, hb'⟩ => ⟨_, he, hb', rfl⟩
        · have d1 : v 1 = Value.bool true := hd.at 1 rfl
          exact conf_loadR belR_kept (g := g10) agg_b32 (wantedY rfl rfl (congrArg some d1)) ⟨rfl, by simp [go_sem]⟩ (K10.out.below hb) (by rw [u8V_size, SL.out]) rfl
        · have d1 : v 1 = Value.bool true := hd.at 1 rfl
          have d5 : v 5 = Value.agg (u8V sv) := hd.at 5 rfl
          have d6 : v 6 = Value.agg (u8V sv) := hd.at 6 rfl
          exact conf_valueR belR_kept (wantedY rfl rfl (congrArg some d1)) (by simp [go_sem, d1, d5, d6, EQS.out]) rfl
        · have d1 : v 1 = Value.bool true := hd.at 1 rfl
          have d7 : v 7 = Value.bool true := hd.at 7 rfl
          exact conf_valueR belR_kept (wanted0 rfl) (by simp [go_sem, d1, d7]) rfl
        · have d8 : v 8 = Value.bool true := hd.at 8 rfl
          exact conf_valueR belR_kept (wanted0 rfl) (by simp [go_sem, d8]) rfl
        · have d9 : v 9 = Value.bool true := hd.at 9 rfl
          exact conf_valueR belR_kept (wantedY rfl rfl (congrArg some d9)) (by simp [go_sem, d9]) rfl
        · have d9 : v 9 = Value.bool true := hd.at 9 rfl
          have d10 : v 10 = Value.bool false := hd.at 10 rfl
          exact conf_valueR belR_kept (wantedY rfl rfl (congrArg some d9)) (by simp [go_sem, d9, d10]) rfl
        · have d9 : v 9 = Value.bool true := hd.at 9 rfl
          have d11 : v 11 = Value.bool (!false) := hd.at 11 rfl
          exact conf_valueR belR_kept (wantedY rfl rfl (congrArg some d9)) (by simp [go_sem, d9, d11]) rfl
        · have d12 : v 12 = Value.bool (!false) := hd.at 12 rfl
          exact conf_skipR (wantedN rfl rfl (congrArg some d12) rfl) (fun h => by cases h)
        · have d12 : v 12 = Value.bool (!false) := hd.at 12 rfl
          exact conf_skipR (wantedN rfl rfl (congrArg some d12) rfl) (fun h => by cases h)
        · have d12 : v 12 = Value.bool (!false) := hd.at 12 rfl
          exact conf_skipR (wantedN rfl rfl (congrArg some d12) rfl) (fun h => by cases h)
        · have d12 : v 12 = Value.bool (!false) := hd.at 12 rfl
          exact conf_skipR (wantedN rfl rfl (congrArg some d12) rfl) (fun h => by cases h)
        · have d12 : v 12 = Value.bool (!false) := hd.at 12 rfl
          exact conf_skipR (wantedN rfl rfl (congrArg some d12) rfl) (fun h => by cases h)
        · have d12 : v 12 = Value.bool (!false) := hd.at 12 rfl
          exact conf_skipR (wantedN rfl rfl (congrArg some d12) rfl) (fun h => by cases h)
        · have d9 : v 9 = Value.bool true := hd.at 9 rfl
          have d12 : v 12 = Value.bool (!false) := hd.at 12 rfl
          exact conf_valueR belR_kept (wantedY rfl rfl (congrArg some d9)) (by simp [go_sem, d9, d12]) rfl
        · have d9 : v 9 = Value.bool true := hd.at 9 rfl
          have d19 : v 19 = Value.bool true := hd.at 19 rfl
          exact conf_valueR belR_kept (wanted0 rfl) (by simp [go_sem, d9, d19]) rfl
        · have d20 : v 20 = Value.bool true := hd.at 20 rfl
          exact conf_valueR belR_kept (wanted0 rfl) (by simp [go_sem, d20]) rfl
        · have d21 : v 21 = Value.bool true := hd.at 21 rfl
          exact conf_loadR belR_kept (g := g4) agg_rec (wantedY rfl rfl (congrArg some d21)) ⟨rfl, by simp [go_sem]⟩ (K4.out.below hb) rfl rfl
        · have d21 : v 21 = Value.bool true := hd.at 21 rfl
          have d22 : v 22 = Value.agg #[.int .i64 a0, .int .i64 a1, .int .i64 a2, .int .i64 a3, .int .i64 a4, .int .i64 a5] := hd.at 22 rfl
          refine conf_makeR (v := .slice (some ⟨w'.heap.size, 0, none⟩) 1 1) (w' := w'.alloc (.cells #[.int .i64 a0, .int .i64 a1, .int .i64 a2, .int .i64 a3, .int .i64 a4, .int .i64 a5] 48)) (wantedY rfl rfl (congrArg some d21)) (by simp [go_sem, d22]) (below_alloc1 w' _) ⟨w'.heap.size, rfl, .inr ⟨w'.heap.size, 0, rfl, fun i hi j hj => ?_⟩⟩
          have hi0 : i = 0 := by simp at hi; omega
          subst hi0
          rw [(Blk.new w' _ _).cell]
          simp [Rec.cells]
        · have d21 : v 21 = Value.bool true := hd.at 21 rfl
          obtain ⟨g, d23, r23⟩ : ∃ g, v 23 = .slice (some ⟨g, 0, none⟩) 1 1 ∧ RecRow w' (some ⟨g, 0, none⟩) [⟨a0, a1, a2, a3, a4, a5⟩] := hd.at 23 rfl
          refine conf_callR (f := 32) (args := #[v 23]) (wantedY rfl rfl (congrArg some d21)) (by simp [go_sem]) ?_
          rw [d23]
          exact (NO.out w' g (RT.out.below (bt BB.out hb)) r23).mono fun e w'' ⟨he, hb'⟩ => ⟨_, he, hb', rfl⟩
        · have d21 : v 21 = Value.bool true := hd.at 21 rfl
          exact conf_valueR belR_kept (wantedY rfl rfl (congrArg some d21)) (run_op_build rfl BZ.out) rfl
        · have d21 : v 21 = Value.bool true := hd.at 21 rfl
          exact conf_loadR belR_kept (g := g4) agg_rec (wantedY rfl rfl (congrArg some d21)) ⟨rfl, by simp [go_sem]⟩ (K4.out.below hb) rfl rfl
        · have d21 : v 21 = Value.bool true := hd.at 21 rfl
          have d25 : v 25 = Value.agg (u8V z) := hd.at 25 rfl
          have d26 : v 26 = Value.agg #[.int .i64 a0, .int .i64 a1, .int .i64 a2, .int .i64 a3, .int .i64 a4, .int .i64 a5] := hd.at 26 rfl
          refine conf_callR (f := 34) (args := #[v 25, v 26]) (wantedY rfl rfl (congrArg some d21)) (by simp [go_sem]) ?_
          rw [d25, d26]
          exact (NZ.out w' (RT.out.below (bt BB.out hb))).mono fun e w'' ⟨he, hb'⟩ => ⟨_, he, hb', rfl⟩
        · have d21 : v 21 = Value.bool true := hd.at 21 rfl
          have d24 : v 24 = Value.agg (u8V sz) := hd.at 24 rfl
          have d27 : v 27 = Value.agg (u8V sz) := hd.at 27 rfl
          exact conf_valueR belR_kept (wantedY rfl rfl (congrArg some d21)) (by simp [go_sem, d21, d24, d27, EQZ.out]) rfl
        · have d21 : v 21 = Value.bool true := hd.at 21 rfl
          have d28 : v 28 = Value.bool true := hd.at 28 rfl
          exact conf_valueR belR_kept (wanted0 rfl) (by simp [go_sem, d21, d28]) rfl
        · have d29 : v 29 = Value.bool true := hd.at 29 rfl
          exact conf_valueR belR_kept (wanted0 rfl) (by simp [go_sem, d29]) rfl
      · intro v w' hb hr
        have d30 : v 30 = Value.bool true := hr 30 (by omega)
        simp only [List.take_succ_cons, List.take_zero, List.drop_succ_cons, List.drop_zero, putAll, Act.put, List.setIfInBounds_toArray, List.set_cons_succ, List.set_cons_zero]
        rw [d30]
        have b11 := bt BB.out hb
        clear hr hb d30
        go_wp2_with fail
        go_ret
        exact ⟨rfl, b11⟩

end Go.Proofs.YtalekcpdkfdmaaaDoor
