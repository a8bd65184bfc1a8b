/- The walk of ChainParts. -/
import Derived.Test.YtalekcpdkfdmaaaDoorChainQ
import Derived.Test.YtalekcpdkfdmaaaDoorShaC
namespace Go.Proofs.YtalekcpdkfdmaaaDoor
open Go.RowKit

theorem own_mono' {w : World} {b c : Nat} {A : Option Addr} {cap : Nat} {xs : List Int} (h : Own w c A cap xs) (hb : b ≤ c) : Own w b A cap xs := by
  obtain ⟨⟨h1, h2⟩, h3⟩ := h
  refine ⟨⟨h1, ?_⟩, h3⟩
  rcases h2 with h2 | ⟨g, cap', cur, hv, hg, hh⟩
  · exact .inl h2
  · exact .inr ⟨g, cap', cur, hv, Nat.le_trans hb hg, hh⟩
def RPa (G g8 g10 : Nat) (h0 ra sv : List Int) (i : Nat) (v : Value) (w : World) : Prop := match i with
  | 0 => ∃ g, v = .slice (some ⟨g, 0, none⟩) 0 0
  | 1 => v = .slice (some ⟨g8, 0, none⟩) 32 32
  | 2 => ∃ A cp, v = .slice A 32 cp ∧ Own w G A cp h0
  | 3 => v = .slice (some ⟨g10, 0, none⟩) 10 10
  | 4 => ∃ A cp, v = .slice A 42 cp ∧ Own w G A cp (h0 ++ ra)
  | 5 => v = .agg (u8V sv)
  | 6 => ∃ g, v = .pointer (some ⟨g, 0, none⟩) ∧ G ≤ g ∧ Blk w g (u8V (zeros 32)) 28
  | _ => True
theorem RPa_keep (G g8 g10 : Nat) (h0 ra sv : List Int) (hl : h0.length = 32) : ∀ i v w w', i < 7 → RPa G g8 g10 h0 ra sv i v w → GrowR G 5 32 (ra.map (Value.int .u8)) w w' → RPa G g8 g10 h0 ra sv i v w' := by
  intro i v w w' hi h hb
  match i, hi with
  | 2, _ =>
    obtain ⟨A, cp, e, o⟩ := h
    exact ⟨A, cp, e, growR_own hb o (.inl (by omega))⟩
  | 4, _ =>
    obtain ⟨A, cp, e, o⟩ := h
    exact ⟨A, cp, e, growR_own hb o (.inr ⟨h0, hl, rfl⟩)⟩
  | 6, _ =>
    obtain ⟨g, e, hg, k⟩ := h
    exact ⟨g, e, hg, growR_blk hb k (by decide)⟩
  | 0, _ => exact h
  | 1, _ => exact h
  | 3, _ => exact h
  | 5, _ => exact h
  | _ + 7, hi => exact absurd hi (by omega)
def RNx (B : Option Addr) (m d : Nat) (i0 : Int) (p : Addr) (h0 sv : List Int) (r : Rec) (i : Nat) (v : Value) (w : World) : Prop := match i with
  | 0 => v = .agg (u8V h0)
  | 1 => v = .slice B m d
  | 2 => v = .int .i64 i0
  | 3 => v = .pointer (some p)
  | 4 => v = .agg r.cells
  | _ => v = .agg (u8V sv)
theorem RNx_keep (B : Option Addr) (m d : Nat) (i0 : Int) (p : Addr) (h0 sv : List Int) (r : Rec) : ∀ i v w w', i < 6 → RNx B m d i0 p h0 sv r i v w → BelR w w' → RNx B m d i0 p h0 sv r i v w' := by
  intro i v w w' hi h hb
  unfold RNx at *
  split at h
  all_goals exact h
def REn (G : Nat) (A B : Option Addr) (n c m d : Nat) (ha hz : List Int) (xs ys : List Rec) (i : Nat) (v : Value) (w : World) : Prop := match i with
  | 2 => v = .agg (u8V ha)
  | 3 => ∃ g, v = .slice (some ⟨g, 0, none⟩) 0 0 ∧ w.ownsRow G 48 6 (.slice (some ⟨g, 0, none⟩) 0 0) 0 []
  | 4 => v = .slice A n c
  | 5 => ∃ A' cp, v = .slice (some A') n cp ∧ w.ownsRow G 48 6 (.slice (some A') n cp) n (cellsL xs)
  | 6 => v = .slice B m d
  | 7 => ∃ A' cp, v = .slice (some A') (n + m) cp ∧ w.ownsRow G 48 6 (.slice (some A') (n + m) cp) (n + m) (cellsL (xs ++ ys))
  | 8 => v = .agg (u8V hz)
  | _ => v = .bool true
theorem REn_keep (G : Nat) (A B : Option Addr) (n c m d : Nat) (hd hz : List Int) (xs ys : List Rec) (hn : xs.length = n) : ∀ i v w w', i < 12 → REn G A B n c m d hd hz xs ys i v w → GrowR G 48 (n * 6) (cellsL ys) w w' → REn G A B n c m d hd hz xs ys i v w' := by
  intro i v w w' hi h hb
  unfold REn at *
  split at h
  case h_2 =>
    obtain ⟨g, e, o⟩ := h
    exact ⟨g, e, growR_owns hb o (fun j _ _ h => by cases h)⟩
  case h_4 =>
    obtain ⟨A', cp, e, o⟩ := h
    exact ⟨A', cp, e, growR_owns hb o (fun j h1 _ h => by rw [cellsL_len] at h; omega)⟩
  case h_6 =>
    obtain ⟨A', cp, e, o⟩ := h
    exact ⟨A', cp, e, growR_owns hb o (fun j h1 _ h => by rw [cellsL_append, List.getElem?_append_right (by rw [cellsL_len]; omega), cellsL_len, hn])⟩
  all_goals exact h
set_option maxRecDepth 100000 in
set_option maxHeartbeats 3200000 in
theorem walk_ChainParts (v0 v1 : Value) (w : World) (hR : Roots w) (q0 : IsRecs w v0) (q1 : IsRecs w v1) :
    Calls Tryd.prog 10 #[v0, v1] w fun e w' => e = .returned (.bool true) ∧ Below w.heap.size w w' := by
  obtain ⟨A, xs, n, c, hn, n3, n1, n2, hx, hA, hf⟩ := few_recs q0
  obtain ⟨B, ys, m, d, hm, m3, m1, m2, hy, hB, hg⟩ := few_recs q1
  have HF := Lib.hid hf
  have HG := Lib.hid hg
  have RT := Lib.hid hR
  have HX := Lib.hid hx
  have HY := Lib.hid hy
  have HN := Lib.hid hn
  have HM := Lib.hid hm
  have BB := Lib.hid (Below.refl w.heap.size w)
  have CO := Lib.hid (fun (W : World) (hb : Below w.heap.size w W) => of_rec A xs n c hn (by omega) W (hx.below hb) (hR.below hb))
  clear hf hg hR hx hy hn hm hA hB q0 q1
  go_enter Tryd.func10, Tryd.ntmps10
  go_wp2_with fail
  ((with_reducible refine (shown23 _).mono ?_))
  rintro e w1 ⟨rfl, b1⟩
  replace BB := Lib.hid (bt BB.out b1)
  clear b1
  go_wp2_with fail
  ((with_reducible refine (HF.out _).mono ?_))
  rintro e w2 ⟨rfl, rfl⟩
  go_wp2_with fail
  ((with_reducible refine (HG.out _).mono ?_))
  rintro e w2 ⟨rfl, rfl⟩
  go_wp2_with fail
  ((with_reducible refine (CO.out _ BB.out).mono ?_))
  rintro e w2 ⟨rfl, b2⟩
  replace BB := Lib.hid (bt BB.out b2)
  clear b2 CO HF HG
  have ZL := headOf_len (zeros 32) xs (zeros_len 32)
  have ZB := headOf_bytes (zeros 32) xs (zeros_bytes 32)
  have HAP : ∀ W, Roots W → ∀ (A' : Option Addr) (cp : Nat), RecRow W A' (xs ++ ys) → Calls Tryd.prog 32 #[.slice A' (n + m) cp] W fun e' w' => e' = .returned (.agg (u8V (headOf (headOf (zeros 32) xs) ys))) ∧ Below W.heap.size W w' := by
    intro W hW A' cp hr
    rw [headOf_append]
    exact of_rec A' (xs ++ ys) (n + m) cp (by rw [List.length_append, HN.out, HM.out]) (by omega) W hr hW
  generalize headOf (zeros 32) xs = z at *
  replace ZL := Lib.hid ZL
  replace ZB := Lib.hid ZB
  replace HAP := Lib.hid HAP
  have w2s := BB.out.size
  go_wp2_with ((with_reducible show wpList _ _ _ (⟨_, .alloc 28, _, _, _, none⟩ :: _) _ _); (with_reducible refine wpRow_alloc zeroT_b32 ?_ ?_ ?_); (· exact wanted0 rfl); (· rfl); refine Marker.mk ?_)
  refine Marker.in ?_
  have bel := below_alloc1 w2 (.cells (u8V (zeros 32)) 28)
  replace BB := Lib.hid (bt BB.out bel)
  have K8 := Lib.hid (Blk.new w2 (u8V (zeros 32)) 28)
  clear bel
  generalize w2.alloc (.cells (u8V (zeros 32)) 28) = w3 at *
  generalize w2.heap.size = g8 at *
  go_wp2_with ((with_reducible show wpList _ _ _ (⟨_, .store 28 _ _, _, _, _, none⟩ :: _) _ _); (with_reducible refine wpBlk_store (g := g8) (cs := u8V z) agg_b32 ?_ ?_ K8 ?_ ?_ ?_ ?_); (· exact wanted0 rfl); (· exact ⟨rfl, rfl, rfl⟩); (· rw [u8V_size, zeros_len]); (· rw [u8V_size, ZL.out]); (· exact u8V_one _); refine Marker.mk ?_)
  refine Marker.in ?_
  replace K8 := Lib.hid (K8.out.setRow (u8V z))
  replace BB := Lib.hid (below_setRow (g := g8) BB.out (by omega) (u8V z))
  generalize w3.setRow g8 (u8V z) = w4 at *
  go_wp2_with fail
  go_loopw [9] (fun y wr => ∃ i : Nat, i ≤ m ∧ y = .int .i64 i ∧ Blk wr g8 (u8V (headOf z (ys.take i))) 28 ∧ Below w.heap.size w wr) (fun y _ => m - (intOf y).toNat)
  case atStart => exact ⟨0, Nat.zero_le _, rfl, K8.out, BB.out⟩
  case round =>
    clear K8 BB
    obtain ⟨i, hi, rfl, K8, BB⟩ := hrel
    replace K8 := Lib.hid K8
    replace BB := Lib.hid BB
    have HL0 := headOf_len z (ys.take i) ZL.out
    have HB0 := headOf_bytes z (ys.take i) ZB.out
    by_cases hlt : i < m
    · have hil : i < ys.length := by rw [HM.out]; exact hlt
      have hsn : headOf z (ys.take (i + 1)) = sha (headOf z (ys.take i) ++ (ys[i]'hil).bytes) := by rw [List.take_succ_eq_append_getElem hil, headOf_snoc]
      obtain ⟨b, off, rfl, hc⟩ : ∃ b off, B = some ⟨b, off, none⟩ ∧ ∀ W, Below w.heap.size w W → ∀ j, j < 6 → W.cell? ⟨b, off + i * 6 + j, none⟩ = (ys[i]'hil).cells[j]? := by
        rcases HY.out with h | ⟨b, off, e, hc⟩
        · subst h; simp at hil
        · refine ⟨b, off, e, fun W hW j hj => ?_⟩
          have h1 := hc i hil j hj
          have h2 : ((ys[i]'hil).cells[j]?) = some ((ys[i]'hil).cells[j]'(by simp [Rec.cells]; omega)) := Array.getElem?_eq_getElem _
          rw [hW.cell (World.block_lt_of_cell? _ _ (h1.trans h2))]; exact h1
      generalize headOf z (ys.take i) = hd0 at *
      generalize ys[i]'hil = r at *
      have CA := fun W : World => rec_any r.k r.s r.q r.e r.c r.h W
      have RL := recB_len r.k r.s r.q r.e r.c r.h
      have RB := recB_bytes r.k r.s r.q r.e r.c r.h
      have CX := fun (W : World) (hb : Below w.heap.size w W) => next_rec hd0 r HL0 HB0 W (RT.out.below hb)
      have SL := sha_len (hd0 ++ r.bytes)
      have er : r.bytes = recB r.k r.s r.q r.e r.c r.h := rfl
      rw [← er] at RL RB
      simp only [← er] at CA
      obtain ⟨rb, hrb⟩ : ∃ x, r.bytes = x := ⟨_, rfl⟩
      rw [hrb] at RL RB hsn CX SL
      simp only [hrb] at CA CX
      obtain ⟨sv, hsv⟩ : ∃ x, sha (hd0 ++ rb) = x := ⟨_, rfl⟩
      rw [hsv] at hsn SL
      simp only [hsv] at CX
      have c0 := hc wr BB.out 0 (by omega)
      have c1 := hc wr BB.out 1 (by omega)
      have c2 := hc wr BB.out 2 (by omega)
      have c3 := hc wr BB.out 3 (by omega)
      have c4 := hc wr BB.out 4 (by omega)
      have c5 := hc wr BB.out 5 (by omega)
      simp only [Rec.cells, Nat.add_zero] at c0 c1 c2 c3 c4 c5
      have t1 : decide ((i : Int) < (m : Int)) = true := decide_eq_true (by omega)
      have NQ := Lib.hid (neq_b32_self sv SL)
      replace hsn := Lib.hid hsn
      replace HL0 := Lib.hid HL0
      replace HB0 := Lib.hid HB0
      replace RL := Lib.hid RL
      replace RB := Lib.hid RB
      replace CA := Lib.hid CA
      replace CX := Lib.hid CX
      replace SL := Lib.hid SL
      replace hsv := Lib.hid hsv
      replace hc := Lib.hid hc
      clear er hrb
      go_wp2_with (go_at_call 33; refine Marker.mk ?_)
      refine Marker.in ?_
      clear c0 c1 c2 c3 c4 c5
      ((with_reducible refine (CA.out _).mono ?_))
      rintro e' w5 ⟨rfl, b5⟩
      replace K8 := Lib.hid (K8.out.below b5)
      replace BB := Lib.hid (bt BB.out b5)
      clear b5 CA
      have l8 := K8.out.lt
      go_wp2_with ((with_reducible show wpList _ _ _ (⟨_, .alloc 44, _, _, _, none⟩ :: _) _ _); (with_reducible refine wpRow_alloc zeroT_b10 ?_ ?_ ?_); (· exact wanted0 rfl); (· rfl); refine Marker.mk ?_)
      refine Marker.in ?_
      have bel := below_alloc1 w5 (.cells (u8V (zeros 10)) 44)
      replace K8 := Lib.hid (K8.out.below bel)
      replace BB := Lib.hid (bt BB.out bel)
      have K10 := Lib.hid (Blk.new w5 (u8V (zeros 10)) 44)
      clear bel
      generalize w5.alloc (.cells (u8V (zeros 10)) 44) = w6 at *
      generalize w5.heap.size = g10 at *
      go_wp2_with ((with_reducible show wpList _ _ _ (⟨_, .store 44 _ _, _, _, _, none⟩ :: _) _ _); (with_reducible refine wpBlk_store (g := g10) (cs := u8V rb) agg_b10 ?_ ?_ K10 ?_ ?_ ?_ ?_); (· exact wanted0 rfl); (· exact ⟨rfl, rfl, rfl⟩); (· rw [u8V_size, zeros_len]); (· rw [u8V_size, RL.out]); (· exact u8V_one _); refine Marker.mk ?_)
      refine Marker.in ?_
      replace K8 := Lib.hid (K8.out.setRow_other g10 (u8V rb) (by omega))
      replace K10 := Lib.hid (K10.out.setRow (u8V rb))
      replace BB := Lib.hid (below_setRow (g := g10) BB.out (by omega) (u8V rb))
      generalize w6.setRow g10 (u8V rb) = w7 at *
      go_wp2_with fail
      have W7 := BB.out.size
      have R0 := Lib.hid (u8V_row K8.out HB0.out)
      refine wp_region_confR' (growR_kept (b0 := w7.heap.size) (T := 5) (N := 32) (ys := rb.map (Value.int .u8))) (by kernel_rfl) 7 (by kernel_rfl) (by simp) (by decide) (RPa w7.heap.size g8 g10 hd0 rb sv) (RPa_keep w7.heap.size g8 g10 hd0 rb sv HL0.out) ?_ ?_
      · simp only [ConfStepsR, List.take_succ_cons, List.take_zero, putAll, Act.put, List.setIfInBounds_toArray, List.set_cons_succ, List.set_cons_zero, and_true]
        refine ⟨?_, ?_, ?_, ?_, ?_, ?_, ?_⟩
        all_goals intro v w' hb hd
        · exact conf_makeR (w' := w'.alloc (.cells #[] 5)) (v := .slice (some ⟨w'.heap.size, 0, none⟩) 0 0) (wanted0 rfl) (by simp [go_sem]) (growR_below (below_alloc1 w' _)) ⟨_, rfl⟩
        · exact conf_valueR growR_kept (wanted0 rfl) (by simp [go_sem]) rfl
        · obtain ⟨g, d0⟩ : ∃ g, v 0 = .slice (some ⟨g, 0, none⟩) 0 0 := hd.at 0 rfl
          have d1 : v 1 = .slice (some ⟨g8, 0, none⟩) 32 32 := hd.at 1 rfl
          obtain ⟨A', cp, w2, hrun, hown, hbel⟩ := run_append_full w' g [] ⟨.inl rfl, fun x hx => by cases hx⟩ g8 32 _ (row_below R0.out (hb.2.1 (Nat.le_refl _))) (by rw [HL0.out]; omega) (by rw [HL0.out]; simp) 22
          rw [HL0.out] at hrun
          simp only [List.length_nil, Nat.zero_add, List.nil_append] at hrun hown
          exact conf_makeR (wanted0 rfl) (run_op_append rfl (by simp [go_sem, d0]) (by simp [go_sem, d1]) hrun) (growR_below hbel) ⟨A', cp, rfl, own_mono' hown hb.1⟩
        · exact conf_valueR growR_kept (wanted0 rfl) (by simp [go_sem]) rfl
        · obtain ⟨A, cp, d2, o2⟩ : ∃ A cp, v 2 = .slice A 32 cp ∧ Own w' w7.heap.size A cp hd0 := hd.at 2 rfl
          have d3 : v 3 = .slice (some ⟨g10, 0, none⟩) 10 10 := hd.at 3 rfl
          obtain ⟨A', cp', w2, hrun, hown, hrel⟩ := run_append_bytesR w' w7.heap.size w7.heap.size A cp hd0 o2 (some ⟨g10, 0, none⟩) 10 rb (u8V_row (K10.out.below (hb.2.1 (Nat.le_refl _))) RB.out) (by rw [RL.out]; omega) (by rw [HL0.out, RL.out]; omega) hb.1 (Nat.le_refl _) 22
          rw [HL0.out, RL.out] at hrun
          rw [HL0.out] at hrel
          exact conf_makeR (wanted0 rfl) (run_op_append rfl (by simp [go_sem, d2]) (by simp [go_sem, d3]) hrun) hrel ⟨A', cp', rfl, hown⟩
        · obtain ⟨A, cp, d4, o4⟩ : ∃ A cp, v 4 = .slice A 42 cp ∧ Own w' w7.heap.size A cp (hd0 ++ rb) := hd.at 4 rfl
          refine conf_callR (f := 15) (args := #[v 4]) (wanted0 rfl) (by simp [go_sem]) ?_
          rw [d4]
          refine (sum_any A (hd0 ++ rb) 42 cp w' (by rw [List.length_append, HL0.out, RL.out]) o4.row (by omega) (RT.out.below (bt BB.out (hb.2.1 (Nat.le_refl _))))).mono fun e w'' ⟨he, hb'⟩ => ⟨_, he, growR_below hb', ?_⟩
          show _ = Value.agg (u8V sv)
          rw [hsv.out]
        · exact conf_makeR (wanted0 rfl) (zeroT_b32 _ _ _ rfl) (growR_below (below_alloc1 w' _)) ⟨_, rfl, hb.1, Blk.new _ _ _⟩

      · intro v w' hb hr
        obtain ⟨g11, d6, hg11, K11⟩ : ∃ g, v 6 = .pointer (some ⟨g, 0, none⟩) ∧ w7.heap.size ≤ g ∧ Blk w' g (u8V (zeros 32)) 28 := hr 6 (by omega)
        have d5 : v 5 = .agg (u8V sv) := hr 5 (by omega)
        simp only [List.take_succ_cons, List.take_zero, List.drop_succ_cons, List.drop_zero, putAll, Act.put, List.setIfInBounds_toArray, List.set_cons_succ, List.set_cons_zero]
        rw [d6, d5]
        have b9 := hb.2.1 (Nat.le_refl _)
        have l8b := K8.out.lt
        replace K11 := Lib.hid K11
        clear R0
        replace K8 := Lib.hid (K8.out.below b9)
        replace BB := Lib.hid (bt BB.out b9)
        clear hr hb b9 d5 d6 K10
        go_wp2_with ((with_reducible show wpList _ _ _ (⟨_, .store 28 _ _, _, _, _, none⟩ :: _) _ _); (with_reducible refine wpBlk_store (g := g11) (cs := u8V sv) agg_b32 ?_ ?_ K11 ?_ ?_ ?_ ?_); (· exact wanted0 rfl); (· exact ⟨rfl, rfl, rfl⟩); (· rw [u8V_size, zeros_len]); (· rw [u8V_size, SL.out]); (· exact u8V_one _); refine Marker.mk ?_)
        refine Marker.in ?_
        replace K8 := Lib.hid (K8.out.setRow_other g11 (u8V sv) (by omega))
        replace K11 := Lib.hid (K11.out.setRow (u8V sv))
        replace BB := Lib.hid (below_setRow (g := g11) BB.out (by omega) (u8V sv))
        generalize w'.setRow g11 (u8V sv) = w9 at *
        go_wp2_with fail
        have w9s := BB.out.size
        refine wp_region_confR' belR_kept (by kernel_rfl) 6 (by kernel_rfl) (by simp) (by decide) (RNx (some ⟨b, off, none⟩) m d i ⟨b, off + i * 6, none⟩ hd0 sv r) (RNx_keep _ _ _ _ _ _ _ _) ?_ ?_
        · simp only [ConfStepsR, List.take_succ_cons, List.take_zero, putAll, Act.put, List.setIfInBounds_toArray, List.set_cons_succ, List.set_cons_zero, and_true]
          refine ⟨?_, ?_, ?_, ?_, ?_, ?_⟩
          all_goals intro v w' hb hd
          · exact conf_loadR belR_kept (g := g8) agg_b32 (wanted0 rfl) ⟨rfl, by simp [go_sem]⟩ (K8.out.below hb) (by rw [u8V_size, HL0.out]) rfl
          · exact conf_valueR belR_kept (wanted0 rfl) (by simp [go_sem]) rfl
          · exact conf_valueR belR_kept (wanted0 rfl) (by simp [go_sem]) rfl
          · have d1 : v 1 = .slice (some ⟨b, off, none⟩) m d := hd.at 1 rfl
            have d2 : v 2 = .int .i64 (i : Int) := hd.at 2 rfl
            exact conf_valueR belR_kept (wanted0 rfl) (by simp [go_sem, d1, d2, hlt]) rfl
          · have d3 : v 3 = .pointer (some ⟨b, off + i * 6, none⟩) := hd.at 3 rfl
            have cc := fun j hj => hc.out w' (bt BB.out hb) j hj
            have c0 := cc 0 (by omega)
            have c1 := cc 1 (by omega)
            have c2 := cc 2 (by omega)
            have c3 := cc 3 (by omega)
            have c4 := cc 4 (by omega)
            have c5 := cc 5 (by omega)
            simp only [Rec.cells, Nat.add_zero] at c0 c1 c2 c3 c4 c5
            exact conf_valueR belR_kept (v := .agg r.cells) (wanted0 rfl) (by simp [go_sem, d3, c0, c1, c2, c3, c4, c5, Rec.cells]) rfl
          · have d0 : v 0 = .agg (u8V hd0) := hd.at 0 rfl
            have d4 : v 4 = .agg r.cells := hd.at 4 rfl
            refine conf_callR (f := 34) (args := #[v 0, v 4]) (wanted0 rfl) (by simp [go_sem]) ?_
            rw [d0, d4]
            exact (CX.out w' (bt BB.out hb)).mono fun e w'' ⟨he, hb'⟩ => ⟨_, he, hb', rfl⟩
        · intro v w' hb hr
          have d5 : v 5 = .agg (u8V sv) := hr 5 (by omega)
          simp only [List.take_succ_cons, List.take_zero, List.drop_succ_cons, List.drop_zero, putAll, Act.put, List.setIfInBounds_toArray, List.set_cons_succ, List.set_cons_zero]
          rw [d5]
          replace K8 := Lib.hid (K8.out.below hb)
          replace K11 := Lib.hid (K11.out.below hb)
          replace BB := Lib.hid (bt BB.out hb)
          clear hr hb d5 CX
          go_wp2_with ((with_reducible show wpList _ _ _ (⟨_, .store 28 _ _, _, _, _, none⟩ :: _) _ _); (with_reducible refine wpBlk_store (g := g8) (cs := u8V sv) agg_b32 ?_ ?_ K8 ?_ ?_ ?_ ?_); (· exact wanted0 rfl); (· exact ⟨rfl, rfl, rfl⟩); (· rw [u8V_size, HL0.out]); (· rw [u8V_size, SL.out]); (· exact u8V_one _); refine Marker.mk ?_)
          refine Marker.in ?_
          replace K11 := Lib.hid (K11.out.setRow_other g8 (u8V sv) (by omega))
          replace K8 := Lib.hid (K8.out.setRow (u8V sv))
          replace BB := Lib.hid (below_setRow (g := g8) BB.out (by omega) (u8V sv))
          generalize w'.setRow g8 (u8V sv) = w10 at *
          have nq := NQ.out
          go_wp2_with (first | ((with_reducible show wpList _ _ _ (⟨_, .load 28 _, _, _, _, none⟩ :: _) _ _); (with_reducible refine wpBlk_load (g := g8) agg_b32 ?_ ?_ K8 ?_ ?_); (· exact wanted0 rfl); (· exact ⟨rfl, rfl⟩); (· rw [u8V_size, SL.out])) | ((with_reducible show wpList _ _ _ (⟨_, .load 28 _, _, _, _, none⟩ :: _) _ _); (with_reducible refine wpBlk_load (g := g11) agg_b32 ?_ ?_ K11 ?_ ?_); (· exact wanted0 rfl); (· exact ⟨rfl, rfl⟩); (· rw [u8V_size, SL.out])))
          exact ⟨⟨i + 1, by omega, by simp, by rw [hsn.out]; exact K8.out, BB.out⟩, by simp [intOf]; omega⟩
    · obtain rfl : i = m := by omega
      have t1 : decide ((i : Int) < (i : Int)) = false := decide_eq_false (by omega)
      rw [List.take_of_length_le (by rw [HM.out]; omega)] at K8 HL0 HB0
      generalize headOf z ys = hz at *
      have EQ := Lib.hid (eql_b32_self hz HL0)
      replace HL0 := Lib.hid HL0
      clear HB0
      go_wp2_with fail
      have l8 := K8.out.lt
      refine wp_region_confR' (growR_kept (b0 := wr.heap.size) (T := 48) (N := n * 6) (ys := cellsL ys)) (by kernel_rfl) 12 (by kernel_rfl) (by simp) (by decide) (REn wr.heap.size A B n c i d hz hz xs ys) (REn_keep wr.heap.size A B n c i d hz hz xs ys HN.out) ?_ ?_
      · simp only [ConfStepsR, List.take_succ_cons, List.take_zero, putAll, Act.put, List.setIfInBounds_toArray, List.set_cons_succ, List.set_cons_zero, and_true]
        refine ⟨?_, ?_, ?_, ?_, ?_, ?_, ?_, ?_, ?_, ?_, ?_, ?_⟩
        all_goals intro v w' hb hd
        · exact conf_valueR growR_kept (wanted0 rfl) (by simp [go_sem]) rfl
        · have d0 : v 0 = Value.bool true := hd.at 0 rfl
          exact conf_valueR growR_kept (wanted0 rfl) (by simp [go_sem, d0]) rfl
        · have d1 : v 1 = Value.bool true := hd.at 1 rfl
          exact conf_loadR growR_kept (g := g8) agg_b32 (wantedY rfl rfl (congrArg some d1)) ⟨rfl, by simp [go_sem]⟩ (K8.out.below (hb.2.1 (Nat.le_refl _))) (by rw [u8V_size, HL0.out]) rfl
        · have d1 : v 1 = Value.bool true := hd.at 1 rfl
          exact conf_makeR (w' := w'.alloc (.cells #[] 48)) (v := .slice (some ⟨w'.heap.size, 0, none⟩) 0 0) (wantedY rfl rfl (congrArg some d1)) (by simp [go_sem]) (growR_below (below_alloc1 w' _)) ⟨_, rfl, World.ownsRow_lit w' #[] 0 hb.1 (by unfold maxLen; omega) rfl⟩
        · have d1 : v 1 = Value.bool true := hd.at 1 rfl
          exact conf_valueR growR_kept (wantedY rfl rfl (congrArg some d1)) (by simp [go_sem, d1]) rfl
        · have d1 : v 1 = Value.bool true := hd.at 1 rfl
          obtain ⟨g, d3, o3⟩ : ∃ g, v 3 = .slice (some ⟨g, 0, none⟩) 0 0 ∧ w'.ownsRow wr.heap.size 48 6 (.slice (some ⟨g, 0, none⟩) 0 0) 0 [] := hd.at 3 rfl
          have d4 : v 4 = Value.slice A n c := hd.at 4 rfl
          obtain ⟨A', cp, w2, hrun, hown, hrel, hbel⟩ := run_append_recs w' wr.heap.size wr.heap.size ⟨g, 0, none⟩ 0 0 [] rfl o3 A n c xs HN.out (HX.out.below (bt BB.out (hb.2.1 (Nat.le_refl _)))) (by omega) hb.1 (Nat.le_refl _) 41
          rw [Nat.zero_add] at hrun
          rw [Nat.zero_add, List.nil_append] at hown
          have hg5 : GrowR wr.heap.size 48 (n * 6) (cellsL ys) w' w2 := by
            by_cases h0 : n = 0
            · have hxe : xs = [] := List.eq_nil_of_length_eq_zero (by rw [HN.out, h0])
              rw [hxe] at hrel
              exact growR_nil hrel _ _
            · exact growR_below (hbel (by omega))
          exact conf_makeR (wantedY rfl rfl (congrArg some d1)) (run_op_append rfl (by simp [go_sem, d3]) (by simp [go_sem, d4]) hrun) hg5 ⟨A', cp, rfl, hown⟩
        · have d1 : v 1 = Value.bool true := hd.at 1 rfl
          exact conf_valueR growR_kept (wantedY rfl rfl (congrArg some d1)) (by simp [go_sem, d1]) rfl
        · have d1 : v 1 = Value.bool true := hd.at 1 rfl
          obtain ⟨A', cp, d5, o5⟩ : ∃ A' cp, v 5 = .slice (some A') n cp ∧ w'.ownsRow wr.heap.size 48 6 (.slice (some A') n cp) n (cellsL xs) := hd.at 5 rfl
          have d6 : v 6 = Value.slice B i d := hd.at 6 rfl
          obtain ⟨A2, cp2, w2, hrun, hown, hrel, -⟩ := run_append_recs w' wr.heap.size wr.heap.size A' cp n xs HN.out o5 B i d ys HM.out (HY.out.below (bt BB.out (hb.2.1 (Nat.le_refl _)))) (by omega) hb.1 (Nat.le_refl _) 41
          exact conf_makeR (wantedY rfl rfl (congrArg some d1)) (run_op_append rfl (by simp [go_sem, d5]) (by simp [go_sem, d6]) hrun) hrel ⟨A2, cp2, rfl, hown⟩
        · have d1 : v 1 = Value.bool true := hd.at 1 rfl
          obtain ⟨A', cp, d7, o7⟩ : ∃ A' cp, v 7 = .slice (some A') (n + i) cp ∧ w'.ownsRow wr.heap.size 48 6 (.slice (some A') (n + i) cp) (n + i) (cellsL (xs ++ ys)) := hd.at 7 rfl
          refine conf_callR (f := 32) (args := #[v 7]) (wantedY rfl rfl (congrArg some d1)) (by simp [go_sem]) ?_
          rw [d7]
          exact (HAP.out w' (RT.out.below (bt BB.out (hb.2.1 (Nat.le_refl _)))) _ _ (own_recs o7 (by rw [List.length_append, HN.out, HM.out]))).mono fun e w'' ⟨he, hb'⟩ => ⟨_, he, growR_below hb', rfl⟩
        · have d1 : v 1 = Value.bool true := hd.at 1 rfl
          have d2 : v 2 = Value.agg (u8V hz) := hd.at 2 rfl
          have d8 : v 8 = Value.agg (u8V hz) := hd.at 8 rfl
          exact conf_valueR growR_kept (wantedY rfl rfl (congrArg some d1)) (by simp [go_sem, d1, d2, d8, EQ.out]) rfl
        · have d1 : v 1 = Value.bool true := hd.at 1 rfl
          have d9 : v 9 = Value.bool true := hd.at 9 rfl
          exact conf_valueR growR_kept (wanted0 rfl) (by simp [go_sem, d1, d9]) rfl
        · have d10 : v 10 = Value.bool true := hd.at 10 rfl
          exact conf_valueR growR_kept (wanted0 rfl) (by simp [go_sem, d10]) rfl

      · intro v w' hb hr
        have d11 : v 11 = Value.bool true := hr 11 (by omega)
        simp only [List.take_succ_cons, List.take_zero, List.drop_succ_cons, List.drop_zero, putAll, Act.put, List.setIfInBounds_toArray, List.set_cons_succ, List.set_cons_zero]
        rw [d11]
        have b11 := bt BB.out (hb.2.1 (Nat.le_refl _))
        clear hr hb d11
        go_wp2_with fail
        go_ret
        exact ⟨rfl, b11⟩
end Go.Proofs.YtalekcpdkfdmaaaDoor
