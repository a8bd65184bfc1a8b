/- msg.take: a reply's fields set to what bytes are. -/
import Derived.Test.YtakahkpogooepaaMsgK
import Derived.Test.YtakahkpogooepaaRepX
namespace Go.Proofs.Ytakahkpogooepaa
open Go.RowKit

structure FD.fineR (d : FD) : Prop where
  good : d.goodR
  neg : d.lo < 0 → d.lo = -32768 ∧ d.hi = 32767
  size : d.size = (wd d : Int)
  one : 1 ≤ wd d ∧ wd d ≤ 7
  oct : d.kd = 3 → d.lo = 0 ∧ d.hi = 255
theorem replied_fine {k : Int} {ds : List FD} (h : repliedOf k = some ds) : ∀ d ∈ ds, d.fineR := by
  intro d hd
  have hg := (replied_good h).2.2.2 d hd
  have : (d.lo < 0 → d.lo = -32768 ∧ d.hi = 32767) ∧ d.size = (wd d : Int) ∧ (1 ≤ wd d ∧ wd d ≤ 7) ∧ (d.kd = 3 → d.lo = 0 ∧ d.hi = 255) := by
    unfold repliedOf at h
    repeat' split at h
    all_goals first
      | (cases h; done)
      | (injection h with h
         subst h
         simp only [List.mem_cons, List.not_mem_nil, or_false] at hd
         first
           | (subst hd; decide)
           | (rcases hd with rfl | rfl <;> decide)
           | (rcases hd with rfl | rfl | rfl <;> decide)
           | (rcases hd with rfl | rfl | rfl | rfl | rfl | rfl | rfl | rfl <;> decide))
  exact ⟨hg, this.1, this.2.1, this.2.2.1, this.2.2.2⟩
/-- what a set leaves -/
def SetR (gm : Nat) (l : List Int) (W w' : World) : Prop := Blk w' gm (repV l) 40 ∧ (∀ k, k ≠ gm → w'.heap[k]? = W.heap[k]?) ∧ w'.heap.size = W.heap.size ∧ Below gm W w'
def TakeFR (d : FD) (gm : Nat) (l xs : List Int) (w : World) (e : Ending) (w' : World) : Prop :=
  if valD d xs < d.lo then e = .returned (.bool false) ∧ Below w.heap.size w w'
  else if d.hi < valD d xs then e = .returned (.bool false) ∧ Below w.heap.size w w'
  else e = .returned (.bool true) ∧ ∃ W, Below w.heap.size w W ∧ SetR gm (l.set d.off (valD d xs)) W w'
theorem take_rfld (d : FD) (hd : d.fineR) (gb gm : Nat) (l xs : List Int) (hl : IsRepL l) (B : Option Addr) (c k : Nat) (hk : wd d = k) (w : World) (hr : Row w B xs) (hx : xs.length = k) (hb : Box w d gm gb) (hm : Blk w gm (repV l) 40) :
    Calls Try.prog 41 #[.agg (fldV d gb), .slice B k c] w (TakeFR d gm l xs w) := by
  have hs : ∀ v, (d.kd = 3 → 0 ≤ v ∧ v ≤ 255) → Sets w d.set (.pointer (some ⟨gb, 0, none⟩)) v (SetR gm (l.set d.off v)) := fun v hv3 => ⟨enters_set d, fun W hW => (set_rfld d gb gm l v W hd.good.ok hv3 hl (Blk.below hb hW) (hm.below hW)).mono fun e w' ⟨he, h1, h2, h3, h4⟩ => ⟨he, h1, h2, h3, h4⟩⟩
  have hk7 := hd.one
  unfold TakeFR fldV
  by_cases h0 : d.lo < 0
  · have e2 : k = 2 := by rw [← hk]; unfold wd; rw [if_pos h0]
    subst e2
    have hv : valD d xs = sig xs := by unfold valD; rw [if_pos h0]
    have hr2 := sig_range hr.2 hx
    have hn := hd.neg h0
    have g1 : ¬ sig xs < d.lo := by omega
    have g2 : ¬ d.hi < sig xs := by omega
    rw [hv]
    simp only [if_neg g1, if_neg g2]
    exact take_neg _ _ _ _ _ _ xs B c (sig xs) _ w hr hx rfl h0 (by omega) (by omega) (hs _ (fun h3 => by have := hd.oct h3; omega))
  · have hv : valD d xs = num xs := by unfold valD; rw [if_neg h0]
    have hb2 := num_bd xs hr.2 k (by omega)
    rw [List.take_of_length_le (by omega)] at hb2
    have h256 : (256 : Int) ^ k ≤ 72057594037927936 := by
      have h6 : k = 0 ∨ k = 1 ∨ k = 2 ∨ k = 3 ∨ k = 4 ∨ k = 5 ∨ k = 6 ∨ k = 7 := by omega
      rcases h6 with rfl | rfl | rfl | rfl | rfl | rfl | rfl | rfl <;> decide
    have hhi : d.hi < 256 ^ k := by
      have := (hd.good.pos (by omega)).2.2
      rw [hd.size, hk, Int.toNat_natCast] at this
      exact this
    rw [hv]
    by_cases h1 : num xs < d.lo
    · simp only [if_pos h1]
      exact take_low _ _ _ _ _ _ xs B k c (num xs) w hr hx (by omega) rfl (by omega) (by omega) (by omega) h1
    by_cases h2 : d.hi < num xs
    · simp only [if_neg h1, if_pos h2]
      exact take_high _ _ _ _ _ _ xs B k c (num xs) w hr hx (by omega) rfl (by omega) (by omega) (by omega) (by omega) h2
    · simp only [if_neg h1, if_neg h2]
      exact take_pos _ _ _ _ _ _ xs B k c (num xs) _ w hr hx (by omega) rfl (by omega) (by omega) (by omega) (by omega) (hs _ (fun h3 => by have := hd.oct h3; omega))
theorem set_isRep {l : List Int} (h : IsRepL l) (o : Nat) (v : Int) (hv : 6 ≤ o → o < 14 → 0 ≤ v ∧ v ≤ 255) : IsRepL (l.set o v) := by
  refine ⟨by rw [List.length_set]; exact h.1, fun i h6 h14 => ?_⟩
  by_cases e : o = i
  · subst e
    have hl := h.1
    have : (l.set o v).getD o 0 = v := by simp [List.getD_eq_getElem?_getD, hl, h14]
    rw [this]
    exact hv h6 h14
  · have e2 : (l.set o v).getD i 0 = l.getD i 0 := by simp [List.getD_eq_getElem?_getD, List.getElem?_set_ne e]
    rw [e2]
    exact h.2 i h6 h14
def TakePR (R : Option (List Int)) (gm : Nat) (w : World) (e : Ending) (w' : World) : Prop :=
  Below gm w w' ∧ match R with
   | none => e = .returned (.bool false)
   | some l' => e = .returned (.bool true) ∧ Blk w' gm (repV l') 40
set_option maxRecDepth 100000 in
set_option maxHeartbeats 3200000 in
theorem take_rany (fs : List (FD × Nat)) (ds : List FD) (hds : fs.map (·.1) = ds) (hf : ∀ d ∈ ds, d.fineR) (n : Nat) (hn : fs.length = n) (hn9 : n ≤ 100) (gl cp gm base : Nat) (l : List Int) (hl : IsRepL l) (xs : List Int) (B : Option Addr) (m c : Nat) (hm : xs.length = m) (hmc : m ≤ c) (hc : c ≤ 9223372036854775807)
    (w : World) (hr : Row w B xs) (hB : ∀ a, B = some a → a.block < gm) (hfl : FLs w base gl gm fs) (hgb : gm < base) (hgw : base ≤ w.heap.size) (hk : Blk w gm (repV l) 40) :
    Calls Try.prog 24 #[.slice B m c, .slice (some ⟨gl, 0, none⟩) n cp] w (TakePR (takeD ds l xs) gm w) := by
  have HDS := Lib.hid hds
  have HF := Lib.hid hf
  have HN := Lib.hid hn
  obtain ⟨R, hR⟩ : ∃ R, R = takeD ds l xs := ⟨_, rfl⟩
  rw [← hR]
  have HR0 := Lib.hid hR
  have HM := Lib.hid hm
  have HRW := Lib.hid hr
  have HBB := Lib.hid hB
  have HFL := Lib.hid hfl
  have HK := Lib.hid hk
  have HL := Lib.hid hl
  clear hds hf hn hR hm hr hB hfl hk hl
  go_enter Try.func24, Try.ntmps24
  go_wp2_with fail
  go_loopw [0, 9] (fun x y wr => ∃ (i : Nat) (A : Option Addr) (k e : Nat) (li rs : List Int), i ≤ n ∧ y = .int .i64 i ∧ x = .slice A k e ∧ rs.length = k ∧ k ≤ e ∧ e ≤ 9223372036854775807 ∧ Row wr A rs ∧ (∀ a, A = some a → a.block < gm) ∧ IsRepL li ∧ Blk wr gm (repV li) 40 ∧ FLs wr base gl gm fs ∧ base ≤ wr.heap.size ∧ takeD (ds.drop i) li rs = R ∧ Below gm w wr) (fun _ y _ => n - (intOf y).toNat)
  case atStart => exact ⟨0, B, m, c, l, xs, by omega, rfl, rfl, HM.out, hmc, hc, HRW.out, HBB.out, HL.out, HK.out, HFL.out, hgw, by rw [HR0.out]; rfl, Below.refl _ _⟩
  case round =>
    obtain ⟨i, A, k, e, li, rs, hi, rfl, rfl, hrs, hke, he, hrw, hA, hli, hkm, hfl, hbw, hR, hbb⟩ := hrel
    have HRS := Lib.hid hrs
    have RW := Lib.hid hrw
    have HA := Lib.hid hA
    have HLI := Lib.hid hli
    have KM := Lib.hid hkm
    have FL := Lib.hid hfl
    have HR := Lib.hid hR
    have BB := Lib.hid hbb
    have lm := hkm.lt
    clear hrs hrw hA hli hkm hfl hR hbb HRW HFL HK HL HR0 HBB
    by_cases hin : i < n
    · have hil : i < fs.length := by rw [HN.out]; exact hin
      have hcell := fun j hj => FL.out.cells i hil j hj
      have hbox := (FL.out.2.2 i hil).2
      have e1 : ds[i]? = some (fs[i]'hil).1 := by rw [← HDS.out, List.getElem?_map, List.getElem?_eq_getElem hil]; rfl
      have hmem : (fs[i]'hil).1 ∈ ds := List.mem_of_getElem? e1
      have hdf := HF.out _ hmem
      have hdr : ds.drop i = (fs[i]'hil).1 :: ds.drop (i + 1) := by
        obtain ⟨h1, h2⟩ := List.getElem?_eq_some_iff.1 e1
        rw [← h2]
        exact List.drop_eq_getElem_cons h1
      generalize fs[i]'hil = p at *
      obtain ⟨d, gb⟩ := p
      simp only at hcell hbox hdf hdr
      have hRR := HR.out
      rw [hdr] at hRR
      simp only [takeD] at hRR
      replace hRR := Lib.hid hRR
      have HBX := Lib.hid hbox
      have HD := Lib.hid hdf
      have c0 := hcell 0 (by omega)
      have c1 := hcell 1 (by omega)
      have c2 := hcell 2 (by omega)
      have c3 := hcell 3 (by omega)
      have c4 := hcell 4 (by omega)
      simp only [fldV, Nat.add_zero] at c0 c1 c2 c3 c4
      clear hcell hbox e1 hmem hdf hdr
      have hone2 := Lib.hid (fldV_one d gb)
      have hsz2 : Hid ((fldV d gb).size = 5) := Lib.hid rfl
      have t1 : decide ((i : Int) < (n : Int)) = true := decide_eq_true (by omega)
      go_wp2_with ((with_reducible show wpList _ _ _ (⟨_, .alloc 57, _, _, _, none⟩ :: _) _ _); (with_reducible refine wpRow_alloc zeroT_fld ?_ ?_ ?_); (· exact wanted0 rfl); (· rfl); refine Marker.mk ?_)
      refine Marker.in ?_
      clear c0 c1 c2 c3 c4 t1
      have K5 := Lib.hid (Blk.new wr zfld 57)
      have b5 := Lib.hid (below_alloc1 wr (.cells zfld 57))
      generalize wr.alloc (.cells zfld 57) = w4 at *
      go_wp2_with ((with_reducible show wpList _ _ _ (⟨_, .store 57 _ _, _, _, _, none⟩ :: _) _ _); (with_reducible refine wpBlk_store (g := wr.heap.size) (cs := (fldV d gb)) agg_fld ?_ ?_ K5 ?_ ?_ ?_ ?_); (· exact wanted0 rfl); (· exact ⟨rfl, rfl, rfl⟩); (· rfl); (· exact hsz2.out); (· exact hone2.out); refine Marker.mk ?_)
      refine Marker.in ?_
      replace K5 := Lib.hid (K5.out.setRow (fldV d gb))
      replace b5 := Lib.hid (below_setRow (g := wr.heap.size) b5.out (by omega) (fldV d gb))
      generalize w4.setRow wr.heap.size (fldV d gb) = w5 at *
      replace KM := Lib.hid (KM.out.below b5.out)
      replace FL := Lib.hid (FL.out.below b5.out)
      replace RW := Lib.hid (row_below RW.out b5.out)
      replace BB := Lib.hid (BB.out.trans (b5.out.mono (by omega)))
      have HBX5 : Hid (Box w5 d gm gb) := Lib.hid (Blk.below HBX.out b5.out)
      have l5 := b5.out.size
      clear b5 HBX
      obtain ⟨z, hz⟩ : ∃ z, z = wd d := ⟨_, rfl⟩
      have hzs : d.size = (z : Int) := by rw [hz]; exact HD.out.size
      have hz1 : 1 ≤ z := by rw [hz]; exact HD.out.one.1
      have hz7 : z ≤ 7 := by rw [hz]; exact HD.out.one.2
      have HZ := Lib.hid hz
      have ZS := Lib.hid hzs
      have c0 : ∀ y : Ext w5, (exw w5 y).cell? ⟨wr.heap.size, 0, none⟩ = some (.int .i64 z) := fun y => by
        rw [(K5.out.below (exw_bel y)).cell 0, ← ZS.out]; rfl
      clear hz hzs
      go_wp2_with fail
      by_cases hkz : k < z
      · have t2 : decide ((k : Int) < (z : Int)) = true := decide_eq_true (by omega)
        refine wp_region_ext (by kernel_rfl) (by kernel_rfl) ?_
        repeat (first
              | go_big_quiet_skip
              | (go_big_quiet_want
                 first
                   | (refine quiet_load_blk (T := 57) (g := wr.heap.size) agg_fld _ rfl rfl K5 ?_ ?_; (· exact hsz2.out); go_simp; go_big_quiet_on)
                   | (go_big_quiet_op
                      first
                        | go_big_quiet_on
                        | go_big_quiet_call ((fail)))))
        refine wpQuiet_nil ?_
        intro _ hw'
        obtain ⟨y9, rfl⟩ := hw'
        replace BB := Lib.hid (BB.out.trans ((exw_bel y9).mono (by omega)))
        generalize exw w5 y9 = w6 at *
        go_wp2_with fail
        go_ret
        refine ⟨BB.out, ?_⟩
        rw [← hRR.out, if_pos (by rw [HRS.out, ← HZ.out]; exact hkz)]
        rfl
      · have t2 : decide ((k : Int) < (z : Int)) = false := decide_eq_false (by omega)
        have q1 : z ≤ k := by omega
        have q2 : z ≤ e := by omega
        obtain ⟨b0, off, hAe⟩ : ∃ b off, A = some ⟨b, off, none⟩ := by
          obtain ⟨h | ⟨b, off, h, -⟩, -⟩ := RW.out
          · have := HRS.out; rw [h] at this; simp at this; omega
          · exact ⟨b, off, h⟩
        subst hAe
        refine wp_region_qx 11 (by kernel_rfl) (by kernel_rfl) ?_
        simp only [List.take_succ_cons, List.take_zero, List.drop_succ_cons, List.drop_zero]
        repeat (first
              | go_big_quiet_skip
              | (go_big_quiet_want
                 first
                   | (refine quiet_load_blk (T := 57) (g := wr.heap.size) agg_fld _ rfl rfl K5 ?_ ?_; (· exact hsz2.out); go_simp; go_big_quiet_on)
                   | (go_big_quiet_op
                      first
                        | go_big_quiet_on
                        | go_big_quiet_call ((fail)))))
        refine wpQuiet_nil ?_
        intro _ hw'
        obtain ⟨y9, rfl⟩ := hw'
        have by_ := exw_bel y9
        replace K5 := Lib.hid (K5.out.below by_)
        replace KM := Lib.hid (KM.out.below by_)
        replace FL := Lib.hid (FL.out.below by_)
        replace RW := Lib.hid (row_below RW.out by_)
        have HBX6 : Hid (Box (exw w5 y9) d gm gb) := Lib.hid (Blk.below HBX5.out by_)
        replace BB := Lib.hid (BB.out.trans (by_.mono (by omega)))
        have l6 := by_.size
        clear by_ c0 HBX5
        generalize exw w5 y9 = w6 at *
        have hlt : (rs.take z).length = z := by rw [List.length_take, HRS.out]; omega
        have CT := Lib.hid (take_rfld d HD.out gb gm li (rs.take z) HLI.out (some ⟨b0, off, none⟩) e z HZ.out.symm w6 (row_take8 RW.out z) hlt HBX6.out KM.out)
        clear hlt HBX6
        go_wp2_with fail
        ((with_reducible refine (CT.out).mono ?_))
        rintro e' w7 ht
        unfold TakeFR at ht
        have hif : ¬ rs.length < wd d := by rw [HRS.out, ← HZ.out]; omega
        have hRR2 := hRR.out
        rw [if_neg hif, ← HZ.out] at hRR2
        replace hRR2 := Lib.hid hRR2
        clear hif CT hRR
        by_cases hlow : valD d (rs.take z) < d.lo
        · rw [if_pos hlow] at ht
          obtain ⟨rfl, b7⟩ := ht
          have hRR3 := hRR2.out
          rw [if_pos hlow] at hRR3
          replace hRR3 := Lib.hid hRR3
          replace BB := Lib.hid (BB.out.trans (b7.mono (by omega)))
          clear hlow b7 hRR2
          go_wp2_with fail
          go_ret
          refine ⟨BB.out, ?_⟩
          rw [← hRR3.out]
          rfl
        by_cases hhigh : d.hi < valD d (rs.take z)
        · rw [if_neg hlow, if_pos hhigh] at ht
          obtain ⟨rfl, b7⟩ := ht
          have hRR3 := hRR2.out
          rw [if_neg hlow, if_pos hhigh] at hRR3
          replace hRR3 := Lib.hid hRR3
          replace BB := Lib.hid (BB.out.trans (b7.mono (by omega)))
          clear hlow hhigh b7 hRR2
          go_wp2_with fail
          go_ret
          refine ⟨BB.out, ?_⟩
          rw [← hRR3.out]
          rfl
        · rw [if_neg hlow, if_neg hhigh] at ht
          obtain ⟨rfl, W, bW, hq1, hq2, hq3, hq4⟩ := ht
          have hRR3 := hRR2.out
          rw [if_neg hlow, if_neg hhigh] at hRR3
          have hmsg : IsRepL (li.set d.off (valD d (rs.take z))) := set_isRep HLI.out _ _ (fun h6 h14 => by have := HD.out.oct (HD.out.good.ok.2.2.2 h6); omega)
          have HMSG := Lib.hid hmsg
          replace hRR3 := Lib.hid hRR3
          have lW := bW.size
          have b07 : b0 < gm := HA.out _ rfl
          have c0 : w7.cell? ⟨wr.heap.size, 0, none⟩ = some (.int .i64 z) := by
            rw [World.cell?_of_block (w := W) (hq2 wr.heap.size (by omega)), (K5.out.below bW).cell 0, ← ZS.out]; rfl
          replace BB := Lib.hid ((BB.out.trans (bW.mono (by omega))).trans hq4)
          replace FL := Lib.hid ((FL.out.below bW).keep hgb hq2)
          have RW7 := Lib.hid (row_under (row_drop8 (row_below RW.out bW) z) (fun a ha => by injection ha with ha; subst ha; exact b07) hq4)
          have KM7 := Lib.hid hq1
          have l7 : base ≤ w7.heap.size := by omega
          generalize valD d (rs.take z) = vv at *
          clear hlow hhigh hmsg bW hq1 hq2 hq4 hRR2 KM RW K5
          go_wp2_with fail
          refine ⟨⟨i + 1, _, k - z, e - z, li.set d.off vv, rs.drop z, by omega, by simp, rfl, by rw [List.length_drop, HRS.out], by omega, by omega, ?_, ?_, HMSG.out, KM7.out, FL.out, l7, hRR3.out, BB.out⟩, by simp [intOf]; omega⟩
          · split
            · have h0 : rs.drop z = [] := List.drop_eq_nil_of_le (by rw [HRS.out]; omega)
              rw [h0]
              exact ⟨.inl rfl, fun x hx => by cases hx⟩
            · exact RW7.out
          · intro a ha
            split at ha
            · injection ha with ha; subst ha; exact b07
            · injection ha with ha; subst ha; exact b07
    · obtain rfl : i = n := by omega
      have hdrop : ds.drop i = [] := List.drop_eq_nil_of_le (by rw [← HDS.out, List.length_map, HN.out]; omega)
      have hR := HR.out
      rw [hdrop] at hR
      simp only [takeD] at hR
      replace hR := Lib.hid hR
      have t1 : decide ((i : Int) < (i : Int)) = false := decide_eq_false (by omega)
      clear hdrop
      by_cases hk0 : k = 0
      · subst hk0
        go_wp2_with fail
        go_ret
        refine ⟨BB.out, ?_⟩
        rw [← hR.out, if_pos HRS.out]
        exact ⟨rfl, KM.out⟩
      · have t2 : ((k : Int) == 0) = false := by simp; omega
        go_wp2_with fail
        go_ret
        refine ⟨BB.out, ?_⟩
        rw [← hR.out, if_neg (by rw [HRS.out]; exact hk0)]
        rfl
end Go.Proofs.Ytakahkpogooepaa
