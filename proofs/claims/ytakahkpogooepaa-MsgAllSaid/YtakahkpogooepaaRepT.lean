/- msg.PutReply, walked. -/
import Derived.Test.YtakahkpogooepaaRepS
namespace Go.Proofs.Ytakahkpogooepaa
open Go.RowKit

def PutRep (l : List Int) (w : World) (e : Ending) (w' : World) : Prop :=
  (match putR8 l with
   | none => e = .returned (.tuple #[.slice none 0 0, .int .i64 1])
   | some bs => ∃ A c base, e = .returned (.tuple #[.slice A bs.length c, .int .i64 0]) ∧ Own w' base A c bs) ∧ Below w.heap.size w w'
set_option maxRecDepth 100000 in
set_option maxHeartbeats 3200000 in
theorem put_rep (l : List Int) (w : World) (hl : IsRepL l) : Calls Try.prog 16 #[.agg (repV l)] w (PutRep l w) := by
  have CF := Lib.hid (fun W gm hm => replied_any gm l W hm)
  have HL := Lib.hid hl
  have hsz : Hid ((repV l).size = 14) := Lib.hid (repV_size l)
  have hone := Lib.hid (repV_one l)
  clear hl
  obtain ⟨mv, hmv⟩ : ∃ m, m = repV l := ⟨_, rfl⟩
  obtain ⟨k, hk⟩ : ∃ k, k = l.getD 0 0 := ⟨_, rfl⟩
  rw [← hmv] at hsz hone ⊢
  replace hmv := Lib.hid hmv
  rw [← hk] at CF
  replace hk := Lib.hid hk
  go_enter Try.func16, Try.ntmps16
  go_wp2_with fail
  have K1 := Lib.hid (Blk.new w mv 40)
  have BB := Lib.hid (below_alloc1 w (.cells mv 40))
  rw [hmv.out] at K1 BB ⊢
  generalize w.alloc (.cells (repV l) 40) = w0 at *
  have l0 := K1.out.lt
  ((with_reducible refine (CF.out _ _ K1.out).mono ?_))
  rintro e w1 hf
  unfold RepliedAny at hf
  cases hfo : repliedOf k with
  | none =>
    rw [hfo] at hf
    obtain ⟨rfl, rfl⟩ := hf
    have hp : putR8 l = none := by unfold putR8; rw [← hk.out, hfo]
    replace hp := Lib.hid hp
    clear hfo
    go_wp2_with fail
    go_ret2
    unfold PutRep
    rw [hp.out]
    exact ⟨rfl, BB.out⟩
  | some ds =>
    rw [hfo] at hf
    obtain ⟨gl, cp, fs, rfl, hds, hfl, b1⟩ := hf
    obtain ⟨k1, k11, hd7, hgood⟩ := replied_good hfo
    have HFO := Lib.hid hfo
    have HDS := Lib.hid hds
    have FL := Lib.hid hfl
    have HG := Lib.hid hgood
    replace K1 := Lib.hid (K1.out.below b1)
    replace BB := Lib.hid (bt BB.out b1)
    have hlen : fs.length = ds.length := by rw [← hds, List.length_map]
    have HN := Lib.hid hlen
    have hgl : w.heap.size < gl := by have := hfl.1; omega
    have c0 := K1.out.cell 0
    rw [repV_get _ _ (by omega), if_neg (by omega), ← hk.out] at c0
    have l1 := K1.out.lt
    have hgood2 : ∀ p ∈ fs, p.1.goodR := fun p hp => hgood _ (by rw [← hds]; exact List.mem_map_of_mem hp)
    have CP := Lib.hid (put_any k (fs.map (afOf l)) ds.length gl cp (by rw [List.length_map, hlen]) (by omega) (by omega) (by omega) w1 (fun W hW => acells_of l (hfl.below hW)) (gets_ofR hfl HL.out K1.out hgood2))
    have HG2 := Lib.hid hgood2
    clear hgood2
    clear hfo hds hfl hgood b1 hlen
    generalize hnl : ds.length = n at *
    replace hnl := Lib.hid hnl
    go_wp2_with fail
    ((with_reducible refine (CP.out).mono ?_))
    rintro e w2 ⟨hpp, b2⟩
    clear CP c0
    rw [outs_of, HDS.out] at hpp
    have l12 := b2.size
    replace K1 := Lib.hid (K1.out.below b2)
    replace FL := Lib.hid (FL.out.below b2)
    replace BB := Lib.hid (bt BB.out b2)
    clear b2
    cases hps : outsD ds l with
    | none =>
      rw [hps] at hpp
      obtain rfl := hpp
      have hp : putR8 l = none := by unfold putR8; rw [← hk.out, HFO.out]; simp only [hps]
      replace hp := Lib.hid hp
      clear hps
      go_wp2_with fail
      go_ret2
      unfold PutRep
      rw [hp.out]
      exact ⟨rfl, BB.out⟩
    | some ps =>
      rw [hps] at hpp
      obtain ⟨A, c, rfl, ho⟩ := hpp
      have HPS := Lib.hid hps
      have HO := Lib.hid ho
      clear hps ho
      go_wp2_with fail
      go_loopw [26] (fun y wr => ∃ i : Nat, i ≤ n ∧ y = .int .i64 i ∧ Blk wr w.heap.size (repV (zeroed (ds.take i) l)) 40 ∧ FLs wr w0.heap.size gl w.heap.size fs ∧ Own wr w1.heap.size A c (k :: ps) ∧ Below w.heap.size w wr) (fun y _ => n - (intOf y).toNat)
      case atStart => exact ⟨0, by omega, rfl, K1.out, FL.out, HO.out, BB.out⟩
      case round =>
        obtain ⟨i, hi, rfl, hm, hfl, ho, hbb⟩ := hrel
        have K1 := Lib.hid hm
        have FL := Lib.hid hfl
        have HO := Lib.hid ho
        have BB := Lib.hid hbb
        have lr := hm.lt
        have lb := hbb.size
        clear hm hfl ho hbb
        by_cases hin : i < n
        · have hil : i < fs.length := by rw [HN.out]; exact hin
          have hcell := fun j hj => FL.out.cells i hil j hj
          have hbox := (FL.out.2.2 i hil).2
          have hgd := HG2.out _ (List.getElem_mem hil)
          have htk : ds.take (i + 1) = ds.take i ++ [(fs[i]'hil).1] := by
            have e1 : ds[i]? = some (fs[i]'hil).1 := by rw [← HDS.out, List.getElem?_map, List.getElem?_eq_getElem hil]; rfl
            rw [List.take_add_one, e1]; rfl
          generalize fs[i]'hil = p at *
          obtain ⟨d, gb⟩ := p
          simp only at hcell hbox hgd htk
          have HT := Lib.hid htk
          have HBX := Lib.hid hbox
          have CS := Lib.hid (fun W (hb : Box W d w.heap.size gb) (hm : Blk W w.heap.size (repV (zeroed (ds.take i) l)) 40) => set_rfld d gb w.heap.size (zeroed (ds.take i) l) 0 W hgd.ok (fun _ => by omega) (zeroed_rep _ _ HL.out) hb hm)
          have HE : ∀ (args : Array Value) (w : World), (callFunc d.set args).run Try.prog w = .ok (.enter d.set args) w := enters_set d
          have c0 := hcell 0 (by omega)
          have c1 := hcell 1 (by omega)
          have c2 := hcell 2 (by omega)
          have c3 := hcell 3 (by omega)
          have c4 := hcell 4 (by omega)
          simp only [fldV, Nat.add_zero] at c0 c1 c2 c3 c4
          clear hcell hbox hgd htk
          have hone2 := Lib.hid (fldV_one d gb)
          have hsz2 : Hid ((fldV d gb).size = 5) := Lib.hid rfl
          have t1 : decide ((i : Int) < (n : Int)) = true := decide_eq_true (by omega)
          go_wp2_with ((with_reducible show wpList _ _ _ (⟨_, .alloc 57, _, _, _, none⟩ :: _) _ _); (with_reducible refine wpRow_alloc zeroT_fld ?_ ?_ ?_); (· exact wanted0 rfl); (· rfl); refine Marker.mk ?_)
          refine Marker.in ?_
          clear c0 c1 c2 c3 c4 t1
          have K5 := Lib.hid (Blk.new wr zfld 57)
          have b5 := Lib.hid (below_alloc1 wr (.cells zfld 57))
          generalize wr.alloc (.cells zfld 57) = w4 at *
          go_wp2_with ((with_reducible show wpList _ _ _ (⟨_, .store 57 _ _, _, _, _, none⟩ :: _) _ _); (with_reducible refine wpBlk_store (g := wr.heap.size) (cs := (fldV d gb)) agg_fld ?_ ?_ K5 ?_ ?_ ?_ ?_); (· exact wanted0 rfl); (· exact ⟨rfl, rfl, rfl⟩); (· rfl); (· exact hsz2.out); (· exact hone2.out); refine Marker.mk ?_)
          refine Marker.in ?_
          replace K5 := Lib.hid (K5.out.setRow (fldV d gb))
          replace b5 := Lib.hid (below_setRow (g := wr.heap.size) b5.out (by omega) (fldV d gb))
          generalize w4.setRow wr.heap.size (fldV d gb) = w5 at *
          replace K1 := Lib.hid (K1.out.below b5.out)
          replace FL := Lib.hid (FL.out.below b5.out)
          replace HO := Lib.hid (own_below HO.out b5.out)
          replace BB := Lib.hid (bt BB.out b5.out)
          have HBX5 : Hid (Box w5 d w.heap.size gb) := Lib.hid (Blk.below HBX.out b5.out)
          clear HBX
          clear b5
          have k4 := K5.out.cell 4
          simp only [fldV, List.getElem?_toArray, List.getElem?_cons_succ, List.getElem?_cons_zero] at k4
          have HK4 : w5.cell? ⟨wr.heap.size, 4, none⟩ = some (.func (.func d.set) #[] #[.pointer (some ⟨gb, 0, none⟩)]) := k4
          clear k4 K5
          go_wp2_with fail
          ((with_reducible refine (CS.out _ HBX5.out K1.out).mono ?_))
          rintro e w6 ⟨rfl, hm6, hk6, hs6, b6⟩
          clear HK4 HE CS
          replace K1 := Lib.hid hm6
          replace FL := Lib.hid (FL.out.keep (by omega) hk6)
          replace HO := Lib.hid (own_keep HO.out (by omega) hk6)
          replace BB := Lib.hid (BB.out.trans b6)
          clear hm6 hk6 b6 HBX5
          go_wp2_with fail
          refine ⟨⟨i + 1, by omega, by simp, ?_, FL.out, HO.out, BB.out⟩, by simp [intOf]; omega⟩
          rw [HT.out, zeroed_snoc]
          exact K1.out
        · obtain rfl : i = n := by omega
          have etk : ds.take i = ds := by rw [← hnl.out, List.take_length]
          rw [etk] at K1
          have c0 := K1.out.cell 0
          rw [repV_get _ _ (by omega), if_neg (by omega), zeroed_get _ _ _ (fun d hd => by have := (HG.out d hd).off1; omega), ← hk.out] at c0
          have NQ := fun W => neq_rep (zeroed ds l) (z14 k) (zeroed_rep ds l HL.out) (isRep_z14 k) W
          have hput : putR8 l = if zeroed ds l = z14 k then some (k :: ps) else none := by unfold putR8; rw [← hk.out, HFO.out]; simp only [HPS.out]
          replace hput := Lib.hid hput
          have zs : Hid ((repV (zeroed ds l)).size = 14) := Lib.hid (repV_size _)
          have BM := Lib.hid (built_rep k)
          have HKP : Hid ((k :: ps).length = 1 + ps.length) := Lib.hid (by rw [List.length_cons]; omega)
          clear etk
          generalize repV (zeroed ds l) = mz at *
          generalize repV (z14 k) = mk at *
          have t1 : decide ((i : Int) < (i : Int)) = false := decide_eq_false (by omega)
          by_cases hz : zeroed ds l = z14 k
          · rw [decide_eq_true hz] at NQ
            rw [if_pos hz] at hput
            clear hz
            go_wp2_with (first | ((with_reducible show wpList _ _ _ (⟨_, .load 40 _, _, _, _, none⟩ :: _) _ _); (with_reducible refine wpBlk_load (g := w.heap.size) agg_rep ?_ ?_ K1 ?_ ?_); (· exact wanted0 rfl); (· exact ⟨rfl, rfl⟩); (· exact zs.out)) | ((with_reducible show wpList _ _ _ (⟨some 37, _, _, _, _, _⟩ :: _) _ _); refine wpList_build' rfl 40 _ rfl mk BM.out ?_))
            go_ret2
            unfold PutRep
            rw [hput.out]
            exact ⟨⟨A, c, _, by rw [HKP.out]; rfl, HO.out⟩, BB.out⟩
          · rw [decide_eq_false hz] at NQ
            rw [if_neg hz] at hput
            clear hz
            go_wp2_with (first | ((with_reducible show wpList _ _ _ (⟨_, .load 40 _, _, _, _, none⟩ :: _) _ _); (with_reducible refine wpBlk_load (g := w.heap.size) agg_rep ?_ ?_ K1 ?_ ?_); (· exact wanted0 rfl); (· exact ⟨rfl, rfl⟩); (· exact zs.out)) | ((with_reducible show wpList _ _ _ (⟨some 37, _, _, _, _, _⟩ :: _) _ _); refine wpList_build' rfl 40 _ rfl mk BM.out ?_))
            go_ret2
            unfold PutRep
            rw [hput.out]
            exact ⟨rfl, BB.out⟩
end Go.Proofs.Ytakahkpogooepaa
