/- msg.TakeReply. -/
import Derived.Test.YtakahkpogooepaaRepK
import Derived.Test.YtakahkpogooepaaMsgM
namespace Go.Proofs.Ytakahkpogooepaa
open Go.RowKit

theorem zeroT_repy : ZeroT Try.prog 40 (repV (z14 0)) := zeroT_rep
def takeR8 (bs : List Int) : Option (List Int) := match bs with
  | [] => none
  | k :: xs => match repliedOf k with
    | none => none
    | some ds => takeD ds (z14 k) xs
def TakeRR (bs : List Int) (w : World) (e : Ending) (w' : World) : Prop :=
  (match takeR8 bs with
   | none => e = .returned (.tuple #[.agg (repV (z14 0)), .int .i64 13])
   | some l => e = .returned (.tuple #[.agg (repV l), .int .i64 0])) ∧ Below w.heap.size w w'
set_option maxRecDepth 100000 in
set_option maxHeartbeats 3200000 in
theorem take_rep (bs : List Int) (B : Option Addr) (m c : Nat) (hm : bs.length = m) (hmc : m ≤ c) (hc : c ≤ 9223372036854775807) (w : World) (hr : Row w B bs) : Calls Try.prog 18 #[.slice B m c] w (TakeRR bs w) := by
  cases bs with
  | nil =>
    obtain rfl : m = 0 := by rw [← hm]; rfl
    clear hr
    go_enter Try.func18, Try.ntmps18
    go_wp2_with ((with_reducible show wpList _ _ _ (⟨_, .alloc 40, _, _, _, none⟩ :: _) _ _); (with_reducible refine wpRow_alloc zeroT_repy ?_ ?_ ?_); (· exact wanted0 rfl); (· rfl); refine Marker.mk ?_)
    refine Marker.in ?_
    have K2 := Lib.hid (Blk.new w (repV (z14 0)) 40)
    have BB := Lib.hid (below_alloc1 w (.cells (repV (z14 0)) 40))
    generalize w.alloc (.cells (repV (z14 0)) 40) = w1 at *
    go_wp2_with (first | ((with_reducible show wpList _ _ _ (⟨some 10, _, _, _, _, _⟩ :: _) _ _); refine wpList_build' rfl 40 _ rfl (repV (z14 0)) built_rzero ?_) | ((with_reducible show wpList _ _ _ (⟨_, .store 40 _ _, _, _, _, none⟩ :: _) _ _); (with_reducible refine wpBlk_store (g := w.heap.size) (cs := (repV (z14 0))) agg_rep ?_ ?_ K2 ?_ ?_ ?_ ?_); (· exact wanted0 rfl); (· exact ⟨rfl, rfl, rfl⟩); (· exact repV_size _); (· exact repV_size _); (· exact repV_one _)))
    refine bodyPost_ret (v := .tuple #[.agg (repV (z14 0)), .int .i64 13]) (results_ct agg_rep rfl _ _ w.heap.size _ _ rfl rfl (K2.out.setRow _) (repV_size _)) rfl ⟨?_, below_setRow BB.out (by omega) _⟩
    rfl
  | cons k xs =>
    obtain ⟨b0, off, rfl, hc0⟩ : ∃ b off, B = some ⟨b, off, none⟩ ∧ w.cell? ⟨b, off, none⟩ = some (.int .u8 k) := by
      obtain ⟨h | ⟨b, off, h, hcc⟩, -⟩ := hr
      · cases h
      · exact ⟨b, off, h, hcc 0 (by simp)⟩
    have hb0 : b0 < w.heap.size := World.block_lt_of_cell? _ _ hc0
    have hkb := hr.2 k List.mem_cons_self
    obtain ⟨k0, k9⟩ := hkb
    have HR := Lib.hid hr
    have m1 : 1 ≤ m := by rw [← hm]; simp
    have HM := Lib.hid hm
    have t1 : ((m : Int) == 0) = false := by simp; omega
    clear hr hm
    go_enter Try.func18, Try.ntmps18
    go_wp2_with ((with_reducible show wpList _ _ _ (⟨_, .alloc 40, _, _, _, none⟩ :: _) _ _); (with_reducible refine wpRow_alloc zeroT_repy ?_ ?_ ?_); (· exact wanted0 rfl); (· rfl); refine Marker.mk ?_)
    refine Marker.in ?_
    have K2 := Lib.hid (Blk.new w (repV (z14 0)) 40)
    have BB := Lib.hid (below_alloc1 w (.cells (repV (z14 0)) 40))
    replace HR := Lib.hid (row_below HR.out BB.out)
    have c1 : (w.alloc (.cells (repV (z14 0)) 40)).cell? ⟨b0, off, none⟩ = some (.int .u8 k) := by rw [BB.out.cell hb0]; exact hc0
    generalize w.alloc (.cells (repV (z14 0)) 40) = w1 at *
    clear hc0
    go_wp2_with (first | ((with_reducible show wpList _ _ _ (⟨some 15, _, _, _, _, _⟩ :: _) _ _); refine wpList_build' rfl 40 _ rfl (repV (z14 k)) (built_rep k) ?_) | ((with_reducible show wpList _ _ _ (⟨_, .alloc 40, _, _, _, none⟩ :: _) _ _); (with_reducible refine wpRow_alloc zeroT_repy ?_ ?_ ?_); (· exact wanted0 rfl); (· rfl); refine Marker.mk ?_))
    refine Marker.in ?_
    have l1 := K2.out.lt
    have bel := below_alloc1 w1 (.cells (repV (z14 0)) 40)
    have K4 := Lib.hid (Blk.new w1 (repV (z14 0)) 40)
    replace K2 := Lib.hid (K2.out.below bel)
    replace HR := Lib.hid (row_below HR.out bel)
    replace BB := Lib.hid (bt BB.out bel)
    clear bel c1
    generalize w1.alloc (.cells (repV (z14 0)) 40) = w2 at *
    have lw := BB.out.size
    generalize hg4 : w1.heap.size = g4 at *
    clear hg4
    go_wp2_with ((with_reducible show wpList _ _ _ (⟨_, .store 40 _ _, _, _, _, none⟩ :: _) _ _); (with_reducible refine wpBlk_store (g := g4) (cs := (repV (z14 k))) agg_rep ?_ ?_ K4 ?_ ?_ ?_ ?_); (· exact wanted0 rfl); (· exact ⟨rfl, rfl, rfl⟩); (· exact repV_size _); (· exact repV_size _); (· exact repV_one _); refine Marker.mk ?_)
    refine Marker.in ?_
    have bs3 := below_setRow (g := g4) (Below.refl g4 w2) (Nat.le_refl _) (repV (z14 k))
    replace K2 := Lib.hid (K2.out.setRow_other g4 (repV (z14 k)) (by omega))
    replace K4 := Lib.hid (K4.out.setRow (repV (z14 k)))
    replace BB := Lib.hid (below_setRow (g := g4) BB.out (by omega) (repV (z14 k)))
    replace HR := Lib.hid (row_under HR.out (fun a ha => by injection ha with ha; subst ha; show b0 < g4; omega) bs3)
    clear bs3
    generalize w2.setRow g4 (repV (z14 k)) = w3 at *
    have l3 := K4.out.lt
    go_wp2_with fail
    ((with_reducible refine (replied_any g4 (z14 k) w3 K4.out).mono ?_))
    rintro e w4 hf
    unfold RepliedAny at hf
    have hkk : (z14 k).getD 0 0 = k := rfl
    rw [hkk] at hf
    cases hfo : repliedOf k with
    | none =>
      rw [hfo] at hf
      obtain ⟨rfl, rfl⟩ := hf
      have hp : takeR8 (k :: xs) = none := by unfold takeR8; simp only [hfo]
      replace hp := Lib.hid hp
      clear hfo hkk
      go_wp2_with (first | ((with_reducible show wpList _ _ _ (⟨some 29, _, _, _, _, _⟩ :: _) _ _); refine wpList_build' rfl 40 _ rfl (repV (z14 0)) built_rzero ?_) | ((with_reducible show wpList _ _ _ (⟨_, .store 40 _ _, _, _, _, none⟩ :: _) _ _); (with_reducible refine wpBlk_store (g := w.heap.size) (cs := (repV (z14 0))) agg_rep ?_ ?_ K2 ?_ ?_ ?_ ?_); (· exact wanted0 rfl); (· exact ⟨rfl, rfl, rfl⟩); (· exact repV_size _); (· exact repV_size _); (· exact repV_one _)))
      refine bodyPost_ret (v := .tuple #[.agg (repV (z14 0)), .int .i64 13]) (results_ct agg_rep rfl _ _ w.heap.size _ _ rfl rfl (K2.out.setRow _) (repV_size _)) rfl ⟨?_, below_setRow BB.out (by omega) _⟩
      rw [hp.out]
    | some ds =>
      rw [hfo] at hf
      obtain ⟨gl, cp, fs, rfl, hds, hfl, b4⟩ := hf
      have hff := replied_fine hfo
      have hd7 := (replied_good hfo).2.2.1
      have hp : takeR8 (k :: xs) = takeD ds (z14 k) xs := by unfold takeR8; simp only [hfo]
      have HP := Lib.hid hp
      have l4 := b4.size
      replace K2 := Lib.hid (K2.out.below b4)
      replace K4 := Lib.hid (K4.out.below b4)
      replace HR := Lib.hid (row_below HR.out b4)
      replace BB := Lib.hid (bt BB.out b4)
      obtain ⟨A2, hA2⟩ : ∃ A : Option Addr, A = if c = 1 then some ⟨b0, off, none⟩ else some ⟨b0, off + 1, none⟩ := ⟨_, rfl⟩
      have hx : xs.length = m - 1 := by have := HM.out; rw [List.length_cons] at this; omega
      have hrow : Row w4 A2 xs := by
        rw [hA2]
        split
        · have h0 : xs = [] := List.eq_nil_of_length_eq_zero (by omega)
          rw [h0]
          exact ⟨.inl rfl, fun x hx => by cases hx⟩
        · exact row_drop8 HR.out 1
      have hA3 : ∀ a, A2 = some a → a.block < g4 := by
        intro a ha
        rw [hA2] at ha
        split at ha
        · injection ha with ha; subst ha; show b0 < g4; omega
        · injection ha with ha; subst ha; show b0 < g4; omega
      have CT := Lib.hid (take_rany fs ds hds hff ds.length (by rw [← hds, List.length_map]) (by omega) gl cp g4 w3.heap.size (z14 k) (isRep_z14 k) xs A2 (m - 1) (c - 1) hx (by omega) (by omega) w4 hrow hA3 hfl l3 l4 K4.out)
      generalize ds.length = n at *
      clear hds hfl hff hfo hkk b4 hx hrow hA3 hp
      have hA2' := hA2.symm
      replace hA2 := Lib.hid hA2
      go_wp2_with fail
      ((with_reducible refine (CT.out).mono ?_))
      rintro e' w5 ⟨b5, hpost⟩
      have k2 : Blk w5 w.heap.size (repV (z14 0)) 40 := (b5.block _ (by omega)).trans K2.out
      replace K2 := Lib.hid k2
      replace BB := Lib.hid (BB.out.trans (b5.mono (by omega)))
      clear k2 b5 K4 CT
      cases hR : takeD ds (z14 k) xs with
      | none =>
        rw [hR] at hpost
        obtain rfl := hpost
        have HRR := Lib.hid hR
        clear hR
        go_wp2_with (first | ((with_reducible show wpList _ _ _ (⟨some 29, _, _, _, _, _⟩ :: _) _ _); refine wpList_build' rfl 40 _ rfl (repV (z14 0)) built_rzero ?_) | ((with_reducible show wpList _ _ _ (⟨_, .store 40 _ _, _, _, _, none⟩ :: _) _ _); (with_reducible refine wpBlk_store (g := w.heap.size) (cs := (repV (z14 0))) agg_rep ?_ ?_ K2 ?_ ?_ ?_ ?_); (· exact wanted0 rfl); (· exact ⟨rfl, rfl, rfl⟩); (· exact repV_size _); (· exact repV_size _); (· exact repV_one _)))
        refine bodyPost_ret (v := .tuple #[.agg (repV (z14 0)), .int .i64 13]) (results_ct agg_rep rfl _ _ w.heap.size _ _ rfl rfl (K2.out.setRow _) (repV_size _)) rfl ⟨?_, below_setRow BB.out (by omega) _⟩
        rw [HP.out, HRR.out]
      | some l' =>
        rw [hR] at hpost
        obtain ⟨rfl, hk4⟩ := hpost
        have HRR := Lib.hid hR
        have K4 := Lib.hid hk4
        clear hR hk4
        go_wp2_with (first | ((with_reducible show wpList _ _ _ (⟨_, .load 40 _, _, _, _, none⟩ :: _) _ _); (with_reducible refine wpBlk_load (g := g4) agg_rep ?_ ?_ K4 ?_ ?_); (· exact wanted0 rfl); (· exact ⟨rfl, rfl⟩); (· exact repV_size _)) | ((with_reducible show wpList _ _ _ (⟨_, .store 40 _ _, _, _, _, none⟩ :: _) _ _); (with_reducible refine wpBlk_store (g := w.heap.size) (cs := (repV l')) agg_rep ?_ ?_ K2 ?_ ?_ ?_ ?_); (· exact wanted0 rfl); (· exact ⟨rfl, rfl, rfl⟩); (· exact repV_size _); (· exact repV_size _); (· exact repV_one _)))
        refine bodyPost_ret (v := .tuple #[.agg (repV l'), .int .i64 0]) (results_ct agg_rep rfl _ _ w.heap.size _ _ rfl rfl (K2.out.setRow _) (repV_size _)) rfl ⟨?_, below_setRow BB.out (by omega) _⟩
        rw [HP.out, HRR.out]
end Go.Proofs.Ytakahkpogooepaa
