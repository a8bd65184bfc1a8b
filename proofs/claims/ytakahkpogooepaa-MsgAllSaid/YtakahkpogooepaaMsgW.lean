/- the head of the laws of chapter 8. -/
import Derived.Test.YtakahkpogooepaaMsgT
namespace Go.Proofs.Ytakahkpogooepaa
open Go.RowKit

def rp (k e : Int) : Array Value := #[.int .i64 k, .int .i64 0, .int .i64 0, .int .i64 0, .int .i64 e, .int .i64 0, .int .u8 0, .int .u8 0, .int .u8 0, .int .u8 0, .int .u8 0, .int .u8 0, .int .u8 0, .int .u8 0]
theorem agg_reply : AggT Try.prog 40 14 := ⟨⟨_, Try.underlying40, rfl⟩, by kernel_rfl⟩
set_option maxRecDepth 100000 in
set_option maxHeartbeats 400000 in
theorem replied_grant (gm : Nat) (w : World) (c0 : w.cell? ⟨gm, 0, none⟩ = some (.int .i64 133)) :
    Calls Try.prog 30 #[.pointer (some ⟨gm, 0, none⟩)] w fun e' w' => ∃ gl gb, e' = .returned (.tuple #[.slice (some ⟨gl, 0, none⟩) 1 1, .bool true]) ∧ FLs w' w.heap.size gl gm [(fEpoch, gb)] ∧ Below w.heap.size w w' := by
  have CF := Lib.hid (fun W => epoch_any gm 4 W)
  go_enter Try.func30, Try.ntmps30
  go_wp2_with fail
  ((with_reducible refine (CF.out _).mono ?_))
  rintro e w1 ⟨v, rfl, ⟨gb, rfl, lb, kb⟩, b1⟩
  have FB : Hid (Below w.heap.size w (w1.alloc (.cells (flatF [(fEpoch, gb)]).toArray 57))) := Lib.hid (b1.alloc b1.size _)
  have FK : Hid (FLs (w1.alloc (.cells (flatF [(fEpoch, gb)]).toArray 57)) w.heap.size w1.heap.size gm [(fEpoch, gb)]) := Lib.hid (fls_blk (Blk.new w1 _ 57) (fun i hi => by
    have : i = 0 := by simpa using hi
    subst this
    exact ⟨lb, Blk.alloc kb _⟩) b1.size)
  clear b1 c0 CF kb
  unfold fldV
  go_wp2_with fail
  go_ret2
  exact ⟨_, gb, rfl, FK.out, FB.out⟩
theorem built_rp (k : Int) : Try.prog.built 40 [(0, .int .i64 k)] = some (rp k 0) := by kernel_rfl
theorem built_rp2 : Try.prog.built 40 [(0, .int .i64 133), (4, .int .i64 258)] = some (rp 133 258) := by kernel_rfl
theorem neq_rp (W : World) : (binOp .neq 40 (.agg (rp 133 0)) (.agg (rp 133 0))).run Try.prog W = .ok (.bool false) W := by kernel_rfl
set_option maxRecDepth 100000 in
set_option maxHeartbeats 1600000 in
theorem putReply_grant (w : World) : Calls Try.prog 16 #[.agg (rp 133 258)] w fun e' w' => (∃ A c base, e' = .returned (.tuple #[.slice A 3 c, .int .i64 0]) ∧ Own w' base A c [133, 1, 2]) ∧ Below w.heap.size w w' := by
  have CF := Lib.hid (fun W gm (c0 : W.cell? ⟨gm, 0, none⟩ = some (.int .i64 133)) => replied_grant gm W c0)
  have Z1 : Hid ((rp 133 258).size = 14) := Lib.hid rfl
  have Z2 : Hid ((rp 133 0).size = 14) := Lib.hid rfl
  have C0 : Hid ((rp 133 258)[0]? = some (.int .i64 133) ∧ (rp 133 258)[4]? = some (.int .i64 258)) := Lib.hid ⟨rfl, rfl⟩
  have C1 : Hid ((rp 133 0)[0]? = some (.int .i64 133)) := Lib.hid rfl
  have ST : Hid ((rp 133 258).setIfInBounds 4 (.int .i64 0) = rp 133 0) := Lib.hid rfl
  have O1 : Hid ((rp 133 258).all (·.oneCell') = true) := Lib.hid (by simp [rp, Value.oneCell'])
  have BR := Lib.hid (built_rp 133)
  have NQ := neq_rp
  replace NQ := Lib.hid NQ
  generalize rp 133 258 = r1 at *
  generalize rp 133 0 = r0 at *
  have Z1p : r1.size = 14 := Z1.out
  go_enter Try.func16, Try.ntmps16
  go_wp2_with fail
  have K1 := Lib.hid (Blk.new w r1 40)
  have BB := Lib.hid (below_alloc1 w (.cells r1 40))
  generalize w.alloc (.cells r1 40) = w0 at *
  have l0 := K1.out.lt
  ((with_reducible refine (CF.out _ _ ((K1.out.cell 0).trans C0.out.1)).mono ?_))
  rintro e w1 ⟨gl, gb, rfl, hfl, b1⟩
  have FL := Lib.hid hfl
  replace K1 := Lib.hid (K1.out.below b1)
  replace BB := Lib.hid (bt BB.out b1)
  have hgl : w.heap.size < gl := by have := hfl.1; omega
  have hgb : w0.heap.size ≤ gb := (hfl.2.2 0 Nat.zero_lt_one).1
  have c0 : w1.cell? ⟨w.heap.size, 0, none⟩ = some (.int .i64 133) := (K1.out.cell 0).trans C0.out.1
  have l1 := K1.out.lt
  have hbx : Blk w1 gb #[.pointer (some ⟨w.heap.size, 4, none⟩)] 69 := (hfl.2.2 0 Nat.zero_lt_one).2
  have GT : Gets w1 fEpoch.get (.pointer (some ⟨gb, 0, none⟩)) 258 := ⟨enters_get fEpoch, fun W hW => get_num gb w.heap.size 4 258 W (hbx.below hW) (((K1.out.below hW).cell 4).trans C0.out.2)⟩
  have CP := Lib.hid (put_any 133 [⟨2, 0, 65535, fEpoch.get, fEpoch.set, .pointer (some ⟨gb, 0, none⟩), 258⟩] 1 gl 1 rfl (by omega) (by omega) (by omega) w1 (fun W hW i hi j hj => by
      have h0 : i = 0 := by simpa using hi
      subst h0
      exact (hfl.below hW).cells 0 Nat.zero_lt_one j hj) (fun a ha => by
      rw [List.mem_singleton] at ha
      subst ha
      exact ⟨⟨good_epoch.neg, good_epoch.pos⟩, GT⟩))
  have e1 : outsA [⟨2, 0, 65535, fEpoch.get, fEpoch.set, .pointer (some ⟨gb, 0, none⟩), 258⟩] = some [1, 2] := by
    simp [outsA, outA]
    decide
  clear b1 hfl hbx GT
  go_wp2_with fail
  ((with_reducible refine (CP.out).mono ?_))
  rintro e w2 ⟨hpp, b2⟩
  clear CP c0
  rw [e1] at hpp
  obtain ⟨A, c, rfl, ho⟩ := hpp
  have l12 := b2.size
  replace K1 := Lib.hid (K1.out.below b2)
  replace FL := Lib.hid (FL.out.below b2)
  replace BB := Lib.hid (bt BB.out b2)
  have HO := Lib.hid ho
  clear b2 e1 ho
  have lb := BB.out.size
  have hcell := fun j hj => FL.out.cells 0 Nat.zero_lt_one j hj
  have HBX : Hid (Blk w2 gb #[.pointer (some ⟨w.heap.size, 4, none⟩)] 69) := Lib.hid (FL.out.2.2 0 Nat.zero_lt_one).2
  have HE : ∀ (args : Array Value) (w : World), (callFunc 48 args).run Try.prog w = .ok (.enter 48 args) w := enters_set fEpoch
  have c0 := hcell 0 (by omega)
  have c1 := hcell 1 (by omega)
  have c2 := hcell 2 (by omega)
  have c3 := hcell 3 (by omega)
  have c4 := hcell 4 (by omega)
  have eg : fEpoch.get = 47 := rfl
  have es : fEpoch.set = 48 := rfl
  simp only [fldV, Nat.add_zero, Nat.zero_mul, Nat.zero_add, List.getElem_cons_zero, eg, es] at c0 c1 c2 c3 c4
  have s0 : fEpoch.size = 2 := rfl
  have s1 : fEpoch.lo = 0 := rfl
  have s2 : fEpoch.hi = 65535 := rfl
  rw [s0] at c0
  rw [s1] at c1
  rw [s2] at c2
  clear hcell eg es s0 s1 s2
  have hone2 := Lib.hid (fldV_one fEpoch gb)
  have hsz2 : Hid ((fldV fEpoch gb).size = 5) := Lib.hid rfl
  go_wp2_with fail
  refine wp_loop_rounds 2 ?_
  rw [rounds_succ]
  go_wp2_with ((with_reducible show wpList _ _ _ (⟨_, .alloc 57, _, _, _, none⟩ :: _) _ _); (with_reducible refine wpRow_alloc zeroT_fld ?_ ?_ ?_); (· exact wanted0 rfl); (· rfl); refine Marker.mk ?_)
  refine Marker.in ?_
  clear c0 c1 c2 c3 c4
  have K5 := Lib.hid (Blk.new w2 zfld 57)
  have b5 := Lib.hid (below_alloc1 w2 (.cells zfld 57))
  have l2 := K1.out.lt
  generalize w2.alloc (.cells zfld 57) = w4 at *
  go_wp2_with ((with_reducible show wpList _ _ _ (⟨_, .store 57 _ _, _, _, _, none⟩ :: _) _ _); (with_reducible refine wpBlk_store (g := w2.heap.size) (cs := (fldV fEpoch gb)) agg_fld ?_ ?_ K5 ?_ ?_ ?_ ?_); (· exact wanted0 rfl); (· exact ⟨rfl, rfl, rfl⟩); (· rfl); (· exact hsz2.out); (· exact hone2.out); refine Marker.mk ?_)
  refine Marker.in ?_
  replace K5 := Lib.hid (K5.out.setRow (fldV fEpoch gb))
  replace b5 := Lib.hid (below_setRow (g := w2.heap.size) b5.out (by omega) (fldV fEpoch gb))
  generalize w4.setRow w2.heap.size (fldV fEpoch gb) = w5 at *
  replace K1 := Lib.hid (K1.out.below b5.out)
  replace HO := Lib.hid (own_below HO.out b5.out)
  replace BB := Lib.hid (bt BB.out b5.out)
  replace HBX := Lib.hid (Blk.below HBX.out b5.out)
  clear b5
  have HK4 : w5.cell? ⟨w2.heap.size, 4, none⟩ = some (.func (.func 48) #[] #[.pointer (some ⟨gb, 0, none⟩)]) := K5.out.cell 4
  clear K5
  go_wp2_with fail
  ((with_reducible refine (set_num gb w.heap.size 4 0 258 w5 HBX.out ((K1.out.cell 4).trans C0.out.2) (K1.out.frozen 4)).mono ?_))
  rintro e w6 ⟨rfl, hw6⟩
  clear HK4 HE HBX
  have b6 : Below w.heap.size w5 w6 := by rw [← hw6]; exact (Below.refl _ w5).setCell (p := ⟨w.heap.size, 4, none⟩) (Nat.le_refl _) _
  have k6 : Blk w6 w.heap.size r0 40 := by rw [← hw6, ← ST.out]; exact K1.out.set 4 _
  have hk6 : ∀ k, k ≠ w.heap.size → w6.heap[k]? = w5.heap[k]? := by rw [← hw6]; exact fun k hk => Below.heap_setCell _ _ _ _ hk
  replace K1 := Lib.hid k6
  replace HO := Lib.hid (own_keep HO.out (by omega) hk6)
  replace BB := Lib.hid (BB.out.trans b6)
  clear hk6 b6 k6 hw6
  go_wp2_with fail
  rw [rounds_succ]
  have c0 : w6.cell? ⟨w.heap.size, 0, none⟩ = some (.int .i64 133) := (K1.out.cell 0).trans C1.out
  have NQ := NQ.out
  go_wp2_with (first | ((with_reducible show wpList _ _ _ (⟨_, .load 40 _, _, _, _, none⟩ :: _) _ _); (with_reducible refine wpBlk_load (g := w.heap.size) agg_reply ?_ ?_ K1 ?_ ?_); (· exact wanted0 rfl); (· exact ⟨rfl, rfl⟩); (· exact Z2.out)) | ((with_reducible show wpList _ _ _ (⟨some 37, _, _, _, _, _⟩ :: _) _ _); refine wpList_build' rfl 40 _ rfl r0 BR.out ?_))
  go_ret2
  exact ⟨⟨A, c, _, rfl, HO.out⟩, BB.out⟩
set_option maxRecDepth 100000 in
set_option maxHeartbeats 800000 in
theorem shown08 (w : World) : Calls Try.prog 9 #[] w fun e' w' => e' = .returned (.bool true) ∧ Below w.heap.size w w' := by
  have s1 : strOfNums [10, 0, 0, 0, 5, 1, 2, 3] = ⟨#[10, 0, 0, 0, 5, 1, 2, 3]⟩ := by decide
  have s2 : strOfNums [133, 1, 2] = ⟨#[133, 1, 2]⟩ := by decide
  have BM : Hid (Try.prog.built 24 [(0, .int .i64 10), (1, .int .i64 5), (4, .int .i64 258), (5, .int .i64 3)] = some (msgV [10, 5, 0, 0, 258, 3, 0, 0, 0, 0, 0, 0])) := Lib.hid (by kernel_rfl)
  have BR := Lib.hid built_rp2
  have PM := Lib.hid (fun W => put_msg [10, 5, 0, 0, 258, 3, 0, 0, 0, 0, 0, 0] W ⟨rfl, .inl rfl⟩)
  have PR := Lib.hid putReply_grant
  have p8 : put8 [10, 5, 0, 0, 258, 3, 0, 0, 0, 0, 0, 0] = some [10, 0, 0, 0, 5, 1, 2, 3] := by decide
  have P8 := Lib.hid p8
  clear p8
  generalize hmv : msgV [10, 5, 0, 0, 258, 3, 0, 0, 0, 0, 0, 0] = mv at *
  clear hmv
  generalize rp 133 258 = r1 at *
  go_enter Try.func9, Try.ntmps9
  go_wp2_with ((with_reducible show wpList _ _ _ (⟨some 6, _, _, _, _, _⟩ :: _) _ _); refine wpList_build' rfl 24 _ rfl mv BM.out ?_)
  ((with_reducible refine (PM.out _).mono ?_))
  rintro e w1 ⟨hp, b1⟩
  rw [P8.out] at hp
  obtain ⟨A, c, base, rfl, ho⟩ := hp
  have BB := Lib.hid b1
  have HO := Lib.hid ho
  clear b1 ho
  go_wp2_with ((with_reducible show wpList _ _ _ (⟨some 11, _, _, _, _, _⟩ :: _) _ _); refine wpList_build' rfl 40 _ rfl r1 BR.out ?_)
  ((with_reducible refine (PR.out _).mono ?_))
  rintro e w2 ⟨⟨A2, c2, base2, rfl, ho2⟩, b2⟩
  have v1 := conv_row 8 c (by rfl) (own_below HO.out b2).row
  have v2 := conv_row 3 c2 (by rfl) ho2.row
  rw [s1] at v1
  rw [s2] at v2
  replace BB := Lib.hid (bt BB.out b2)
  clear b2 ho2 HO s1 s2
  go_wp2_with fail
  go_ret
  exact ⟨rfl, BB.out⟩
end Go.Proofs.Ytakahkpogooepaa
