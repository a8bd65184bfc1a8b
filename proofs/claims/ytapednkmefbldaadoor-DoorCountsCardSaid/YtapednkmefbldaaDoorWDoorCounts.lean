/- The walk of DoorCounts. -/
import Derived.Test.YtapednkmefbldaaDoorDoorE
namespace Go.Proofs.YtapednkmefbldaaDoor
open Go.RowKit

def RCnt (A : Option Addr) (n c : Nat) (s many m1 : Int) (an : List Int) (g11 g12 : Nat) (i : Nat) (v : Value) (w : World) : Prop := match i with
  | 0 => v = .int .i64 0
  | 3 => v = .pointer (some ⟨g12, 0, none⟩)
  | 4 => v = .int .i64 m1
  | 5 => v = .pointer (some ⟨g11, 0, none⟩)
  | 6 => v = .int .i64 many
  | 7 => v = .int .i64 m1
  | 11 => v = .pointer (some ⟨g12, 1, none⟩)
  | 12 => v = .bool true
  | 16 => v = .pointer (some ⟨g12, 2, none⟩)
  | 17 => v = .agg (u8V an)
  | 18 => v = .slice A n c
  | 19 => v = .int .i64 s
  | 20 => v = .pointer (some ⟨g12, 0, none⟩)
  | 21 => v = .int .i64 m1
  | 22 => v = .agg (u8V an)
  | _ => v = .bool false
theorem RCnt_keep (A : Option Addr) (n c : Nat) (s many m1 : Int) (an : List Int) (g11 g12 : Nat) : ∀ i v w w', i < 25 → RCnt A n c s many m1 an g11 g12 i v w → BelR w w' → RCnt A n c s many m1 an g11 g12 i v w' := by
  intro i v w w' hi h hb
  unfold RCnt at *
  split at h
  all_goals exact h
set_option maxRecDepth 100000 in
set_option maxHeartbeats 3200000 in
theorem walk_DoorCounts (v0 v1 v2 : Value) (w : World) (hR : Roots w) (q0 : IsRow .u8 w v0) (q1 : ∃ n : Int, v1 = .int .i64 n ∧ -9223372036854775808 ≤ n ∧ n ≤ 9223372036854775807) (q2 : ∃ b0, Value.okWide Tryd.prog w .any b0 44 v2) :
    Calls Tryd.prog 5 #[v0, v1, v2] w fun e w' => e = .returned (.bool true) ∧ Below w.heap.size w w' := by
  obtain ⟨b2, q2⟩ := q2
  obtain ⟨s, rfl, s0, s1⟩ := q1
  obtain ⟨A, k, n, c, hn, n3, n1, n2, hk, hA, hf⟩ := few_of (k := 60) q0 few15
  obtain ⟨x0, x1, rfl, hx0, hx1⟩ := flat_two32 _ _ _ q2
  have CH := fun (many : Int) (op : Bool) (nc : List Int) (hc : nc.length = 8) (hm : 0 ≤ many ∧ many < 4294967295) (W : World) (hb : Below w.heap.size w W) => hello_ok A k n c s many op nc W hn (hk.below hb) (by omega) hc (by omega) (hR.below hb)
  have CP := fun (many : Int) (nc : List Int) (hc : nc.length = 8) (hcb : ∀ x ∈ nc, 0 ≤ x ∧ x ≤ 255) (W : World) (hb : Below w.heap.size w W) (hp : zeros 8 = (hmac k (loginB 80 s 1 nc)).take 8) => prove_good A k n c s 1 many nc (zeros 8) W hn (hk.below hb) (by omega) hc hcb (hR.below hb) z8_len (zeros_bytes 8) hp
  have CQ := fun (many : Int) (nc : List Int) (hc : nc.length = 8) (hcb : ∀ x ∈ nc, 0 ≤ x ∧ x ≤ 255) (W : World) (hb : Below w.heap.size w W) (hp : zeros 8 ≠ (hmac k (loginB 80 s 1 nc)).take 8) => prove_bad A k n c s 1 many nc (zeros 8) W hn (hk.below hb) (by omega) hc hcb (hR.below hb) z8_len (zeros_bytes 8) hp
  have CN := fun (q : Int) (W : World) (hb : Below w.heap.size w W) => nonce_any A k n c s q W hn (hk.below hb) (by omega) (hR.below hb)
  have NL : ∀ q, ((hmac k (nonceB s q)).take 8).length = 8 := fun q => by rw [List.length_take, hmac_len]; rfl
  have NB : ∀ q, ∀ x ∈ (hmac k (nonceB s q)).take 8, 0 ≤ x ∧ x ≤ 255 := fun q x hx => hmac_bytes _ _ x (List.mem_of_mem_take hx)
  have vx0 : IntKind.i64.wrap x0 = x0 := IntWalk.i64_in _ (by omega)
  have BD := Lib.hid (build_door1 x0)
  have B8 := Lib.hid build_z8
  have HF := Lib.hid hf
  have RT := Lib.hid hR
  replace CH := Lib.hid CH
  replace CP := Lib.hid CP
  replace CQ := Lib.hid CQ
  replace CN := Lib.hid CN
  replace NL := Lib.hid NL
  replace NB := Lib.hid NB
  clear hn hk hf hA hR q0 q2 s0 s1
  go_enter Tryd.func5, Tryd.ntmps5
  go_wp2_with fail
  have K5 := Lib.hid (Blk.new w #[.int .u32 x0, .int .u32 x1] 44)
  have BB := Lib.hid (below_alloc1 w (.cells #[.int .u32 x0, .int .u32 x1] 44))
  generalize w.alloc (.cells #[.int .u32 x0, .int .u32 x1] 44) = w1 at *
  ((with_reducible refine (shown15 _ (RT.out.below BB.out)).mono ?_))
  rintro e w2 ⟨rfl, b2⟩
  replace K5 := Lib.hid (K5.out.below b2)
  replace BB := Lib.hid (bt BB.out b2)
  clear b2
  go_wp2_with fail
  ((with_reducible refine (HF.out _).mono ?_))
  rintro e w3 ⟨rfl, rfl⟩
  clear HF
  have c0 := K5.out.cell 0
  simp only [List.getElem?_toArray, List.getElem?_cons_zero] at c0
  have l5 := K5.out.lt
  go_wp2_with (first | ((with_reducible show wpList _ _ _ (⟨some 20, _, _, _, _, _⟩ :: _) _ _); refine wpList_build' rfl 46 _ rfl (doorV x0 false (zeros 8)) BD.out ?_) | ((with_reducible show wpList _ _ _ (⟨_, .alloc 46, _, _, _, none⟩ :: _) _ _); (with_reducible refine wpRow_alloc zeroT_door ?_ ?_ ?_); (· exact wanted0 rfl); (· rfl); refine Marker.mk ?_))
  refine Marker.in ?_
  clear c0
  have bel := below_alloc1 w2 (.cells (doorV 0 false (zeros 8)) 46)
  replace K5 := Lib.hid (K5.out.below bel)
  replace BB := Lib.hid (bt BB.out bel)
  have K9 := Lib.hid (Blk.new w2 (doorV 0 false (zeros 8)) 46)
  clear bel
  generalize w2.alloc (.cells (doorV 0 false (zeros 8)) 46) = w3 at *
  generalize w2.heap.size = g9 at *
  go_wp2_with ((with_reducible show wpList _ _ _ (⟨_, .store 46 _ _, _, _, _, none⟩ :: _) _ _); (with_reducible refine wpBlk_store (g := g9) (cs := doorV x0 false (zeros 8)) agg_door ?_ ?_ K9 ?_ ?_ ?_ ?_); (· exact wanted0 rfl); (· exact ⟨rfl, rfl, rfl⟩); (· exact doorV_size _ _ _ z8_len); (· exact doorV_size _ _ _ z8_len); (· exact doorV_one _ _ _); refine Marker.mk ?_)
  refine Marker.in ?_
  replace K5 := Lib.hid (K5.out.setRow_other g9 (doorV x0 false (zeros 8)) (by omega))
  replace K9 := Lib.hid (K9.out.setRow (doorV x0 false (zeros 8)))
  replace BB := Lib.hid (below_setRow (g := g9) BB.out (by omega) (doorV x0 false (zeros 8)))
  generalize w3.setRow g9 (doorV x0 false (zeros 8)) = w4 at *
  go_wp2_with fail
  go_loopw [10] (fun y wr => ∃ (i : Nat) (many : Int) (op : Bool) (nc : List Int), i ≤ 20 ∧ y = .int .i64 i ∧ 0 ≤ many ∧ many ≤ 4294967295 ∧ nc.length = 8 ∧ (∀ x ∈ nc, 0 ≤ x ∧ x ≤ 255) ∧ Blk wr w.heap.size #[.int .u32 x0, .int .u32 x1] 44 ∧ Blk wr g9 (doorV many op nc) 46 ∧ Below w.heap.size w wr) (fun y _ => 20 - (intOf y).toNat)
  case atStart => exact ⟨0, x0, false, zeros 8, by omega, rfl, by omega, by omega, z8_len, zeros_bytes 8, K5.out, K9.out, BB.out⟩
  case round =>
    clear K5 K9 BB
    obtain ⟨i, many, op, nc, hi, rfl, hm0, hm1, hnc, hncb, K5, K9, BB⟩ := hrel
    replace K5 := Lib.hid K5
    replace K9 := Lib.hid K9
    replace BB := Lib.hid BB
    replace hnc := Lib.hid hnc
    replace hncb := Lib.hid hncb
    have n9 : w.heap.size < g9 := by omega
    by_cases hlt : i < 20
    · have t1 : decide ((i : Int) < 20) = true := decide_eq_true (by omega)
      have DS := Lib.hid (doorV_size many op nc hnc.out)
      have D1 := Lib.hid (doorV_one many op nc)
      have C0 := Lib.hid (doorV_0 many op nc)
      have NE := Lib.hid (neq_door_self many op nc hnc.out)
      have l9 := K9.out.lt
      by_cases hsp : 4294967295 ≤ many
      · have CS := fun W : World => hello_spent A n c s many op nc W hnc.out hsp
        have t2 : decide (4294967295 ≤ many) = true := decide_eq_true hsp
        generalize hdv : doorV many op nc = dv at *
        replace CS := Lib.hid CS
        replace hdv := Lib.hid hdv
        go_wp2_with (first | ((with_reducible show wpList _ _ _ (⟨_, .load 46 _, _, _, _, none⟩ :: _) _ _); (with_reducible refine wpBlk_load (g := g9) agg_door ?_ ?_ K9 ?_ ?_); (· exact wanted0 rfl); (· exact ⟨rfl, rfl⟩); (· exact DS.out)) | ((with_reducible show wpList _ _ _ (⟨_, .alloc 46, _, _, _, none⟩ :: _) _ _); (with_reducible refine wpRow_alloc zeroT_door ?_ ?_ ?_); (· exact wanted0 rfl); (· rfl); refine Marker.mk ?_))
        refine Marker.in ?_
        have bel := below_alloc1 wr (.cells (doorV 0 false (zeros 8)) 46)
        replace K5 := Lib.hid (K5.out.below bel)
        replace K9 := Lib.hid (K9.out.below bel)
        replace BB := Lib.hid (bt BB.out bel)
        have K11 := Lib.hid (Blk.new wr (doorV 0 false (zeros 8)) 46)
        clear bel
        generalize wr.alloc (.cells (doorV 0 false (zeros 8)) 46) = w6 at *
        generalize wr.heap.size = g11 at *
        go_wp2_with ((with_reducible show wpList _ _ _ (⟨_, .store 46 _ _, _, _, _, none⟩ :: _) _ _); (with_reducible refine wpBlk_store (g := g11) (cs := dv) agg_door ?_ ?_ K11 ?_ ?_ ?_ ?_); (· exact wanted0 rfl); (· exact ⟨rfl, rfl, rfl⟩); (· exact doorV_size _ _ _ z8_len); (· exact DS.out); (· exact D1.out); refine Marker.mk ?_)
        refine Marker.in ?_
        replace K5 := Lib.hid (K5.out.setRow_other g11 dv (by omega))
        replace K9 := Lib.hid (K9.out.setRow_other g11 dv (by omega))
        replace K11 := Lib.hid (K11.out.setRow dv)
        replace BB := Lib.hid (below_setRow (g := g11) BB.out (by omega) dv)
        generalize w6.setRow g11 dv = w7 at *
        go_wp2_with ((with_reducible show wpList _ _ _ (⟨_, .load 46 _, _, _, _, none⟩ :: _) _ _); (with_reducible refine wpBlk_load (g := g9) agg_door ?_ ?_ K9 ?_ ?_); (· exact wanted0 rfl); (· exact ⟨rfl, rfl⟩); (· exact DS.out))
        ((with_reducible refine (CS.out _).mono ?_))
        rintro e w8 ⟨rfl, b8⟩
        replace K5 := Lib.hid (K5.out.below b8)
        replace K9 := Lib.hid (K9.out.below b8)
        replace K11 := Lib.hid (K11.out.below b8)
        replace BB := Lib.hid (bt BB.out b8)
        clear b8 CS
        have l11 := K11.out.lt
        go_wp2_with ((with_reducible show wpList _ _ _ (⟨_, .alloc 46, _, _, _, none⟩ :: _) _ _); (with_reducible refine wpRow_alloc zeroT_door ?_ ?_ ?_); (· exact wanted0 rfl); (· rfl); refine Marker.mk ?_)
        refine Marker.in ?_
        have bel := below_alloc1 w8 (.cells (doorV 0 false (zeros 8)) 46)
        replace K5 := Lib.hid (K5.out.below bel)
        replace K9 := Lib.hid (K9.out.below bel)
        replace K11 := Lib.hid (K11.out.below bel)
        replace BB := Lib.hid (bt BB.out bel)
        have K12 := Lib.hid (Blk.new w8 (doorV 0 false (zeros 8)) 46)
        clear bel
        generalize w8.alloc (.cells (doorV 0 false (zeros 8)) 46) = w9 at *
        generalize w8.heap.size = g12 at *
        go_wp2_with ((with_reducible show wpList _ _ _ (⟨_, .store 46 _ _, _, _, _, none⟩ :: _) _ _); (with_reducible refine wpBlk_store (g := g12) (cs := dv) agg_door ?_ ?_ K12 ?_ ?_ ?_ ?_); (· exact wanted0 rfl); (· exact ⟨rfl, rfl, rfl⟩); (· exact doorV_size _ _ _ z8_len); (· exact DS.out); (· exact D1.out); refine Marker.mk ?_)
        refine Marker.in ?_
        replace K5 := Lib.hid (K5.out.setRow_other g12 dv (by omega))
        replace K9 := Lib.hid (K9.out.setRow_other g12 dv (by omega))
        replace K11 := Lib.hid (K11.out.setRow_other g12 dv (by omega))
        replace K12 := Lib.hid (K12.out.setRow dv)
        replace BB := Lib.hid (below_setRow (g := g12) BB.out (by omega) dv)
        generalize w9.setRow g12 dv = w10 at *
        have c11 := K11.out.cell 0
        rw [C0.out] at c11
        have ne := NE.out
        go_wp2_with (first | ((with_reducible show wpList _ _ _ (⟨_, .load 46 _, _, _, _, none⟩ :: _) _ _); (with_reducible refine wpBlk_load (g := g12) agg_door ?_ ?_ K12 ?_ ?_); (· exact wanted0 rfl); (· exact ⟨rfl, rfl⟩); (· exact DS.out)) | ((with_reducible show wpList _ _ _ (⟨_, .load 46 _, _, _, _, none⟩ :: _) _ _); (with_reducible refine wpBlk_load (g := g11) agg_door ?_ ?_ K11 ?_ ?_); (· exact wanted0 rfl); (· exact ⟨rfl, rfl⟩); (· exact DS.out)))
        exact ⟨⟨i + 1, many, op, nc, by omega, by simp, hm0, hm1, hnc.out, hncb.out, K5.out, by rw [hdv.out]; exact K9.out, BB.out⟩, by simp [intOf]; omega⟩
      · obtain ⟨m1, hm⟩ : ∃ m, many + 1 = m := ⟨_, rfl⟩
        have im : IntKind.i64.wrap (many + 1) = m1 := by rw [hm]; exact IntWalk.i64_in _ (by omega)
        have hm2 : 0 ≤ m1 ∧ m1 ≤ 4294967295 := by omega
        have AL := NL.out m1
        have AB := NB.out m1
        have CO := fun (W : World) (hb : Below w.heap.size w W) => CH.out many op nc hnc.out (by omega) W hb
        have CM := fun (W : World) (hb : Below w.heap.size w W) => CN.out m1 W hb
        rw [hm] at CO
        generalize (hmac k (nonceB s m1)).take 8 = an at *
        have ES := Lib.hid (doorV_size m1 true an AL)
        have E1 := Lib.hid (doorV_one m1 true an)
        have F0 := Lib.hid (doorV_0 m1 true an)
        have F1 := Lib.hid (doorV_1 m1 true an)
        have FX := Lib.hid (doorV_nc m1 true an AL)
        have EQ := Lib.hid (neq_b8_self an AL)
        have CG := Lib.hid (fun W hb => CP.out m1 an AL AB W hb)
        have CB := Lib.hid (fun W hb => CQ.out m1 an AL AB W hb)
        have t2 : decide (4294967295 ≤ many) = false := decide_eq_false hsp
        generalize hdv : doorV many op nc = dv at *
        generalize hdr : doorV m1 true an = dr at *
        replace CO := Lib.hid CO
        replace CM := Lib.hid CM
        replace AL := Lib.hid AL
        replace AB := Lib.hid AB
        replace im := Lib.hid im
        replace hm := Lib.hid hm
        replace hdv := Lib.hid hdv
        replace hdr := Lib.hid hdr
        go_wp2_with (first | ((with_reducible show wpList _ _ _ (⟨_, .load 46 _, _, _, _, none⟩ :: _) _ _); (with_reducible refine wpBlk_load (g := g9) agg_door ?_ ?_ K9 ?_ ?_); (· exact wanted0 rfl); (· exact ⟨rfl, rfl⟩); (· exact DS.out)) | ((with_reducible show wpList _ _ _ (⟨_, .alloc 46, _, _, _, none⟩ :: _) _ _); (with_reducible refine wpRow_alloc zeroT_door ?_ ?_ ?_); (· exact wanted0 rfl); (· rfl); refine Marker.mk ?_))
        refine Marker.in ?_
        have bel := below_alloc1 wr (.cells (doorV 0 false (zeros 8)) 46)
        replace K5 := Lib.hid (K5.out.below bel)
        replace K9 := Lib.hid (K9.out.below bel)
        replace BB := Lib.hid (bt BB.out bel)
        have K11 := Lib.hid (Blk.new wr (doorV 0 false (zeros 8)) 46)
        clear bel
        generalize wr.alloc (.cells (doorV 0 false (zeros 8)) 46) = w6 at *
        generalize wr.heap.size = g11 at *
        go_wp2_with ((with_reducible show wpList _ _ _ (⟨_, .store 46 _ _, _, _, _, none⟩ :: _) _ _); (with_reducible refine wpBlk_store (g := g11) (cs := dv) agg_door ?_ ?_ K11 ?_ ?_ ?_ ?_); (· exact wanted0 rfl); (· exact ⟨rfl, rfl, rfl⟩); (· exact doorV_size _ _ _ z8_len); (· exact DS.out); (· exact D1.out); refine Marker.mk ?_)
        refine Marker.in ?_
        replace K5 := Lib.hid (K5.out.setRow_other g11 dv (by omega))
        replace K9 := Lib.hid (K9.out.setRow_other g11 dv (by omega))
        replace K11 := Lib.hid (K11.out.setRow dv)
        replace BB := Lib.hid (below_setRow (g := g11) BB.out (by omega) dv)
        generalize w6.setRow g11 dv = w7 at *
        go_wp2_with ((with_reducible show wpList _ _ _ (⟨_, .load 46 _, _, _, _, none⟩ :: _) _ _); (with_reducible refine wpBlk_load (g := g9) agg_door ?_ ?_ K9 ?_ ?_); (· exact wanted0 rfl); (· exact ⟨rfl, rfl⟩); (· exact DS.out))
        ((with_reducible refine (CO.out _ BB.out).mono ?_))
        rintro e w8 ⟨rfl, b8⟩
        replace K5 := Lib.hid (K5.out.below b8)
        replace K9 := Lib.hid (K9.out.below b8)
        replace K11 := Lib.hid (K11.out.below b8)
        replace BB := Lib.hid (bt BB.out b8)
        clear b8 CO
        have l11 := K11.out.lt
        go_wp2_with ((with_reducible show wpList _ _ _ (⟨_, .alloc 46, _, _, _, none⟩ :: _) _ _); (with_reducible refine wpRow_alloc zeroT_door ?_ ?_ ?_); (· exact wanted0 rfl); (· rfl); refine Marker.mk ?_)
        refine Marker.in ?_
        have bel := below_alloc1 w8 (.cells (doorV 0 false (zeros 8)) 46)
        replace K5 := Lib.hid (K5.out.below bel)
        replace K9 := Lib.hid (K9.out.below bel)
        replace K11 := Lib.hid (K11.out.below bel)
        replace BB := Lib.hid (bt BB.out bel)
        have K12 := Lib.hid (Blk.new w8 (doorV 0 false (zeros 8)) 46)
        clear bel
        generalize w8.alloc (.cells (doorV 0 false (zeros 8)) 46) = w9 at *
        generalize w8.heap.size = g12 at *
        go_wp2_with ((with_reducible show wpList _ _ _ (⟨_, .store 46 _ _, _, _, _, none⟩ :: _) _ _); (with_reducible refine wpBlk_store (g := g12) (cs := dr) agg_door ?_ ?_ K12 ?_ ?_ ?_ ?_); (· exact wanted0 rfl); (· exact ⟨rfl, rfl, rfl⟩); (· exact doorV_size _ _ _ z8_len); (· exact ES.out); (· exact E1.out); refine Marker.mk ?_)
        refine Marker.in ?_
        replace K5 := Lib.hid (K5.out.setRow_other g12 dr (by omega))
        replace K9 := Lib.hid (K9.out.setRow_other g12 dr (by omega))
        replace K11 := Lib.hid (K11.out.setRow_other g12 dr (by omega))
        replace K12 := Lib.hid (K12.out.setRow dr)
        replace BB := Lib.hid (below_setRow (g := g12) BB.out (by omega) dr)
        generalize w9.setRow g12 dr = w10 at *
        have c11 := K11.out.cell 0
        rw [C0.out] at c11
        go_wp2_with fail
        clear c11 t1 t2
        have k0 : ∀ W : World, Below w10.heap.size w10 W → W.cell? ⟨g12, 0, none⟩ = some (.int .i64 m1) := fun W h => ((K12.out.below h).cell 0).trans F0.out
        have k1 : ∀ W : World, Below w10.heap.size w10 W → W.cell? ⟨g12, 1, none⟩ = some (.bool true) := fun W h => ((K12.out.below h).cell 1).trans F1.out
        have k2 : ∀ W : World, Below w10.heap.size w10 W → W.cell? ⟨g11, 0, none⟩ = some (.int .i64 many) := fun W h => ((K11.out.below h).cell 0).trans C0.out
        refine wp_region_confR' belR_kept (by kernel_rfl) 25 (by kernel_rfl) (by simp) (by decide) (RCnt A n c s many m1 an g11 g12) (RCnt_keep _ _ _ _ _ _ _ _ _) ?_ ?_
        · simp only [ConfStepsR, List.take_succ_cons, List.take_zero, putAll, Act.put, List.setIfInBounds_toArray, List.set_cons_succ, List.set_cons_zero, and_true]
          refine ⟨?_, ?_, ?_, ?_, ?_, ?_, ?_, ?_, ?_, ?_, ?_, ?_, ?_, ?_, ?_, ?_, ?_, ?_, ?_, ?_, ?_, ?_, ?_, ?_, ?_⟩
          all_goals intro v w' hb hd
          · exact conf_valueR belR_kept (wanted0 rfl) (by simp [go_sem]) rfl
          · have d0 : v 0 = .int .i64 0 := hd.at 0 rfl
            exact conf_valueR belR_kept (wanted0 rfl) (by simp [go_sem, d0]) rfl
          · have d1 : v 1 = Value.bool false := hd.at 1 rfl
            exact conf_valueR belR_kept (wanted0 rfl) (by simp [go_sem, d1]) rfl
          · have d2 : v 2 = Value.bool false := hd.at 2 rfl
            exact conf_valueR belR_kept (wantedY rfl rfl (congrArg some d2)) (by simp [go_sem, d2]) rfl
          · have d2 : v 2 = Value.bool false := hd.at 2 rfl
            have d3 : v 3 = .pointer (some ⟨g12, 0, none⟩) := hd.at 3 rfl
            exact conf_valueR belR_kept (wantedY rfl rfl (congrArg some d2)) (by simp [go_sem, d2, d3, k0 w' hb]) rfl
          · have d2 : v 2 = Value.bool false := hd.at 2 rfl
            exact conf_valueR belR_kept (wantedY rfl rfl (congrArg some d2)) (by simp [go_sem, d2]) rfl
          · have d2 : v 2 = Value.bool false := hd.at 2 rfl
            have d5 : v 5 = .pointer (some ⟨g11, 0, none⟩) := hd.at 5 rfl
            exact conf_valueR belR_kept (wantedY rfl rfl (congrArg some d2)) (by simp [go_sem, d2, d5, k2 w' hb]) rfl
          · have d2 : v 2 = Value.bool false := hd.at 2 rfl
            have d6 : v 6 = .int .i64 many := hd.at 6 rfl
            exact conf_valueR belR_kept (wantedY rfl rfl (congrArg some d2)) (by simp [go_sem, d2, d6, im.out]) rfl
          · have d2 : v 2 = Value.bool false := hd.at 2 rfl
            have d4 : v 4 = .int .i64 m1 := hd.at 4 rfl
            have d7 : v 7 = .int .i64 m1 := hd.at 7 rfl
            exact conf_valueR belR_kept (wantedY rfl rfl (congrArg some d2)) (by simp [go_sem, d2, d4, d7]) rfl
          · have d2 : v 2 = Value.bool false := hd.at 2 rfl
            have d8 : v 8 = Value.bool false := hd.at 8 rfl
            exact conf_valueR belR_kept (wanted0 rfl) (by simp [go_sem, d2, d8]) rfl
          · have d9 : v 9 = Value.bool false := hd.at 9 rfl
            exact conf_valueR belR_kept (wanted0 rfl) (by simp [go_sem, d9]) rfl
          · have d10 : v 10 = Value.bool false := hd.at 10 rfl
            exact conf_valueR belR_kept (wantedY rfl rfl (congrArg some d10)) (by simp [go_sem, d10]) rfl
          · have d10 : v 10 = Value.bool false := hd.at 10 rfl
            have d11 : v 11 = .pointer (some ⟨g12, 1, none⟩) := hd.at 11 rfl
            exact conf_valueR belR_kept (wantedY rfl rfl (congrArg some d10)) (by simp [go_sem, d10, d11, k1 w' hb]) rfl
          · have d10 : v 10 = Value.bool false := hd.at 10 rfl
            have d12 : v 12 = .bool true := hd.at 12 rfl
            exact conf_valueR belR_kept (wantedY rfl rfl (congrArg some d10)) (by simp [go_sem, d10, d12]) rfl
          · have d10 : v 10 = Value.bool false := hd.at 10 rfl
            have d13 : v 13 = Value.bool false := hd.at 13 rfl
            exact conf_valueR belR_kept (wanted0 rfl) (by simp [go_sem, d10, d13]) rfl
          · have d14 : v 14 = Value.bool false := hd.at 14 rfl
            exact conf_valueR belR_kept (wanted0 rfl) (by simp [go_sem, d14]) rfl
          · have d15 : v 15 = Value.bool false := hd.at 15 rfl
            exact conf_valueR belR_kept (wantedY rfl rfl (congrArg some d15)) (by simp [go_sem, d15]) rfl
          · have d15 : v 15 = Value.bool false := hd.at 15 rfl
            have d16 : v 16 = .pointer (some ⟨g12, 2, none⟩) := hd.at 16 rfl
            exact conf_midR belR_kept (g := g12) (off := 2) (cs := u8V an) agg_b8 (wantedY rfl rfl (congrArg some d15)) ⟨rfl, by simp [go_sem, d16]⟩ (K12.out.below hb) (by rw [u8V_size, AL.out]) FX.out rfl
          · have d15 : v 15 = Value.bool false := hd.at 15 rfl
            exact conf_valueR belR_kept (wantedY rfl rfl (congrArg some d15)) (by simp [go_sem, d15]) rfl
          · have d15 : v 15 = Value.bool false := hd.at 15 rfl
            exact conf_valueR belR_kept (wantedY rfl rfl (congrArg some d15)) (by simp [go_sem, d15]) rfl
          · have d15 : v 15 = Value.bool false := hd.at 15 rfl
            exact conf_valueR belR_kept (wantedY rfl rfl (congrArg some d15)) (by simp [go_sem, d15]) rfl
          · have d15 : v 15 = Value.bool false := hd.at 15 rfl
            have d20 : v 20 = .pointer (some ⟨g12, 0, none⟩) := hd.at 20 rfl
            exact conf_valueR belR_kept (wantedY rfl rfl (congrArg some d15)) (by simp [go_sem, d15, d20, k0 w' hb]) rfl
          · have d15 : v 15 = Value.bool false := hd.at 15 rfl
            have d18 : v 18 = .slice A n c := hd.at 18 rfl
            have d19 : v 19 = .int .i64 s := hd.at 19 rfl
            have d21 : v 21 = .int .i64 m1 := hd.at 21 rfl
            refine conf_callR (f := 18) (args := #[v 18, v 19, v 21]) (wantedY rfl rfl (congrArg some d15)) (by simp [go_sem]) ?_
            rw [d18, d19, d21]
            exact (CM.out w' (bt BB.out hb)).mono fun e w'' ⟨he, hb'⟩ => ⟨_, he, hb', rfl⟩
          · have d15 : v 15 = Value.bool false := hd.at 15 rfl
            have d17 : v 17 = .agg (u8V an) := hd.at 17 rfl
            have d22 : v 22 = .agg (u8V an) := hd.at 22 rfl
            exact conf_valueR belR_kept (wantedY rfl rfl (congrArg some d15)) (by simp [go_sem, d15, d17, d22, EQ.out]) rfl
          · have d15 : v 15 = Value.bool false := hd.at 15 rfl
            have d23 : v 23 = Value.bool false := hd.at 23 rfl
            exact conf_valueR belR_kept (wanted0 rfl) (by simp [go_sem, d15, d23]) rfl
        · intro v w' hb hr
          have d24 : v 24 = Value.bool false := hr 24 (by omega)
          simp only [List.take_succ_cons, List.take_zero, List.drop_succ_cons, List.drop_zero, putAll, Act.put, List.setIfInBounds_toArray, List.set_cons_succ, List.set_cons_zero]
          rw [d24]
          replace K5 := Lib.hid (K5.out.below hb)
          replace K9 := Lib.hid (K9.out.below hb)
          replace K11 := Lib.hid (K11.out.below hb)
          replace K12 := Lib.hid (K12.out.below hb)
          replace BB := Lib.hid (bt BB.out hb)
          clear hr hb d24 k0 k1 k2
          have l12 := K12.out.lt
          go_wp2_with (first | ((with_reducible show wpList _ _ _ (⟨_, .load 46 _, _, _, _, none⟩ :: _) _ _); (with_reducible refine wpBlk_load (g := g12) agg_door ?_ ?_ K12 ?_ ?_); (· exact wanted0 rfl); (· exact ⟨rfl, rfl⟩); (· exact ES.out)) | ((with_reducible show wpList _ _ _ (⟨_, .store 46 _ _, _, _, _, none⟩ :: _) _ _); (with_reducible refine wpBlk_store (g := g9) (cs := dr) agg_door ?_ ?_ K9 ?_ ?_ ?_ ?_); (· exact wanted0 rfl); (· exact ⟨rfl, rfl, rfl⟩); (· exact DS.out); (· exact ES.out); (· exact E1.out); refine Marker.mk ?_))
          refine Marker.in ?_
          replace K5 := Lib.hid (K5.out.setRow_other g9 dr (by omega))
          replace K11 := Lib.hid (K11.out.setRow_other g9 dr (by omega))
          replace K12 := Lib.hid (K12.out.setRow_other g9 dr (by omega))
          replace K9 := Lib.hid (K9.out.setRow dr)
          replace BB := Lib.hid (below_setRow (g := g9) BB.out (by omega) dr)
          generalize w'.setRow g9 dr = w11 at *
          have c1 := K5.out.cell 1
          simp only [List.getElem?_toArray, List.getElem?_cons_zero, List.getElem?_cons_succ] at c1
          cases hbit : (bits .and .u32 (x1 / 2 ^ i) 1 == 1)
          · go_wp2_with fail
            exact ⟨⟨i + 1, m1, true, an, by omega, by simp, hm2.1, hm2.2, AL.out, AB.out, K5.out, by rw [hdr.out]; exact K9.out, BB.out⟩, by simp [intOf]; omega⟩
          · by_cases hp : zeros 8 = (hmac k (loginB 80 s 1 an)).take 8
            · replace CG := Lib.hid fun W hb => CG.out W hb hp
              clear CB hp
              go_wp2_with (first | ((with_reducible show wpList _ _ _ (⟨_, .load 46 _, _, _, _, none⟩ :: _) _ _); (with_reducible refine wpBlk_load (g := g9) agg_door ?_ ?_ K9 ?_ ?_); (· exact wanted0 rfl); (· exact ⟨rfl, rfl⟩); (· exact ES.out)) | ((with_reducible show wpList _ _ _ (⟨some 79, _, _, _, _, _⟩ :: _) _ _); refine wpList_build' rfl 29 _ rfl (u8V (zeros 8)) B8.out ?_))
              clear c1 hbit
              ((with_reducible refine (CG.out _ BB.out).mono ?_))
              rintro e w12 ⟨rfl, b12⟩
              replace K5 := Lib.hid (K5.out.below b12)
              replace K9 := Lib.hid (K9.out.below b12)
              replace K11 := Lib.hid (K11.out.below b12)
              replace K12 := Lib.hid (K12.out.below b12)
              replace BB := Lib.hid (bt BB.out b12)
              clear b12 CG
              go_wp2_with ((with_reducible show wpList _ _ _ (⟨_, .store 46 _ _, _, _, _, none⟩ :: _) _ _); (with_reducible refine wpBlk_store (g := g9) (cs := doorV m1 false (zeros 8)) agg_door ?_ ?_ K9 ?_ ?_ ?_ ?_); (· exact wanted0 rfl); (· exact ⟨rfl, rfl, rfl⟩); (· exact ES.out); (· exact doorV_size _ _ _ z8_len); (· exact doorV_one _ _ _); refine Marker.mk ?_)
              refine Marker.in ?_
              replace K5 := Lib.hid (K5.out.setRow_other g9 (doorV m1 false (zeros 8)) (by omega))
              replace K11 := Lib.hid (K11.out.setRow_other g9 (doorV m1 false (zeros 8)) (by omega))
              replace K12 := Lib.hid (K12.out.setRow_other g9 (doorV m1 false (zeros 8)) (by omega))
              replace K9 := Lib.hid (K9.out.setRow (doorV m1 false (zeros 8)))
              replace BB := Lib.hid (below_setRow (g := g9) BB.out (by omega) (doorV m1 false (zeros 8)))
              generalize w12.setRow g9 (doorV m1 false (zeros 8)) = w13 at *
              have c9 := K9.out.cell 0
              have c91 := K9.out.cell 1
              have c12 := K12.out.cell 0
              rw [doorV_0] at c9
              rw [doorV_1] at c91
              rw [F0.out] at c12
              have EZ := neq_b8_zero
              go_wp2_with (first | ((with_reducible show wpList _ _ _ (⟨_, .load 29 _, _, _, _, some _⟩ :: _) _ _); (with_reducible refine wpBlk_mid (g := g9) (off := 2) (cs := u8V (zeros 8)) agg_b8 ?_ ?_ K9 ?_ ?_ ?_); (· exact wantedY rfl rfl rfl); (· exact ⟨rfl, rfl⟩); (· rw [u8V_size, zeros_len]); (· exact doorV_nc _ _ _ z8_len)))
              exact ⟨⟨i + 1, m1, false, zeros 8, by omega, by simp, hm2.1, hm2.2, z8_len, zeros_bytes 8, K5.out, K9.out, BB.out⟩, by simp [intOf]; omega⟩
            · replace CB := Lib.hid fun W hb => CB.out W hb hp
              clear CG hp
              go_wp2_with (first | ((with_reducible show wpList _ _ _ (⟨_, .load 46 _, _, _, _, none⟩ :: _) _ _); (with_reducible refine wpBlk_load (g := g9) agg_door ?_ ?_ K9 ?_ ?_); (· exact wanted0 rfl); (· exact ⟨rfl, rfl⟩); (· exact ES.out)) | ((with_reducible show wpList _ _ _ (⟨some 79, _, _, _, _, _⟩ :: _) _ _); refine wpList_build' rfl 29 _ rfl (u8V (zeros 8)) B8.out ?_))
              clear c1 hbit
              ((with_reducible refine (CB.out _ BB.out).mono ?_))
              rintro e w12 ⟨rfl, b12⟩
              replace K5 := Lib.hid (K5.out.below b12)
              replace K9 := Lib.hid (K9.out.below b12)
              replace K11 := Lib.hid (K11.out.below b12)
              replace K12 := Lib.hid (K12.out.below b12)
              replace BB := Lib.hid (bt BB.out b12)
              clear b12 CB
              go_wp2_with ((with_reducible show wpList _ _ _ (⟨_, .store 46 _ _, _, _, _, none⟩ :: _) _ _); (with_reducible refine wpBlk_store (g := g9) (cs := doorV m1 false (zeros 8)) agg_door ?_ ?_ K9 ?_ ?_ ?_ ?_); (· exact wanted0 rfl); (· exact ⟨rfl, rfl, rfl⟩); (· exact ES.out); (· exact doorV_size _ _ _ z8_len); (· exact doorV_one _ _ _); refine Marker.mk ?_)
              refine Marker.in ?_
              replace K5 := Lib.hid (K5.out.setRow_other g9 (doorV m1 false (zeros 8)) (by omega))
              replace K11 := Lib.hid (K11.out.setRow_other g9 (doorV m1 false (zeros 8)) (by omega))
              replace K12 := Lib.hid (K12.out.setRow_other g9 (doorV m1 false (zeros 8)) (by omega))
              replace K9 := Lib.hid (K9.out.setRow (doorV m1 false (zeros 8)))
              replace BB := Lib.hid (below_setRow (g := g9) BB.out (by omega) (doorV m1 false (zeros 8)))
              generalize w12.setRow g9 (doorV m1 false (zeros 8)) = w13 at *
              have c9 := K9.out.cell 0
              have c91 := K9.out.cell 1
              have c12 := K12.out.cell 0
              rw [doorV_0] at c9
              rw [doorV_1] at c91
              rw [F0.out] at c12
              have EZ := neq_b8_zero
              go_wp2_with (first | ((with_reducible show wpList _ _ _ (⟨_, .load 29 _, _, _, _, some _⟩ :: _) _ _); (with_reducible refine wpBlk_mid (g := g9) (off := 2) (cs := u8V (zeros 8)) agg_b8 ?_ ?_ K9 ?_ ?_ ?_); (· exact wantedY rfl rfl rfl); (· exact ⟨rfl, rfl⟩); (· rw [u8V_size, zeros_len]); (· exact doorV_nc _ _ _ z8_len)))
              exact ⟨⟨i + 1, m1, false, zeros 8, by omega, by simp, hm2.1, hm2.2, z8_len, zeros_bytes 8, K5.out, K9.out, BB.out⟩, by simp [intOf]; omega⟩
    · obtain rfl : i = 20 := by omega
      have t1 : decide (((20 : Nat) : Int) < 20) = false := rfl
      rw [show ((20 : Nat) : Int) = 20 from rfl]
      go_wp2_with fail
      go_ret
      exact ⟨rfl, BB.out⟩
end Go.Proofs.YtapednkmefbldaaDoor
