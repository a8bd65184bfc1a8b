/- seal.login, Nonce, Proof, Key, Close. -/
import Derived.Test.YtapednkmefbldaaDoorSealA
namespace Go.Proofs.YtapednkmefbldaaDoor
open Go.RowKit

theorem Row.below {w w' : World} {A : Option Addr} {xs : List Int} (h : Row w A xs) (hb : Below w.heap.size w w') : Row w' A xs := row_below h hb
def loginB (y s r : Int) (nc : List Int) : List Int := [[y], be (s % 256) 1, be (r % 256) 1, nc].flatten
def nonceB (s q : Int) : List Int := [[78], be (s % 256) 1, be (q % 4294967296) 4].flatten
def closeB (s : Int) (b : List Int) : List Int := [[77], be (s % 256) 1, b].flatten
theorem loginB_len (y s r : Int) (nc : List Int) (h : nc.length = 8) : (loginB y s r nc).length = 11 := by simp [loginB, be_len, h]
theorem nonceB_len (s q : Int) : (nonceB s q).length = 6 := by simp [nonceB, be_len]
theorem closeB_len (s : Int) (b : List Int) : (closeB s b).length = 2 + b.length := by simp [closeB, be_len]; omega
theorem one_row {w : World} {g : Nat} {y : Int} {T : TypeId} (h : Blk w g #[.int .u8 y] T) (hy : 0 ≤ y ∧ y ≤ 255) : Row w (some ⟨g, 0, none⟩) [y] := row_block' h rfl (by intro x hx; simp at hx; subst hx; exact hy)
def RLog (y s r : Int) (nc : List Int) (g7 : Nat) (i : Nat) (v : Value) (w : World) : Prop := match i with
  | 0 => v = .int .u8 y
  | 1 => ∃ g, v = .slice (some ⟨g, 0, none⟩) 1 1 ∧ Row w (some ⟨g, 0, none⟩) [y]
  | 2 => v = .int .i64 s
  | 3 => ∃ g, v = .slice (some ⟨g, 0, none⟩) 1 1 ∧ Row w (some ⟨g, 0, none⟩) (be (s % 256) 1)
  | 4 => v = .int .i64 r
  | 5 => ∃ g, v = .slice (some ⟨g, 0, none⟩) 1 1 ∧ Row w (some ⟨g, 0, none⟩) (be (r % 256) 1)
  | 6 => v = .slice (some ⟨g7, 0, none⟩) 8 8
  | 7 => ∃ g cs, v = .slice (some ⟨g, 0, none⟩) 4 4 ∧ Blk w g cs 23 ∧ Parts w cs [[y], be (s % 256) 1, be (r % 256) 1, nc]
  | _ => ∃ A d, v = .slice A 11 d ∧ Row w A (loginB y s r nc)
theorem RLog_keep (y s r : Int) (nc : List Int) (g7 : Nat) : ∀ i v w w', i < 10 → RLog y s r nc g7 i v w → BelR w w' → RLog y s r nc g7 i v w' := by
  intro i v w w' hi h hb
  unfold RLog at *
  split at h
  case h_2 | h_4 | h_6 => obtain ⟨g, e, k⟩ := h; exact ⟨g, e, k.below hb⟩
  case h_8 => obtain ⟨g, cs, e, k, p⟩ := h; exact ⟨g, cs, e, k.below hb, p.below hb⟩
  case h_9 => obtain ⟨g, d, e, k⟩ := h; exact ⟨g, d, e, k.below hb⟩
  all_goals exact h
set_option maxRecDepth 100000 in
set_option maxHeartbeats 800000 in
theorem login_any (y s r : Int) (nc : List Int) (hl : nc.length = 8) (hb : ∀ x ∈ nc, 0 ≤ x ∧ x ≤ 255) (hy : 0 ≤ y ∧ y ≤ 255) (w : World) :
    Calls Tryd.prog 40 #[.int .u8 y, .int .i64 s, .int .i64 r, .agg (u8V nc)] w fun e w' => (∃ A d, e = .returned (.slice A 11 d) ∧ Row w' A (loginB y s r nc)) ∧ Below w.heap.size w w' := by
  have HL := Lib.hid hl
  have HB := Lib.hid hb
  have HY := Lib.hid hy
  clear hl hb hy
  go_enter Tryd.func40, Tryd.ntmps40
  go_wp2_with fail
  have K7 := Lib.hid (Blk.new w (u8V nc) 29)
  have BB := Lib.hid (below_alloc1 w (.cells (u8V nc) 29))
  generalize w.alloc (.cells (u8V nc) 29) = w1 at *
  refine wp_region_confR' belR_kept (by kernel_rfl) 10 (by kernel_rfl) (by simp) (by decide) (RLog y s r nc w.heap.size) (RLog_keep y s r nc w.heap.size) ?_ ?_
  · simp only [ConfStepsR, List.take_succ_cons, List.take_zero, putAll, Act.put, List.setIfInBounds_toArray, List.set_cons_succ, List.set_cons_zero, and_true]
    refine ⟨?_, ?_, ?_, ?_, ?_, ?_, ?_, ?_, ?_, ?_⟩
    all_goals intro v w' hb hd
    · exact conf_valueR belR_kept (wanted0 rfl) (by simp [go_sem]) rfl
    · have d0 : v 0 = .int .u8 y := hd.at 0 rfl
      exact conf_makeR (v := .slice (some ⟨w'.heap.size, 0, none⟩) 1 1) (w' := w'.alloc (.cells #[.int .u8 y] 5)) (wanted0 rfl) (by simp [go_sem, d0]) (below_alloc1 w' _) ⟨_, rfl, one_row (Blk.new w' _ _) HY.out⟩
    · exact conf_valueR belR_kept (wanted0 rfl) (by simp [go_sem]) rfl
    · have d2 : v 2 = .int .i64 s := hd.at 2 rfl
      refine conf_callR (f := 38) (args := #[v 2, .int .i64 1]) (wanted0 rfl) (by simp [go_sem]) ?_
      rw [d2]
      exact (as_one s w').mono fun e w'' ⟨⟨g, he, r⟩, hb'⟩ => ⟨_, he, hb', g, rfl, r⟩
    · exact conf_valueR belR_kept (wanted0 rfl) (by simp [go_sem]) rfl
    · have d4 : v 4 = .int .i64 r := hd.at 4 rfl
      refine conf_callR (f := 38) (args := #[v 4, .int .i64 1]) (wanted0 rfl) (by simp [go_sem]) ?_
      rw [d4]
      exact (as_one r w').mono fun e w'' ⟨⟨g, he, r⟩, hb'⟩ => ⟨_, he, hb', g, rfl, r⟩
    · exact conf_valueR belR_kept (wanted0 rfl) (by simp [go_sem]) rfl
    · obtain ⟨g1, d1, r1⟩ : ∃ g, v 1 = .slice (some ⟨g, 0, none⟩) 1 1 ∧ Row w' (some ⟨g, 0, none⟩) [y] := hd.at 1 rfl
      obtain ⟨g3, d3, r3⟩ : ∃ g, v 3 = .slice (some ⟨g, 0, none⟩) 1 1 ∧ Row w' (some ⟨g, 0, none⟩) (be (s % 256) 1) := hd.at 3 rfl
      obtain ⟨g5, d5, r5⟩ : ∃ g, v 5 = .slice (some ⟨g, 0, none⟩) 1 1 ∧ Row w' (some ⟨g, 0, none⟩) (be (r % 256) 1) := hd.at 5 rfl
      have d6 : v 6 = .slice (some ⟨w.heap.size, 0, none⟩) 8 8 := hd.at 6 rfl
      have b1 := below_alloc1 w' (.cells #[.slice (some ⟨g1, 0, none⟩) 1 1, .slice (some ⟨g3, 0, none⟩) 1 1, .slice (some ⟨g5, 0, none⟩) 1 1, .slice (some ⟨w.heap.size, 0, none⟩) 8 8] 23)
      exact conf_makeR (v := .slice (some ⟨w'.heap.size, 0, none⟩) 4 4) (w' := w'.alloc (.cells #[.slice (some ⟨g1, 0, none⟩) 1 1, .slice (some ⟨g3, 0, none⟩) 1 1, .slice (some ⟨g5, 0, none⟩) 1 1, .slice (some ⟨w.heap.size, 0, none⟩) 8 8] 23)) (wanted0 rfl) (by simp [go_sem, d1, d3, d5, d6]) b1 ⟨_, _, rfl, Blk.new _ _ _, parts_four rfl (be_len _ _) (be_len _ _) HL.out (r1.below b1) (r3.below b1) (r5.below b1) ((u8V_row (K7.out.below hb) HB.out).below b1)⟩
    · obtain ⟨g, cs, d7, k7, p7⟩ : ∃ g cs, v 7 = .slice (some ⟨g, 0, none⟩) 4 4 ∧ Blk w' g cs 23 ∧ Parts w' cs [[y], be (s % 256) 1, be (r % 256) 1, nc] := hd.at 7 rfl
      refine conf_callR (f := 37) (args := #[v 7]) (wanted0 rfl) (by simp [go_sem]) ?_
      rw [d7]
      have hln : [[y], be (s % 256) 1, be (r % 256) 1, nc].flatten.length = 11 := loginB_len y s r nc HL.out
      refine (sjoin_any g 4 4 cs _ w' rfl k7 p7 (by rw [hln]; omega) (by omega)).mono fun e w'' ⟨⟨A, d, he, o⟩, hb'⟩ => ⟨_, he, hb', A, d, by rw [hln], o.row⟩
    · obtain ⟨A, d, d8, r8⟩ : ∃ A d, v 8 = .slice A 11 d ∧ Row w' A (loginB y s r nc) := hd.at 8 rfl
      exact conf_valueR belR_kept (wanted0 rfl) (by simp [go_sem, d8]) ⟨A, d, rfl, r8⟩
  · intro v w' hb hr
    obtain ⟨A, d, d9, r9⟩ : ∃ A d, v 9 = .slice A 11 d ∧ Row w' A (loginB y s r nc) := hr 9 (by omega)
    simp only [List.take_succ_cons, List.take_zero, List.drop_succ_cons, List.drop_zero, putAll, Act.put, List.setIfInBounds_toArray, List.set_cons_succ, List.set_cons_zero]
    rw [d9]
    have b2 := bt BB.out hb
    clear hr hb d9
    go_wp2_with fail
    go_ret
    exact ⟨⟨_, _, rfl, r9⟩, b2⟩

set_option maxRecDepth 100000 in
set_option maxHeartbeats 800000 in
theorem nonce_any (A : Option Addr) (k : List Int) (n c : Nat) (s q : Int) (w : World) (hn : k.length = n) (hk : Row w A k) (hl : n ≤ 10000000) (hR : Roots w) :
    Calls Tryd.prog 18 #[.slice A n c, .int .i64 s, .int .i64 q] w fun e w' => e = .returned (.agg (u8V ((hmac k (nonceB s q)).take 8))) ∧ Below w.heap.size w w' := by
  have HN := Lib.hid hn
  have HK := Lib.hid hk
  have RT := Lib.hid hR
  have BB := Lib.hid (Below.refl w.heap.size w)
  have NL := nonceB_len s q
  have CT := fun (B : Option Addr) (d : Nat) (W : World) (hb : Row W B (nonceB s q)) (hw : Below w.heap.size w W) => tag_any A B k (nonceB s q) n 6 c d W hn NL (hk.below hw) hb hl (by omega) (hR.below hw)
  have T8 : ((hmac k (nonceB s q)).take 8).length = 8 := by rw [List.length_take, hmac_len]; rfl
  have CJ := fun (g c : Nat) (B C D : Option Addr) (e f h : Nat) (W : World) (hk : Blk W g #[.slice B 1 e, .slice C 1 f, .slice D 4 h] 23) (r1 : Row W B [78]) (r2 : Row W C (be (s % 256) 1)) (r3 : Row W D (be (q % 4294967296) 4)) =>
    sjoin_any g 3 c _ _ W rfl hk (parts_three rfl (be_len _ _) (be_len _ _) r1 r2 r3) (by show (nonceB s q).length ≤ _; omega) (by omega)
  have e1 : [[78], be (s % 256) 1, be (q % 4294967296) 4].flatten = nonceB s q := rfl
  simp only [e1, NL] at CJ
  have CA := fun W => as_one s W
  have CB := fun W => as_four q W
  generalize (hmac k (nonceB s q)).take 8 = ans at *
  generalize nonceB s q = nb at *
  generalize be (s % 256) 1 = bs at *
  generalize be (q % 4294967296) 4 = bq at *
  replace CT := Lib.hid CT
  replace CJ := Lib.hid CJ
  replace CA := Lib.hid CA
  replace CB := Lib.hid CB
  replace T8 := Lib.hid T8
  clear hn hk hR NL e1
  go_enter Tryd.func18, Tryd.ntmps18
  go_wp2_with ((with_reducible show wpList _ _ _ (⟨_, .alloc 29, _, _, _, none⟩ :: _) _ _); (with_reducible refine wpRow_alloc zeroT_b8 ?_ ?_ ?_); (· exact wanted0 rfl); (· rfl); refine Marker.mk ?_)
  refine Marker.in ?_
  have bel := below_alloc1 w (.cells (u8V (zeros 8)) 29)
  replace BB := Lib.hid (bt BB.out bel)
  have K6 := Lib.hid (Blk.new w (u8V (zeros 8)) 29)
  clear bel
  generalize w.alloc (.cells (u8V (zeros 8)) 29) = w1 at *
  go_wp2_with (go_at_call 38; refine Marker.mk ?_)
  refine Marker.in ?_
  have l6 := K6.out.lt
  have bel := below_alloc1 w1 (.cells #[.int .u8 78] 5)
  replace K6 := Lib.hid (K6.out.below bel)
  replace BB := Lib.hid (bt BB.out bel)
  have K8 := Lib.hid (Blk.new w1 #[.int .u8 78] 5)
  clear bel
  generalize w1.alloc (.cells #[.int .u8 78] 5) = w2 at *
  generalize w1.heap.size = g8 at *
  ((with_reducible refine (CA.out _).mono ?_))
  rintro e w3 ⟨⟨g3, rfl, r3⟩, b3⟩
  replace K6 := Lib.hid (K6.out.below b3)
  replace K8 := Lib.hid (K8.out.below b3)
  replace BB := Lib.hid (bt BB.out b3)
  replace r3 := Lib.hid r3
  clear b3
  go_wp2_with fail
  ((with_reducible refine (CB.out _).mono ?_))
  rintro e w4 ⟨⟨g4, rfl, r4⟩, b4⟩
  replace K6 := Lib.hid (K6.out.below b4)
  replace K8 := Lib.hid (K8.out.below b4)
  replace r3 := Lib.hid (r3.out.below b4)
  replace BB := Lib.hid (bt BB.out b4)
  replace r4 := Lib.hid r4
  clear b4
  go_wp2_with (go_at_call 37; refine Marker.mk ?_)
  refine Marker.in ?_
  have bel := below_alloc1 w4 (.cells #[.slice (some ⟨g8, 0, none⟩) 1 1, .slice (some ⟨g3, 0, none⟩) 1 1, .slice (some ⟨g4, 0, none⟩) 4 4] 23)
  replace K6 := Lib.hid (K6.out.below bel)
  replace K8 := Lib.hid (K8.out.below bel)
  replace r3 := Lib.hid (r3.out.below bel)
  replace r4 := Lib.hid (r4.out.below bel)
  replace BB := Lib.hid (bt BB.out bel)
  have K13 := Lib.hid (Blk.new w4 #[.slice (some ⟨g8, 0, none⟩) 1 1, .slice (some ⟨g3, 0, none⟩) 1 1, .slice (some ⟨g4, 0, none⟩) 4 4] 23)
  clear bel
  generalize w4.alloc (.cells #[.slice (some ⟨g8, 0, none⟩) 1 1, .slice (some ⟨g3, 0, none⟩) 1 1, .slice (some ⟨g4, 0, none⟩) 4 4] 23) = w5 at *
  generalize w4.heap.size = g13 at *
  ((with_reducible refine (CJ.out g13 _ _ _ _ _ _ _ _ K13.out (one_row K8.out (by omega)) r3.out r4.out).mono ?_))
  rintro e w6 ⟨⟨A6, d6, rfl, o6⟩, b6⟩
  replace K6 := Lib.hid (K6.out.below b6)
  replace BB := Lib.hid (bt BB.out b6)
  have r6 := Lib.hid o6.row
  clear b6 o6 r3 r4 K13 K8 CJ CA CB
  go_wp2_with fail
  ((with_reducible refine (CT.out _ _ _ r6.out BB.out).mono ?_))
  rintro e w7 ⟨rfl, b7⟩
  replace K6 := Lib.hid (K6.out.below b7)
  replace BB := Lib.hid (bt BB.out b7)
  clear b7 r6 CT
  go_wp2_with ((with_reducible show wpList _ _ _ (⟨_, .store 29 _ _, _, _, _, none⟩ :: _) _ _); (with_reducible refine wpBlk_store (g := w.heap.size) (cs := u8V ans) agg_b8 ?_ ?_ K6 ?_ ?_ ?_ ?_); (· exact wanted0 rfl); (· exact ⟨rfl, rfl, rfl⟩); (· rw [u8V_size, zeros_len]); (· rw [u8V_size, T8.out]); (· exact u8V_one _))
  refine bodyPost_ret (v := .agg (u8V ans)) (results_blk agg_b8 rfl _ _ (w.heap.size) _ rfl (K6.out.setRow _) (by rw [u8V_size, T8.out])) rfl ⟨rfl, below_setRow BB.out (by omega) _⟩

set_option maxRecDepth 100000 in
set_option maxHeartbeats 800000 in
theorem proof_any (A : Option Addr) (k nc : List Int) (n c : Nat) (s r : Int) (w : World) (hn : k.length = n) (hk : Row w A k) (hl : n ≤ 10000000) (hc : nc.length = 8) (hb : ∀ x ∈ nc, 0 ≤ x ∧ x ≤ 255) (hR : Roots w) :
    Calls Tryd.prog 15 #[.slice A n c, .int .i64 s, .int .i64 r, .agg (u8V nc)] w fun e w' => e = .returned (.agg (u8V ((hmac k (loginB 80 s r nc)).take 8))) ∧ Below w.heap.size w w' := by
  have HC := Lib.hid hc
  have BB := Lib.hid (Below.refl w.heap.size w)
  have NL := loginB_len 80 s r nc hc
  have CT := fun (B : Option Addr) (d : Nat) (W : World) (hb : Row W B (loginB 80 s r nc)) (hw : Below w.heap.size w W) => tag_any A B k (loginB 80 s r nc) n 11 c d W hn NL (hk.below hw) hb hl (by omega) (hR.below hw)
  have TL : ((hmac k (loginB 80 s r nc)).take 8).length = 8 := by rw [List.length_take, hmac_len]; rfl
  have CL := fun W => login_any 80 s r nc hc hb (by omega) W
  generalize (hmac k (loginB 80 s r nc)).take 8 = ans at *
  generalize loginB 80 s r nc = nb at *
  replace CT := Lib.hid CT
  replace CL := Lib.hid CL
  replace TL := Lib.hid TL
  clear hn hk hR NL hc hb
  go_enter Tryd.func15, Tryd.ntmps15
  go_wp2_with ((with_reducible show wpList _ _ _ (⟨_, .alloc 29, _, _, _, none⟩ :: _) _ _); (with_reducible refine wpRow_alloc zeroT_b8 ?_ ?_ ?_); (· exact wanted0 rfl); (· rfl); refine Marker.mk ?_)
  refine Marker.in ?_
  have K7 := Lib.hid ((Blk.new w (u8V nc) 29).alloc (.cells (u8V (zeros 8)) 29))
  have K8 := Lib.hid (Blk.new' (w.alloc (.cells (u8V nc) 29)) (u8V (zeros 8)) 29 (g := w.heap.size + 1) (by simp))
  replace BB := Lib.hid (below_alloc2 w (.cells (u8V nc) 29) (.cells (u8V (zeros 8)) 29))
  generalize (w.alloc (.cells (u8V nc) 29)).alloc (.cells (u8V (zeros 8)) 29) = w1 at *
  go_wp2_with ((with_reducible show wpList _ _ _ (⟨_, .load 29 _, _, _, _, none⟩ :: _) _ _); (with_reducible refine wpBlk_load (g := w.heap.size) agg_b8 ?_ ?_ K7 ?_ ?_); (· exact wanted0 rfl); (· exact ⟨rfl, rfl⟩); (· rw [u8V_size, HC.out]))
  ((with_reducible refine (CL.out _).mono ?_))
  rintro e w2 ⟨⟨A2, d2, rfl, r2⟩, b2⟩
  replace K8 := Lib.hid (K8.out.below b2)
  replace BB := Lib.hid (bt BB.out b2)
  replace r2 := Lib.hid r2
  clear b2 CL K7
  go_wp2_with fail
  ((with_reducible refine (CT.out _ _ _ r2.out BB.out).mono ?_))
  rintro e w3 ⟨rfl, b3⟩
  replace K8 := Lib.hid (K8.out.below b3)
  replace BB := Lib.hid (bt BB.out b3)
  clear b3 r2 CT
  go_wp2_with ((with_reducible show wpList _ _ _ (⟨_, .store 29 _ _, _, _, _, none⟩ :: _) _ _); (with_reducible refine wpBlk_store (g := w.heap.size + 1) (cs := u8V ans) agg_b8 ?_ ?_ K8 ?_ ?_ ?_ ?_); (· exact wanted0 rfl); (· exact ⟨rfl, rfl, rfl⟩); (· rw [u8V_size, zeros_len]); (· rw [u8V_size, TL.out]); (· exact u8V_one _))
  refine bodyPost_ret (v := .agg (u8V ans)) (results_blk agg_b8 rfl _ _ (w.heap.size + 1) _ rfl (K8.out.setRow _) (by rw [u8V_size, TL.out])) rfl ⟨rfl, below_setRow BB.out (by omega) _⟩

set_option maxRecDepth 100000 in
set_option maxHeartbeats 800000 in
theorem key_any (A : Option Addr) (k nc : List Int) (n c : Nat) (s r : Int) (w : World) (hn : k.length = n) (hk : Row w A k) (hl : n ≤ 10000000) (hc : nc.length = 8) (hb : ∀ x ∈ nc, 0 ≤ x ∧ x ≤ 255) (hR : Roots w) :
    Calls Tryd.prog 16 #[.slice A n c, .int .i64 s, .int .i64 r, .agg (u8V nc)] w fun e w' => e = .returned (.agg (u8V (hmac k (loginB 75 s r nc)))) ∧ Below w.heap.size w w' := by
  have HC := Lib.hid hc
  have BB := Lib.hid (Below.refl w.heap.size w)
  have NL := loginB_len 75 s r nc hc
  have CT := fun (B : Option Addr) (d : Nat) (W : World) (hb : Row W B (loginB 75 s r nc)) (hw : Below w.heap.size w W) => of_any A B k (loginB 75 s r nc) n 11 c d W hn NL (hk.below hw) hb hl (by omega) (hR.below hw)
  have TL : (hmac k (loginB 75 s r nc)).length = 32 := by exact hmac_len _ _
  have CL := fun W => login_any 75 s r nc hc hb (by omega) W
  generalize hmac k (loginB 75 s r nc) = ans at *
  generalize loginB 75 s r nc = nb at *
  replace CT := Lib.hid CT
  replace CL := Lib.hid CL
  replace TL := Lib.hid TL
  clear hn hk hR NL hc hb
  go_enter Tryd.func16, Tryd.ntmps16
  go_wp2_with ((with_reducible show wpList _ _ _ (⟨_, .alloc 22, _, _, _, none⟩ :: _) _ _); (with_reducible refine wpRow_alloc zeroT_b32 ?_ ?_ ?_); (· exact wanted0 rfl); (· rfl); refine Marker.mk ?_)
  refine Marker.in ?_
  have K7 := Lib.hid ((Blk.new w (u8V nc) 29).alloc (.cells (u8V (zeros 32)) 22))
  have K8 := Lib.hid (Blk.new' (w.alloc (.cells (u8V nc) 29)) (u8V (zeros 32)) 22 (g := w.heap.size + 1) (by simp))
  replace BB := Lib.hid (below_alloc2 w (.cells (u8V nc) 29) (.cells (u8V (zeros 32)) 22))
  generalize (w.alloc (.cells (u8V nc) 29)).alloc (.cells (u8V (zeros 32)) 22) = w1 at *
  go_wp2_with ((with_reducible show wpList _ _ _ (⟨_, .load 29 _, _, _, _, none⟩ :: _) _ _); (with_reducible refine wpBlk_load (g := w.heap.size) agg_b8 ?_ ?_ K7 ?_ ?_); (· exact wanted0 rfl); (· exact ⟨rfl, rfl⟩); (· rw [u8V_size, HC.out]))
  ((with_reducible refine (CL.out _).mono ?_))
  rintro e w2 ⟨⟨A2, d2, rfl, r2⟩, b2⟩
  replace K8 := Lib.hid (K8.out.below b2)
  replace BB := Lib.hid (bt BB.out b2)
  replace r2 := Lib.hid r2
  clear b2 CL K7
  go_wp2_with fail
  ((with_reducible refine (CT.out _ _ _ r2.out BB.out).mono ?_))
  rintro e w3 ⟨rfl, b3⟩
  replace K8 := Lib.hid (K8.out.below b3)
  replace BB := Lib.hid (bt BB.out b3)
  clear b3 r2 CT
  go_wp2_with ((with_reducible show wpList _ _ _ (⟨_, .store 22 _ _, _, _, _, none⟩ :: _) _ _); (with_reducible refine wpBlk_store (g := w.heap.size + 1) (cs := u8V ans) agg_b32 ?_ ?_ K8 ?_ ?_ ?_ ?_); (· exact wanted0 rfl); (· exact ⟨rfl, rfl, rfl⟩); (· rw [u8V_size, zeros_len]); (· rw [u8V_size, TL.out]); (· exact u8V_one _))
  refine bodyPost_ret (v := .agg (u8V ans)) (results_blk agg_b32 rfl _ _ (w.heap.size + 1) _ rfl (K8.out.setRow _) (by rw [u8V_size, TL.out])) rfl ⟨rfl, below_setRow BB.out (by omega) _⟩
end Go.Proofs.YtapednkmefbldaaDoor
