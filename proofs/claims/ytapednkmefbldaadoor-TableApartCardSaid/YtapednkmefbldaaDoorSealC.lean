/- seal.Close, seal.Open. -/
import Derived.Test.YtapednkmefbldaaDoorSeal
namespace Go.Proofs.YtapednkmefbldaaDoor
open Go.RowKit

def tagOf (key : List Int) (s : Int) (b : List Int) : List Int := (hmac key (closeB s b)).take 8
/-- s[:m] of a slice -/
theorem run_front (A : Option Addr) (n c m : Nat) (hm : m ≤ c) (W : World) : (Instr.sliceAt 23 (.slice A n c) none (some (.int .i64 (m : Int))) none).run Tryd.prog W = .ok (.slice A m c) W := by
  have h2 : (m : Int) ≤ (c : Int) := by omega
  have h0 : (0 : Int) ≤ (m : Int) := by omega
  simp [go_sem, h2, h0]
theorem run_op_front {w : World} (o : Oper) {a : Act} (x y : Operand) (ho : o.op = .slice 23 x none (some y) none) (A : Option Addr) (n c m : Nat) (hx : a.eval x = .slice A n c) (hy : a.eval y = .int .i64 (m : Int)) (hm : m ≤ c) :
    (execOp a.eval o).run Tryd.prog w = .ok (.value (.slice A m c)) w := by
  have h := run_front A n c m hm w
  unfold execOp
  simp only [ho, Option.map_some, Option.map_none, hx, hy, Sem.run_bind, h, Sem.run_pure, Result.andThen_ok]
theorem tagOf_len (key : List Int) (s : Int) (b : List Int) : (tagOf key s b).length = 8 := by unfold tagOf; rw [List.length_take, hmac_len]; rfl
theorem tagOf_bytes (key : List Int) (s : Int) (b : List Int) : ∀ x ∈ tagOf key s b, 0 ≤ x ∧ x ≤ 255 := fun x hx => hmac_bytes _ _ x (List.mem_of_mem_take hx)
theorem own_mono {w : World} {b c : Nat} {A : Option Addr} {cap : Nat} {xs : List Int} (h : Own w c A cap xs) (hb : b ≤ c) : Own w b A cap xs := by
  obtain ⟨⟨h1, h2⟩, h3⟩ := h
  refine ⟨⟨h1, ?_⟩, h3⟩
  rcases h2 with h2 | ⟨g, cap', cur, hv, hg, hh⟩
  · exact .inl h2
  · exact .inr ⟨g, cap', cur, hv, Nat.le_trans hb hg, hh⟩
def RClose (s : Int) (b tg : List Int) (B : Option Addr) (m d g3 G : Nat) (i : Nat) (v : Value) (w : World) : Prop := match i with
  | 0 => v = .slice (some ⟨g3, 0, none⟩) 32 32
  | 1 => ∃ g, v = .slice (some ⟨g, 0, none⟩) 1 1 ∧ Row w (some ⟨g, 0, none⟩) [77]
  | 2 => v = .int .i64 s
  | 3 => ∃ g, v = .slice (some ⟨g, 0, none⟩) 1 1 ∧ Row w (some ⟨g, 0, none⟩) (be (s % 256) 1)
  | 4 => v = .slice B m d
  | 5 => ∃ g cs, v = .slice (some ⟨g, 0, none⟩) 3 3 ∧ Blk w g cs 23 ∧ Parts w cs [[77], be (s % 256) 1, b]
  | 6 => ∃ A d', v = .slice A (2 + m) d' ∧ Row w A (closeB s b)
  | 7 => v = .agg (u8V tg)
  | _ => ∃ g, v = .pointer (some ⟨g, 0, none⟩) ∧ G ≤ g ∧ Blk w g (u8V (zeros 8)) 29
theorem RClose_keep (s : Int) (b tg : List Int) (B : Option Addr) (m d g3 G : Nat) : ∀ i v w w', i < 9 → RClose s b tg B m d g3 G i v w → BelR w w' → RClose s b tg B m d g3 G i v w' := by
  intro i v w w' hi h hb
  unfold RClose at *
  split at h
  case h_2 | h_4 => obtain ⟨g, e, k⟩ := h; exact ⟨g, e, k.below hb⟩
  case h_6 => obtain ⟨g, cs, e, k, p⟩ := h; exact ⟨g, cs, e, k.below hb, p.below hb⟩
  case h_7 => obtain ⟨g, d, e, k⟩ := h; exact ⟨g, d, e, k.below hb⟩
  case h_9 => obtain ⟨g, e, l, k⟩ := h; exact ⟨g, e, l, k.below hb⟩
  all_goals exact h
set_option maxRecDepth 100000 in
set_option maxHeartbeats 800000 in
theorem close_any (key b : List Int) (B : Option Addr) (m d : Nat) (s : Int) (w : World) (hl : key.length = 32) (hkb : ∀ x ∈ key, 0 ≤ x ∧ x ≤ 255) (hm : b.length = m) (hr : Row w B b) (hm2 : m ≤ 1000000) (hR : Roots w) :
    Calls Tryd.prog 12 #[.agg (u8V key), .int .i64 s, .slice B m d] w fun e w' => (∃ A d', e = .returned (.slice A (m + 8) d') ∧ Own w' w.heap.size A d' (b ++ tagOf key s b)) ∧ Below w.heap.size w w' := by
  have HL := Lib.hid hl
  have HKB := Lib.hid hkb
  have HM := Lib.hid hm
  have HR := Lib.hid hr
  have RT := Lib.hid hR
  have CT := fun (g : Nat) (D : Option Addr) (e : Nat) (W : World) (hk : Row W (some ⟨g, 0, none⟩) key) (hb : Row W D (closeB s b)) (hW : Roots W) => tag_any (some ⟨g, 0, none⟩) D key (closeB s b) 32 (2 + m) 32 e W hl (by rw [closeB_len, hm]) hk hb (by omega) (by omega) hW
  have TL := tagOf_len key s b
  have TB := tagOf_bytes key s b
  have e0 : (hmac key (closeB s b)).take 8 = tagOf key s b := rfl
  simp only [e0] at CT
  generalize tagOf key s b = tg at *
  replace CT := Lib.hid CT
  replace TL := Lib.hid TL
  replace TB := Lib.hid TB
  clear hl hkb hm hr hR e0
  go_enter Tryd.func12, Tryd.ntmps12
  go_wp2_with fail
  have K3 := Lib.hid (Blk.new w (u8V key) 22)
  have BB := Lib.hid (below_alloc1 w (.cells (u8V key) 22))
  generalize w.alloc (.cells (u8V key) 22) = w1 at *
  have W1 := BB.out.size
  refine wp_region_confR' belR_kept (by kernel_rfl) 9 (by kernel_rfl) (by simp) (by decide) (RClose s b tg B m d w.heap.size w1.heap.size) (RClose_keep _ _ _ _ _ _ _ _) ?_ ?_
  · simp only [ConfStepsR, List.take_succ_cons, List.take_zero, putAll, Act.put, List.setIfInBounds_toArray, List.set_cons_succ, List.set_cons_zero, and_true]
    refine ⟨?_, ?_, ?_, ?_, ?_, ?_, ?_, ?_, ?_⟩
    all_goals intro v w' hb hd
    · exact conf_valueR belR_kept (wanted0 rfl) (by simp [go_sem]) rfl
    · exact conf_makeR (v := .slice (some ⟨w'.heap.size, 0, none⟩) 1 1) (w' := w'.alloc (.cells #[.int .u8 77] 5)) (wanted0 rfl) (by simp [go_sem]) (below_alloc1 w' _) ⟨_, rfl, one_row (Blk.new w' _ _) (by omega)⟩
    · exact conf_valueR belR_kept (wanted0 rfl) (by simp [go_sem]) rfl
    · have d2 : v 2 = .int .i64 s := hd.at 2 rfl
      refine conf_callR (f := 38) (args := #[v 2, .int .i64 1]) (wanted0 rfl) (by simp [go_sem]) ?_
      rw [d2]
      exact (as_one s w').mono fun e w'' ⟨⟨g, he, r⟩, hb'⟩ => ⟨_, he, hb', g, rfl, r⟩
    · exact conf_valueR belR_kept (wanted0 rfl) (by simp [go_sem]) rfl
    · obtain ⟨g1, d1, r1⟩ : ∃ g, v 1 = .slice (some ⟨g, 0, none⟩) 1 1 ∧ Row w' (some ⟨g, 0, none⟩) [77] := hd.at 1 rfl
      obtain ⟨g3, d3, r3⟩ : ∃ g, v 3 = .slice (some ⟨g, 0, none⟩) 1 1 ∧ Row w' (some ⟨g, 0, none⟩) (be (s % 256) 1) := hd.at 3 rfl
      have d4 : v 4 = .slice B m d := hd.at 4 rfl
      have b1 := below_alloc1 w' (.cells #[.slice (some ⟨g1, 0, none⟩) 1 1, .slice (some ⟨g3, 0, none⟩) 1 1, .slice B m d] 23)
      exact conf_makeR (v := .slice (some ⟨w'.heap.size, 0, none⟩) 3 3) (w' := w'.alloc (.cells #[.slice (some ⟨g1, 0, none⟩) 1 1, .slice (some ⟨g3, 0, none⟩) 1 1, .slice B m d] 23)) (wanted0 rfl) (by simp [go_sem, d1, d3, d4]) b1 ⟨_, _, rfl, Blk.new _ _ _, parts_three rfl (be_len _ _) HM.out (r1.below b1) (r3.below b1) ((HR.out.below (bt BB.out hb)).below b1)⟩
    · obtain ⟨g, cs, d5, k5, p5⟩ : ∃ g cs, v 5 = .slice (some ⟨g, 0, none⟩) 3 3 ∧ Blk w' g cs 23 ∧ Parts w' cs [[77], be (s % 256) 1, b] := hd.at 5 rfl
      refine conf_callR (f := 37) (args := #[v 5]) (wanted0 rfl) (by simp [go_sem]) ?_
      rw [d5]
      have hln : [[77], be (s % 256) 1, b].flatten.length = 2 + m := by rw [← HM.out]; exact closeB_len s b
      refine (sjoin_any g 3 3 cs _ w' rfl k5 p5 (by rw [hln]; omega) (by omega)).mono fun e w'' ⟨⟨A, d, he, o⟩, hb'⟩ => ⟨_, he, hb', A, d, by rw [hln], o.row⟩
    · have d0 : v 0 = .slice (some ⟨w.heap.size, 0, none⟩) 32 32 := hd.at 0 rfl
      obtain ⟨A, d', d6, r6⟩ : ∃ A d', v 6 = .slice A (2 + m) d' ∧ Row w' A (closeB s b) := hd.at 6 rfl
      refine conf_callR (f := 13) (args := #[v 0, v 6]) (wanted0 rfl) (by simp [go_sem]) ?_
      rw [d0, d6]
      exact (CT.out w.heap.size A d' w' (u8V_row (K3.out.below hb) HKB.out) r6 (RT.out.below (bt BB.out hb))).mono fun e w'' ⟨he, hb'⟩ => ⟨_, he, hb', rfl⟩
    · exact conf_makeR (wanted0 rfl) (zeroT_b8 _ _ _ rfl) (below_alloc1 w' _) ⟨_, rfl, Below.size hb, Blk.new _ _ _⟩
  · intro v w' hb hr
    obtain ⟨g7, d8, hg7, K7⟩ : ∃ g, v 8 = .pointer (some ⟨g, 0, none⟩) ∧ w1.heap.size ≤ g ∧ Blk w' g (u8V (zeros 8)) 29 := hr 8 (by omega)
    have d7 : v 7 = .agg (u8V tg) := hr 7 (by omega)
    simp only [List.take_succ_cons, List.take_zero, List.drop_succ_cons, List.drop_zero, putAll, Act.put, List.setIfInBounds_toArray, List.set_cons_succ, List.set_cons_zero]
    rw [d8, d7]
    replace BB := Lib.hid (bt BB.out hb)
    replace K7 := Lib.hid K7
    clear hr hb d8 d7 K3 CT
    go_wp2_with ((with_reducible show wpList _ _ _ (⟨_, .store 29 _ _, _, _, _, none⟩ :: _) _ _); (with_reducible refine wpBlk_store (g := g7) (cs := u8V tg) agg_b8 ?_ ?_ K7 ?_ ?_ ?_ ?_); (· exact wanted0 rfl); (· exact ⟨rfl, rfl, rfl⟩); (· rw [u8V_size, zeros_len]); (· rw [u8V_size, TL.out]); (· exact u8V_one _); refine Marker.mk ?_)
    refine Marker.in ?_
    replace K7 := Lib.hid (K7.out.setRow (u8V tg))
    replace BB := Lib.hid (below_setRow (g := g7) BB.out (by omega) (u8V tg))
    generalize w'.setRow g7 (u8V tg) = w2 at *
    go_wp2_with (go_at_call 37; refine Marker.mk ?_)
    refine Marker.in ?_
    have rb := HR.out.below BB.out
    have rt := u8V_row K7.out TB.out
    have b1 := below_alloc1 w2 (.cells #[.slice B m d, .slice (some ⟨g7, 0, none⟩) 8 8] 23)
    have hln : [b, tg].flatten = b ++ tg := by simp
    have hln2 : (b ++ tg).length = m + 8 := by rw [List.length_append, HM.out, TL.out]
    have CJ := sjoin_any w2.heap.size 2 2 #[.slice B m d, .slice (some ⟨g7, 0, none⟩) 8 8] [b, tg] (w2.alloc (.cells #[.slice B m d, .slice (some ⟨g7, 0, none⟩) 8 8] 23)) rfl (Blk.new _ _ _) (parts_two HM.out TL.out (rb.below b1) (rt.below b1)) (by rw [hln, hln2]; omega) (by omega)
    rw [hln, hln2] at CJ
    replace BB := Lib.hid (bt BB.out b1)
    replace CJ := Lib.hid CJ
    clear rb rt b1 hln hln2 K7
    have l2 := BB.out.size
    ((with_reducible refine CJ.out.mono ?_))
    rintro e w3 ⟨⟨A3, d3, rfl, o3⟩, b3⟩
    replace BB := Lib.hid (bt BB.out b3)
    replace o3 := Lib.hid (own_mono o3 (show w.heap.size ≤ _ by omega))
    clear b3 CJ
    go_wp2_with fail
    go_ret
    exact ⟨⟨_, _, rfl, o3.out⟩, BB.out⟩

set_option maxRecDepth 100000 in
set_option maxHeartbeats 800000 in
theorem open_short (key : List Int) (A : Option Addr) (n c : Nat) (s : Int) (w : World) (hn : n < 8) :
    Calls Tryd.prog 14 #[.agg (u8V key), .int .i64 s, .slice A n c] w fun e w' => e = .returned (.tuple #[.slice none 0 0, .int .i64 14]) ∧ Below w.heap.size w w' := by
  have t1 : decide ((n : Int) - 8 < 0) = true := decide_eq_true (by omega)
  go_enter Tryd.func14, Tryd.ntmps14
  go_wp2_with fail
  have BB := Lib.hid (below_alloc1 w (.cells (u8V key) 22))
  generalize w.alloc (.cells (u8V key) 22) = w1 at *
  go_quiet (fail)
  go_wp2_with fail
  go_ret2
  exact ⟨rfl, below_drewN BB.out _⟩
def ROpen (key : List Int) (s : Int) (tg : List Int) (same : Bool) (A : Option Addr) (m c : Nat) (bd : List Int) (i : Nat) (v : Value) (w : World) : Prop := match i with
  | 0 => v = .int .i64 (m : Int)
  | 1 => v = .bool false
  | 2 => v = .bool false
  | 3 => v = .slice A (m + 8) c
  | 4 => v = .agg (u8V key)
  | 5 => v = .int .i64 s
  | 6 => v = .slice A (m + 8) c
  | 7 => v = .int .i64 (m : Int)
  | 8 => v = .slice A m c
  | 9 => ∃ A' d', v = .slice A' (m + 8) d' ∧ Row w A' (bd ++ tg)
  | 10 => v = .bool same
  | _ => v = .bool (!same)
theorem ROpen_keep (key : List Int) (s : Int) (tg : List Int) (same : Bool) (A : Option Addr) (m c : Nat) (bd : List Int) : ∀ i v w w', i < 13 → ROpen key s tg same A m c bd i v w → BelR w w' → ROpen key s tg same A m c bd i v w' := by
  intro i v w w' hi h hb
  unfold ROpen at *
  split at h
  case h_10 => obtain ⟨g, d, e, k⟩ := h; exact ⟨g, d, e, k.below hb⟩
  all_goals exact h
set_option maxRecDepth 100000 in
set_option maxHeartbeats 800000 in
theorem open_bad (key xs : List Int) (A : Option Addr) (m c : Nat) (s : Int) (w : World) (hl : key.length = 32) (hkb : ∀ x ∈ key, 0 ≤ x ∧ x ≤ 255) (hm : xs.length = m + 8) (hr : Row w A xs) (hm2 : m ≤ 1000000) (hc : m + 8 ≤ c) (hR : Roots w) (hx : xs ≠ xs.take m ++ tagOf key s (xs.take m)) :
    Calls Tryd.prog 14 #[.agg (u8V key), .int .i64 s, .slice A (m + 8) c] w fun e w' => e = .returned (.tuple #[.slice none 0 0, .int .i64 14]) ∧ Below w.heap.size w w' := by
  have HL := Lib.hid hl
  have HKB := Lib.hid hkb
  have HM := Lib.hid hm
  have HR := Lib.hid hr
  have RT := Lib.hid hR
  have BL : (xs.take m).length = m := by rw [List.length_take]; omega
  have RB := fun (W : World) (hb : Below w.heap.size w W) => row_take (hr.below hb) m
  have TL := tagOf_len key s (xs.take m)
  have CC := fun (W : World) (hb : Below w.heap.size w W) => close_any key (xs.take m) A m c s W hl hkb BL (RB W hb) hm2 (hR.below hb)
  have SM : decide (xs = xs.take m ++ tagOf key s (xs.take m)) = false := decide_eq_false hx
  generalize tagOf key s (xs.take m) = tg at *
  generalize xs.take m = bd at *
  have CL2 : (bd ++ tg).length = m + 8 := by rw [List.length_append, BL, TL]
  replace CC := Lib.hid CC
  replace BL := Lib.hid BL
  replace TL := Lib.hid TL
  replace CL2 := Lib.hid CL2
  replace RB := Lib.hid RB
  replace SM := Lib.hid SM
  clear hl hkb hm hr hR hx
  have i0 : IntKind.i64.wrap (m : Int) = m := IntWalk.i64_in _ (by omega)
  have t0 : decide ((m : Int) < 0) = false := decide_eq_false (by omega)
  go_enter Tryd.func14, Tryd.ntmps14
  go_wp2_with fail
  have K3 := Lib.hid (Blk.new w (u8V key) 22)
  have BB := Lib.hid (below_alloc1 w (.cells (u8V key) 22))
  generalize w.alloc (.cells (u8V key) 22) = w1 at *
  refine wp_region_confR' belR_kept (by kernel_rfl) 13 (by kernel_rfl) (by simp) (by decide) (ROpen key s tg false A m c bd) (ROpen_keep _ _ _ _ _ _ _ _) ?_ ?_
  · simp only [ConfStepsR, List.take_succ_cons, List.take_zero, putAll, Act.put, List.setIfInBounds_toArray, List.set_cons_succ, List.set_cons_zero, and_true]
    refine ⟨?_, ?_, ?_, ?_, ?_, ?_, ?_, ?_, ?_, ?_, ?_, ?_, ?_⟩
    all_goals intro v w' hb hd
    · exact conf_valueR belR_kept (wanted0 rfl) (by simp [go_sem]) rfl
    · have d0 : v 0 = .int .i64 (m : Int) := hd.at 0 rfl
      exact conf_valueR belR_kept (wanted0 rfl) (by simp [go_sem, d0, t0]) rfl
    · have d1 : v 1 = .bool false := hd.at 1 rfl
      exact conf_valueR belR_kept (wanted0 rfl) (by simp [go_sem, d1]) rfl
    · have g2 : v 2 = .bool false := hd.at 2 rfl
      exact conf_valueR belR_kept (wantedY rfl rfl (congrArg some g2)) (by simp [go_sem]) rfl
    · have g2 : v 2 = .bool false := hd.at 2 rfl
      exact conf_loadR belR_kept (g := w.heap.size) agg_b32 (wantedY rfl rfl (congrArg some g2)) ⟨rfl, by simp [go_sem]⟩ (K3.out.below hb) (by rw [u8V_size, HL.out]) rfl
    · have g2 : v 2 = .bool false := hd.at 2 rfl
      exact conf_valueR belR_kept (wantedY rfl rfl (congrArg some g2)) (by simp [go_sem]) rfl
    · have g2 : v 2 = .bool false := hd.at 2 rfl
      exact conf_valueR belR_kept (wantedY rfl rfl (congrArg some g2)) (by simp [go_sem]) rfl
    · have g2 : v 2 = .bool false := hd.at 2 rfl
      exact conf_valueR belR_kept (wantedY rfl rfl (congrArg some g2)) (by simp [go_sem]) rfl
    · have g2 : v 2 = .bool false := hd.at 2 rfl
      have d6 : v 6 = .slice A (m + 8) c := hd.at 6 rfl
      have d7 : v 7 = .int .i64 (m : Int) := hd.at 7 rfl
      exact conf_valueR belR_kept (wantedY rfl rfl (congrArg some g2)) (run_op_front _ (.tmp 18) (.tmp 19) rfl A (m + 8) c m (by simp [go_sem, d6]) (by simp [go_sem, d7]) (by omega)) rfl
    · have g2 : v 2 = .bool false := hd.at 2 rfl
      have d4 : v 4 = .agg (u8V key) := hd.at 4 rfl
      have d5 : v 5 = .int .i64 s := hd.at 5 rfl
      have d8 : v 8 = .slice A m c := hd.at 8 rfl
      refine conf_callR (f := 12) (args := #[v 4, v 5, v 8]) (wantedY rfl rfl (congrArg some g2)) (by simp [go_sem]) ?_
      rw [d4, d5, d8]
      exact (CC.out w' (bt BB.out hb)).mono fun e w'' ⟨⟨A', d', he, o⟩, hb'⟩ => ⟨_, he, hb', A', d', rfl, o.row⟩
    · have g2 : v 2 = .bool false := hd.at 2 rfl
      have d3 : v 3 = .slice A (m + 8) c := hd.at 3 rfl
      obtain ⟨A', d', d9, r9⟩ : ∃ A' d', v 9 = .slice A' (m + 8) d' ∧ Row w' A' (bd ++ tg) := hd.at 9 rfl
      refine conf_callR (f := 39) (args := #[v 3, v 9]) (wantedY rfl rfl (congrArg some g2)) (by simp [go_sem]) ?_
      rw [d3, d9]
      refine (same_any A A' xs (bd ++ tg) (m + 8) (m + 8) c d' w' HM.out CL2.out (HR.out.below (bt BB.out hb)) r9 (by omega) (by omega)).mono fun e w'' ⟨he, hw⟩ => ⟨_, he, by subst hw; exact Below.refl _ _, ?_⟩
      rw [SM.out]; rfl
    · have g2 : v 2 = .bool false := hd.at 2 rfl
      have d10 : v 10 = .bool false := hd.at 10 rfl
      exact conf_valueR belR_kept (wantedY rfl rfl (congrArg some g2)) (by simp [go_sem, d10]) rfl
    · have d2 : v 2 = .bool false := hd.at 2 rfl
      have d11 : v 11 = .bool (!false) := hd.at 11 rfl
      exact conf_valueR belR_kept (wanted0 rfl) (by simp [go_sem, d2, d11]) rfl
  · intro v w' hb hr
    have d12 : v 12 = .bool (!false) := hr 12 (by omega)
    simp only [List.take_succ_cons, List.take_zero, List.drop_succ_cons, List.drop_zero, putAll, Act.put, List.setIfInBounds_toArray, List.set_cons_succ, List.set_cons_zero]
    rw [d12]
    replace BB := Lib.hid (bt BB.out hb)
    clear hr hb d12 K3 CC
    go_wp2_with fail
    go_ret2
    exact ⟨rfl, BB.out⟩
set_option maxRecDepth 100000 in
set_option maxHeartbeats 800000 in
theorem open_good (key xs : List Int) (A : Option Addr) (m c : Nat) (s : Int) (w : World) (hl : key.length = 32) (hkb : ∀ x ∈ key, 0 ≤ x ∧ x ≤ 255) (hm : xs.length = m + 8) (hr : Row w A xs) (hm2 : m ≤ 1000000) (hc : m + 8 ≤ c) (hR : Roots w) (hx : xs = xs.take m ++ tagOf key s (xs.take m)) :
    Calls Tryd.prog 14 #[.agg (u8V key), .int .i64 s, .slice A (m + 8) c] w fun e w' => (∃ A' d', e = .returned (.tuple #[.slice A' m d', .int .i64 0]) ∧ Own w' w.heap.size A' d' (xs.take m)) ∧ Below w.heap.size w w' := by
  have HL := Lib.hid hl
  have HKB := Lib.hid hkb
  have HM := Lib.hid hm
  have HR := Lib.hid hr
  have RT := Lib.hid hR
  have BL : (xs.take m).length = m := by rw [List.length_take]; omega
  have RB := fun (W : World) (hb : Below w.heap.size w W) => row_take (hr.below hb) m
  have TL := tagOf_len key s (xs.take m)
  have CC := fun (W : World) (hb : Below w.heap.size w W) => close_any key (xs.take m) A m c s W hl hkb BL (RB W hb) hm2 (hR.below hb)
  have SM : decide (xs = xs.take m ++ tagOf key s (xs.take m)) = true := decide_eq_true hx
  generalize tagOf key s (xs.take m) = tg at *
  generalize xs.take m = bd at *
  have CL2 : (bd ++ tg).length = m + 8 := by rw [List.length_append, BL, TL]
  replace CC := Lib.hid CC
  replace BL := Lib.hid BL
  replace TL := Lib.hid TL
  replace CL2 := Lib.hid CL2
  replace RB := Lib.hid RB
  replace SM := Lib.hid SM
  clear hl hkb hm hr hR hx
  have i0 : IntKind.i64.wrap (m : Int) = m := IntWalk.i64_in _ (by omega)
  have t0 : decide ((m : Int) < 0) = false := decide_eq_false (by omega)
  go_enter Tryd.func14, Tryd.ntmps14
  go_wp2_with fail
  have K3 := Lib.hid (Blk.new w (u8V key) 22)
  have BB := Lib.hid (below_alloc1 w (.cells (u8V key) 22))
  generalize w.alloc (.cells (u8V key) 22) = w1 at *
  refine wp_region_confR' belR_kept (by kernel_rfl) 13 (by kernel_rfl) (by simp) (by decide) (ROpen key s tg true A m c bd) (ROpen_keep _ _ _ _ _ _ _ _) ?_ ?_
  · simp only [ConfStepsR, List.take_succ_cons, List.take_zero, putAll, Act.put, List.setIfInBounds_toArray, List.set_cons_succ, List.set_cons_zero, and_true]
    refine ⟨?_, ?_, ?_, ?_, ?_, ?_, ?_, ?_, ?_, ?_, ?_, ?_, ?_⟩
    all_goals intro v w' hb hd
    · exact conf_valueR belR_kept (wanted0 rfl) (by simp [go_sem]) rfl
    · have d0 : v 0 = .int .i64 (m : Int) := hd.at 0 rfl
      exact conf_valueR belR_kept (wanted0 rfl) (by simp [go_sem, d0, t0]) rfl
    · have d1 : v 1 = .bool false := hd.at 1 rfl
      exact conf_valueR belR_kept (wanted0 rfl) (by simp [go_sem, d1]) rfl
    · have g2 : v 2 = .bool false := hd.at 2 rfl
      exact conf_valueR belR_kept (wantedY rfl rfl (congrArg some g2)) (by simp [go_sem]) rfl
    · have g2 : v 2 = .bool false := hd.at 2 rfl
      exact conf_loadR belR_kept (g := w.heap.size) agg_b32 (wantedY rfl rfl (congrArg some g2)) ⟨rfl, by simp [go_sem]⟩ (K3.out.below hb) (by rw [u8V_size, HL.out]) rfl
    · have g2 : v 2 = .bool false := hd.at 2 rfl
      exact conf_valueR belR_kept (wantedY rfl rfl (congrArg some g2)) (by simp [go_sem]) rfl
    · have g2 : v 2 = .bool false := hd.at 2 rfl
      exact conf_valueR belR_kept (wantedY rfl rfl (congrArg some g2)) (by simp [go_sem]) rfl
    · have g2 : v 2 = .bool false := hd.at 2 rfl
      exact conf_valueR belR_kept (wantedY rfl rfl (congrArg some g2)) (by simp [go_sem]) rfl
    · have g2 : v 2 = .bool false := hd.at 2 rfl
      have d6 : v 6 = .slice A (m + 8) c := hd.at 6 rfl
      have d7 : v 7 = .int .i64 (m : Int) := hd.at 7 rfl
      exact conf_valueR belR_kept (wantedY rfl rfl (congrArg some g2)) (run_op_front _ (.tmp 18) (.tmp 19) rfl A (m + 8) c m (by simp [go_sem, d6]) (by simp [go_sem, d7]) (by omega)) rfl
    · have g2 : v 2 = .bool false := hd.at 2 rfl
      have d4 : v 4 = .agg (u8V key) := hd.at 4 rfl
      have d5 : v 5 = .int .i64 s := hd.at 5 rfl
      have d8 : v 8 = .slice A m c := hd.at 8 rfl
      refine conf_callR (f := 12) (args := #[v 4, v 5, v 8]) (wantedY rfl rfl (congrArg some g2)) (by simp [go_sem]) ?_
      rw [d4, d5, d8]
      exact (CC.out w' (bt BB.out hb)).mono fun e w'' ⟨⟨A', d', he, o⟩, hb'⟩ => ⟨_, he, hb', A', d', rfl, o.row⟩
    · have g2 : v 2 = .bool false := hd.at 2 rfl
      have d3 : v 3 = .slice A (m + 8) c := hd.at 3 rfl
      obtain ⟨A', d', d9, r9⟩ : ∃ A' d', v 9 = .slice A' (m + 8) d' ∧ Row w' A' (bd ++ tg) := hd.at 9 rfl
      refine conf_callR (f := 39) (args := #[v 3, v 9]) (wantedY rfl rfl (congrArg some g2)) (by simp [go_sem]) ?_
      rw [d3, d9]
      refine (same_any A A' xs (bd ++ tg) (m + 8) (m + 8) c d' w' HM.out CL2.out (HR.out.below (bt BB.out hb)) r9 (by omega) (by omega)).mono fun e w'' ⟨he, hw⟩ => ⟨_, he, by subst hw; exact Below.refl _ _, ?_⟩
      rw [SM.out]; rfl
    · have g2 : v 2 = .bool false := hd.at 2 rfl
      have d10 : v 10 = .bool true := hd.at 10 rfl
      exact conf_valueR belR_kept (wantedY rfl rfl (congrArg some g2)) (by simp [go_sem, d10]) rfl
    · have d2 : v 2 = .bool false := hd.at 2 rfl
      have d11 : v 11 = .bool (!true) := hd.at 11 rfl
      exact conf_valueR belR_kept (wanted0 rfl) (by simp [go_sem, d2, d11]) rfl
  · intro v w' hb hr
    have d12 : v 12 = .bool (!true) := hr 12 (by omega)
    simp only [List.take_succ_cons, List.take_zero, List.drop_succ_cons, List.drop_zero, putAll, Act.put, List.setIfInBounds_toArray, List.set_cons_succ, List.set_cons_zero]
    rw [d12]
    replace BB := Lib.hid (bt BB.out hb)
    clear hr hb d12 K3 CC
    go_wp2_with (first | ((with_reducible show wpList _ _ _ (⟨some 27, _, _, _, _, _⟩ :: _) _ _); (with_reducible refine wpRow_run (wanted0 rfl) (run_op_front _ (.tmp 25) (.tmp 26) rfl A (m + 8) c m rfl rfl (by omega)) ?_)) | (go_at_call 37; refine Marker.mk ?_))
    refine Marker.in ?_
    have b1 := below_alloc1 w' (.cells #[.slice A m c] 23)
    have hln : [bd].flatten = bd := by simp
    have CJ := sjoin_any w'.heap.size 1 1 #[.slice A m c] [bd] (w'.alloc (.cells #[.slice A m c] 23)) rfl (Blk.new _ _ _) (parts_one BL.out ((RB.out w' BB.out).below b1)) (by rw [hln, BL.out]; omega) (by omega)
    rw [hln, BL.out] at CJ
    have l1 := BB.out.size
    have l2 := b1.size
    replace BB := Lib.hid (bt BB.out b1)
    replace CJ := Lib.hid CJ
    clear b1 hln
    ((with_reducible refine CJ.out.mono ?_))
    rintro e w3 ⟨⟨A3, d3, rfl, o3⟩, b3⟩
    replace BB := Lib.hid (bt BB.out b3)
    replace o3 := Lib.hid (own_mono o3 (show w.heap.size ≤ _ by omega))
    clear b3 CJ
    go_wp2_with fail
    go_ret2
    exact ⟨⟨_, _, rfl, o3.out⟩, BB.out⟩
end Go.Proofs.YtapednkmefbldaaDoor
