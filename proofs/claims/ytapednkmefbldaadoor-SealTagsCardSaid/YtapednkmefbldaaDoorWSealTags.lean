/- The walk of SealTags. -/
import Derived.Test.YtapednkmefbldaaDoorOwnB
namespace Go.Proofs.YtapednkmefbldaaDoor
open Go.RowKit

def RTag (G g3 : Nat) (s sb : Int) (B : Option Addr) (n c : Nat) (b tg : List Int) (i : Nat) (v : Value) (w : World) : Prop := match i with
  | 0 => v = .slice (some ⟨g3, 0, none⟩) 32 32
  | 1 => v = .int .i64 s
  | 2 => v = .int .i64 sb
  | 3 => v = .int .u8 sb
  | 4 => ∃ g, v = .slice (some ⟨g, 0, none⟩) 2 2 ∧ G ≤ g ∧ Blk w g (u8V [77, sb]) 5
  | 5 => v = .slice B n c
  | 6 => ∃ A d, v = .slice A (2 + n) d ∧ Own w G A d ([77, sb] ++ b)
  | 7 => v = .agg (u8V tg)
  | _ => ∃ g, v = .pointer (some ⟨g, 0, none⟩) ∧ G ≤ g ∧ Blk w g (u8V (zeros 8)) 29
theorem RTag_keep (G g3 : Nat) (s sb : Int) (B : Option Addr) (n c : Nat) (b tg : List Int) : ∀ i v w w', i < 9 → RTag G g3 s sb B n c b tg i v w → GrowR G 5 0 [] w w' → RTag G g3 s sb B n c b tg i v w' := by
  intro i v w w' hi h hb
  unfold RTag at *
  split at h
  case h_5 => obtain ⟨g, e, l, k⟩ := h; exact ⟨g, e, l, growR_blk0 hb k⟩
  case h_7 => obtain ⟨g, d, e, k⟩ := h; exact ⟨g, d, e, ⟨growR_owns hb k.1 (fun j h1 h2 h3 => by simp at h2), k.2⟩⟩
  case h_9 => obtain ⟨g, e, l, k⟩ := h; exact ⟨g, e, l, growR_blk0 hb k⟩
  all_goals exact h
def RCmp (C : Option Addr) (gc n d g10 : Nat) (B : Option Addr) (c : Nat) (ts : ByteArray) (i : Nat) (v : Value) (w : World) : Prop := match i with
  | 0 => v = .bool true
  | 3 => v = .slice (some ⟨gc, 0, none⟩) (n + 8) d
  | 4 => v = .int .i64 ((n : Int) + 8)
  | 5 => v = .slice B n c
  | 6 => v = .int .i64 (n : Int)
  | 7 => v = .int .i64 ((n : Int) + 8)
  | 11 => v = .slice (some ⟨gc, 0, none⟩) (n + 8) d
  | 12 => v = .slice B n c
  | 13 => v = .int .i64 (n : Int)
  | 14 => v = .slice (some ⟨gc, n, none⟩) 8 (d - n)
  | 15 => v = .string ts
  | 16 => v = .slice (some ⟨g10, 0, none⟩) 8 8
  | 17 => v = .string ts
  | _ => v = .bool false
theorem RCmp_keep (C : Option Addr) (gc n d g10 : Nat) (B : Option Addr) (c : Nat) (ts : ByteArray) : ∀ i v w w', i < 20 → RCmp C gc n d g10 B c ts i v w → BelR w w' → RCmp C gc n d g10 B c ts i v w' := by
  intro i v w w' hi h hb
  unfold RCmp at *
  split at h
  all_goals exact h
theorem run_from8 (gc n d : Nat) (hd : n + 8 ≤ d) (W : World) : (Instr.sliceAt 23 (.slice (some ⟨gc, 0, none⟩) (n + 8) d) (some (.int .i64 (n : Int))) none none).run Tryd.prog W = .ok (.slice (some ⟨gc, n, none⟩) 8 (d - n)) W := by
  have h1 : ¬ ((n : Int) + 8 < (n : Int)) := by omega
  have h3 : (n : Int) ≤ (n : Int) + 8 := by omega
  have h2 : d ≠ n := by omega
  have e : (⟨gc, 0, none⟩ : Addr).add n = ⟨gc, n, none⟩ := by unfold Addr.add; split <;> simp_all
  simp [go_sem, h1, h2, h3, e]
theorem run_op_from8 {w : World} (o : Oper) {a : Act} (x y : Operand) (ho : o.op = .slice 23 x (some y) none none) (gc n d : Nat) (hx : a.eval x = .slice (some ⟨gc, 0, none⟩) (n + 8) d) (hy : a.eval y = .int .i64 (n : Int)) (hd : n + 8 ≤ d) :
    (execOp a.eval o).run Tryd.prog w = .ok (.value (.slice (some ⟨gc, n, none⟩) 8 (d - n))) w := by
  have h := run_from8 gc n d hd w
  unfold execOp
  simp only [ho, Option.map_some, Option.map_none, hx, hy, Sem.run_bind, h, Sem.run_pure, Result.andThen_ok]
set_option maxRecDepth 100000 in
set_option maxHeartbeats 3200000 in
theorem walk_SealTags (v0 v1 v2 : Value) (w : World) (hR : Roots w) (q0 : ∃ b0, Value.okWide Tryd.prog w .any b0 22 v0) (q1 : ∃ n : Int, v1 = .int .i64 n ∧ -9223372036854775808 ≤ n ∧ n ≤ 9223372036854775807) (q2 : IsTurned w v2) :
    Calls Tryd.prog 3 #[v0, v1, v2] w fun e w' => e = .returned (.bool true) ∧ Below w.heap.size w w' := by
  obtain ⟨b0, q0⟩ := q0
  obtain ⟨key, rfl, KL, KB⟩ := flat_b32 _ _ _ q0
  obtain ⟨s, rfl, s0, s1⟩ := q1
  obtain ⟨B0, l0, c0, at_, how, rfl, qr, ha, hh⟩ := q2
  obtain ⟨B, b, n, c, hn, n3, n1, n2, hb, hB, hf⟩ := few_of (k := 60) qr few09
  have CC := fun (W : World) (hW : Below w.heap.size w W) => close_any key b B n c s W KL KB hn (hb.below hW) (by omega) (hR.below hW)
  have TL := tagOf_len key s b
  have TB := tagOf_bytes key s b
  have e0 : (hmac key (closeB s b)).take 8 = tagOf key s b := rfl
  have ecl : closeB s b = [77, s % 256] ++ b := by
    unfold closeB
    have : be (s % 256) 1 = [s % 256] := by
      show [s % 256 / 1 % 256] = [s % 256]
      rw [Int.ediv_one, Int.emod_eq_of_lt (by omega) (by omega)]
    rw [this]
    simp
  have CT := fun (A : Option Addr) (d : Nat) (W : World) (hW : Below w.heap.size w W) (g3 : Nat) (hk : Row W (some ⟨g3, 0, none⟩) key) (hr : Row W A ([77, s % 256] ++ b)) => tag_any (some ⟨g3, 0, none⟩) A key ([77, s % 256] ++ b) 32 (2 + n) 32 d W KL (by simp [hn]; omega) hk hr (by omega) (by omega) (hR.below hW)
  rw [← ecl, e0] at CT
  have OB := fun (xs : List Int) (A : Option Addr) (d : Nat) (W : World) (hW : Below w.heap.size w W) (hx : xs.length = n + 8) (hr : Row W A xs) (hd : n + 8 ≤ d) (hne : xs ≠ xs.take n ++ tagOf key s (xs.take n)) => open_bad key xs A n d s W KL KB hx hr (by omega) hd (hR.below hW) hne
  have DIF : ∀ (i : Nat) (z : Int), n ≤ i → i < n + 8 → z ≠ (tagOf key s b).getD (i - n) 0 → ((b ++ tagOf key s b).set i z) ≠ ((b ++ tagOf key s b).set i z).take n ++ tagOf key s (((b ++ tagOf key s b).set i z).take n) := by
    intro i z h1 h2 hz he
    have e1 : ((b ++ tagOf key s b).set i z).take n = b := by
      rw [List.take_set, List.set_eq_of_length_le (by simp; omega), List.take_left' hn]
    rw [e1] at he
    have h3 := congrArg (fun l => l.getD i 0) he
    simp only [List.getD_eq_getElem?_getD] at h3
    rw [List.getElem?_set_self (by simp [TL, hn]; omega), List.getElem?_append_right (by omega), hn] at h3
    exact hz (by simpa [List.getD_eq_getElem?_getD] using h3)
  have as_ := i64_and255 s
  have sbb : 0 ≤ s % 256 ∧ s % 256 ≤ 255 := by omega
  generalize tagOf key s b = tg at *
  generalize s % 256 = sb at *
  have us : IntKind.u8.wrap sb = sb := by rw [IntKind.wrap_u8']; omega
  have CV := fun (W : World) (A : Option Addr) (d : Nat) (hr : Row W A tg) => conv_row 8 d TL hr
  generalize strOfNums tg = ts at *
  replace CC := Lib.hid CC
  replace TL := Lib.hid TL
  replace TB := Lib.hid TB
  replace CT := Lib.hid CT
  replace OB := Lib.hid OB
  replace DIF := Lib.hid DIF
  replace as_ := Lib.hid as_
  replace us := Lib.hid us
  replace CV := Lib.hid CV
  replace KL := Lib.hid KL
  replace KB := Lib.hid KB
  have ECL := Lib.hid ecl
  have HF := Lib.hid hf
  have HN := Lib.hid hn
  have HBR := Lib.hid hb
  have RT := Lib.hid hR
  clear hn hb hf hB hR q0 qr s0 s1 e0 ecl
  go_enter Tryd.func3, Tryd.ntmps3
  go_wp2_with fail
  have K3 := Lib.hid ((Blk.new w (u8V key) 22).alloc (.cells #[.slice B0 l0 c0, .int .u8 at_, .int .u8 how] 25))
  have K5 := Lib.hid (Blk.new' (w.alloc (.cells (u8V key) 22)) #[.slice B0 l0 c0, .int .u8 at_, .int .u8 how] 25 (g := w.heap.size + 1) (by simp))
  have BB := Lib.hid (below_alloc2 w (.cells (u8V key) 22) (.cells #[.slice B0 l0 c0, .int .u8 at_, .int .u8 how] 25))
  generalize (w.alloc (.cells (u8V key) 22)).alloc (.cells #[.slice B0 l0 c0, .int .u8 at_, .int .u8 how] 25) = w1 at *
  have n5 : w.heap.size < w.heap.size + 1 := by omega
  generalize w.heap.size + 1 = g5 at *
  ((with_reducible refine (shown09 _ (RT.out.below BB.out)).mono ?_))
  rintro e w2 ⟨rfl, b2⟩
  replace K3 := Lib.hid (K3.out.below b2)
  replace K5 := Lib.hid (K5.out.below b2)
  replace BB := Lib.hid (bt BB.out b2)
  clear b2
  have k0 := K5.out.cell 0
  simp only [List.getElem?_toArray, List.getElem?_cons_zero] at k0
  go_wp2_with fail
  clear k0
  ((with_reducible refine (HF.out _).mono ?_))
  rintro e w3 ⟨rfl, rfl⟩
  clear HF
  go_wp2_with ((with_reducible show wpList _ _ _ (⟨_, .load 22 _, _, _, _, none⟩ :: _) _ _); (with_reducible refine wpBlk_load (g := w.heap.size) agg_b32 ?_ ?_ K3 ?_ ?_); (· exact wanted0 rfl); (· exact ⟨rfl, rfl⟩); (· rw [u8V_size, KL.out]))
  ((with_reducible refine (CC.out _ BB.out).mono ?_))
  rintro e w4 ⟨⟨C, d, rfl, oC⟩, b4⟩
  have l5 := K5.out.lt
  replace K3 := Lib.hid (K3.out.below b4)
  replace K5 := Lib.hid (K5.out.below b4)
  replace BB := Lib.hid (bt BB.out b4)
  obtain ⟨gc, cur, rfl, hgc, KC, hcur, hd⟩ := own_blk oC (by simp [TL.out])
  have LC : (b ++ tg).length = n + 8 := by rw [List.length_append, HN.out, TL.out]
  rw [LC] at hd
  replace KC := Lib.hid KC
  replace hcur := Lib.hid hcur
  replace LC := Lib.hid LC
  clear CC oC b4
  go_wp2_with fail
  have W4 := BB.out.size
  have lc4 := KC.out.lt
  refine wp_region_confR' (growR_kept (b0 := w4.heap.size) (T := 5) (N := 0) (ys := [])) (by kernel_rfl) 9 (by kernel_rfl) (by simp) (by decide) (RTag w4.heap.size w.heap.size s sb B n c b tg) (RTag_keep _ _ _ _ _ _ _ _ _) ?_ ?_
  · simp only [ConfStepsR, List.take_succ_cons, List.take_zero, putAll, Act.put, List.setIfInBounds_toArray, List.set_cons_succ, List.set_cons_zero, and_true]
    refine ⟨?_, ?_, ?_, ?_, ?_, ?_, ?_, ?_, ?_⟩
    all_goals intro v w' hb hd
    · exact conf_valueR growR_kept (wanted0 rfl) (by simp [go_sem]) rfl
    · exact conf_valueR growR_kept (wanted0 rfl) (by simp [go_sem]) rfl
    · have d1 : v 1 = .int .i64 s := hd.at 1 rfl
      exact conf_valueR growR_kept (wanted0 rfl) (by simp [go_sem, d1, as_.out]) rfl
    · have d2 : v 2 = .int .i64 sb := hd.at 2 rfl
      exact conf_valueR growR_kept (wanted0 rfl) (by simp [go_sem, d2, us.out]) rfl
    · have d3 : v 3 = .int .u8 sb := hd.at 3 rfl
      exact conf_makeR (v := .slice (some ⟨w'.heap.size, 0, none⟩) 2 2) (w' := w'.alloc (.cells (u8V [77, sb]) 5)) (wanted0 rfl) (by simp [go_sem, d3, u8V]) (growR_below (below_alloc1 w' _)) ⟨_, rfl, hb.1, Blk.new _ _ _⟩
    · exact conf_valueR growR_kept (wanted0 rfl) (by simp [go_sem]) rfl
    · obtain ⟨g, d4, hg4, k4⟩ : ∃ g, v 4 = .slice (some ⟨g, 0, none⟩) 2 2 ∧ w4.heap.size ≤ g ∧ Blk w' g (u8V [77, sb]) 5 := hd.at 4 rfl
      have d5 : v 5 = .slice B n c := hd.at 5 rfl
      obtain ⟨A', cp, w2, hrun, hrow, hrel⟩ := run_append_any w' w4.heap.size g 2 [77, sb] rfl k4 (by intro x hx; simp at hx; omega) hg4 (by omega) B c n b HN.out (HBR.out.below (bt BB.out (hb.2.1 (Nat.le_refl _)))) (by omega) 23
      exact conf_makeR (wanted0 rfl) (run_op_append rfl (by simp [go_sem, d4]) (by simp [go_sem, d5]) hrun) hrel ⟨A', cp, rfl, hrow⟩
    · have d0 : v 0 = .slice (some ⟨w.heap.size, 0, none⟩) 32 32 := hd.at 0 rfl
      obtain ⟨A', cp, d6, r6⟩ : ∃ A d, v 6 = .slice A (2 + n) d ∧ Own w' w4.heap.size A d ([77, sb] ++ b) := hd.at 6 rfl
      refine conf_callR (f := 13) (args := #[v 0, v 6]) (wanted0 rfl) (by simp [go_sem]) ?_
      rw [d0, d6]
      exact (CT.out A' cp w' (bt BB.out (hb.2.1 (Nat.le_refl _))) w.heap.size (u8V_row (K3.out.below (hb.2.1 (Nat.le_refl _))) KB.out) (by rw [ECL.out]; exact r6.row)).mono fun e w'' ⟨he, hb'⟩ => ⟨_, he, growR_below hb', rfl⟩
    · exact conf_makeR (wanted0 rfl) (zeroT_b8 _ _ _ rfl) (growR_below (below_alloc1 w' _)) ⟨_, rfl, hb.1, Blk.new _ _ _⟩

  · intro v w' hb hr
    obtain ⟨g10, d8, hg10, K10⟩ : ∃ g, v 8 = .pointer (some ⟨g, 0, none⟩) ∧ w4.heap.size ≤ g ∧ Blk w' g (u8V (zeros 8)) 29 := hr 8 (by omega)
    have d7 : v 7 = .agg (u8V tg) := hr 7 (by omega)
    simp only [List.take_succ_cons, List.take_zero, List.drop_succ_cons, List.drop_zero, putAll, Act.put, List.setIfInBounds_toArray, List.set_cons_succ, List.set_cons_zero]
    rw [d8, d7]
    have b9 := hb.2.1 (Nat.le_refl _)
    replace K10 := Lib.hid K10
    have l3 := K3.out.lt
    have l5b := K5.out.lt
    replace K3 := Lib.hid (K3.out.below b9)
    replace K5 := Lib.hid (K5.out.below b9)
    replace KC := Lib.hid (KC.out.below b9)
    replace BB := Lib.hid (bt BB.out b9)
    clear hr hb b9 d7 d8 CT
    go_wp2_with ((with_reducible show wpList _ _ _ (⟨_, .store 29 _ _, _, _, _, none⟩ :: _) _ _); (with_reducible refine wpBlk_store (g := g10) (cs := u8V tg) agg_b8 ?_ ?_ K10 ?_ ?_ ?_ ?_); (· exact wanted0 rfl); (· exact ⟨rfl, rfl, rfl⟩); (· rw [u8V_size, zeros_len]); (· rw [u8V_size, TL.out]); (· exact u8V_one _); refine Marker.mk ?_)
    refine Marker.in ?_
    replace K3 := Lib.hid (K3.out.setRow_other g10 (u8V tg) (by omega))
    replace K5 := Lib.hid (K5.out.setRow_other g10 (u8V tg) (by omega))
    replace KC := Lib.hid (KC.out.setRow_other g10 (u8V tg) (by omega))
    replace K10 := Lib.hid (K10.out.setRow (u8V tg))
    replace BB := Lib.hid (below_setRow (g := g10) BB.out (by omega) (u8V tg))
    generalize w'.setRow g10 (u8V tg) = w5 at *
    have hd1 : n + 8 ≤ d := hd
    have hbt := Lib.hid (show ∀ x ∈ b ++ tg, 0 ≤ x ∧ x ≤ 255 from fun x hx => (List.mem_append.1 hx).elim (fun h => HBR.out.2 x h) (fun h => TB.out x h))
    have i8 : IntKind.i64.wrap ((n : Int) + 8) = (n : Int) + 8 := IntWalk.i64_in _ (by omega)
    go_wp2_with fail
    refine wp_region_confR' belR_kept (by kernel_rfl) 20 (by kernel_rfl) (by simp) (by decide) (RCmp none gc n d g10 B c ts) (RCmp_keep _ _ _ _ _ _ _ _) ?_ ?_
    · simp only [ConfStepsR, List.take_succ_cons, List.take_zero, putAll, Act.put, List.setIfInBounds_toArray, List.set_cons_succ, List.set_cons_zero, and_true]
      refine ⟨?_, ?_, ?_, ?_, ?_, ?_, ?_, ?_, ?_, ?_, ?_, ?_, ?_, ?_, ?_, ?_, ?_, ?_, ?_, ?_⟩
      all_goals intro v w' hb hd
      · exact conf_valueR belR_kept (wanted0 rfl) (by simp [go_sem]) rfl
      · have d0 : v 0 = .bool true := hd.at 0 rfl
        exact conf_valueR belR_kept (wanted0 rfl) (by simp [go_sem, d0]) rfl
      · have d1 : v 1 = .bool false := hd.at 1 rfl
        exact conf_valueR belR_kept (wanted0 rfl) (by simp [go_sem, d1]) rfl
      · have d2 : v 2 = .bool false := hd.at 2 rfl
        exact conf_valueR belR_kept (wantedY rfl rfl (congrArg some d2)) (by simp [go_sem, d2]) rfl
      · have d2 : v 2 = .bool false := hd.at 2 rfl
        have d3 : v 3 = .slice (some ⟨gc, 0, none⟩) (n + 8) d := hd.at 3 rfl
        exact conf_valueR belR_kept (wantedY rfl rfl (congrArg some d2)) (by simp [go_sem, d2, d3]) rfl
      · have d2 : v 2 = .bool false := hd.at 2 rfl
        exact conf_valueR belR_kept (wantedY rfl rfl (congrArg some d2)) (by simp [go_sem, d2]) rfl
      · have d2 : v 2 = .bool false := hd.at 2 rfl
        have d5 : v 5 = .slice B n c := hd.at 5 rfl
        exact conf_valueR belR_kept (wantedY rfl rfl (congrArg some d2)) (by simp [go_sem, d2, d5]) rfl
      · have d2 : v 2 = .bool false := hd.at 2 rfl
        have d6 : v 6 = .int .i64 (n : Int) := hd.at 6 rfl
        exact conf_valueR belR_kept (wantedY rfl rfl (congrArg some d2)) (by simp [go_sem, d2, d6, i8]) rfl
      · have d2 : v 2 = .bool false := hd.at 2 rfl
        have d4 : v 4 = .int .i64 ((n : Int) + 8) := hd.at 4 rfl
        have d7 : v 7 = .int .i64 ((n : Int) + 8) := hd.at 7 rfl
        exact conf_valueR belR_kept (wantedY rfl rfl (congrArg some d2)) (by simp [go_sem, d2, d4, d7]) rfl
      · have d2 : v 2 = .bool false := hd.at 2 rfl
        have d8 : v 8 = .bool false := hd.at 8 rfl
        exact conf_valueR belR_kept (wanted0 rfl) (by simp [go_sem, d2, d8]) rfl
      · have d9 : v 9 = .bool false := hd.at 9 rfl
        exact conf_valueR belR_kept (wanted0 rfl) (by simp [go_sem, d9]) rfl
      · have d10 : v 10 = .bool false := hd.at 10 rfl
        exact conf_valueR belR_kept (wantedY rfl rfl (congrArg some d10)) (by simp [go_sem, d10]) rfl
      · have d10 : v 10 = .bool false := hd.at 10 rfl
        exact conf_valueR belR_kept (wantedY rfl rfl (congrArg some d10)) (by simp [go_sem, d10]) rfl
      · have d10 : v 10 = .bool false := hd.at 10 rfl
        have d12 : v 12 = .slice B n c := hd.at 12 rfl
        exact conf_valueR belR_kept (wantedY rfl rfl (congrArg some d10)) (by simp [go_sem, d10, d12]) rfl
      · have d10 : v 10 = .bool false := hd.at 10 rfl
        have d11 : v 11 = .slice (some ⟨gc, 0, none⟩) (n + 8) d := hd.at 11 rfl
        have d13 : v 13 = .int .i64 (n : Int) := hd.at 13 rfl
        exact conf_valueR belR_kept (wantedY rfl rfl (congrArg some d10)) (run_op_from8 _ (.tmp 41) (.tmp 43) rfl gc n d (by simp [go_sem, d11]) (by simp [go_sem, d13]) hd1) rfl
      · have d10 : v 10 = .bool false := hd.at 10 rfl
        have d14 : v 14 = .slice (some ⟨gc, n, none⟩) 8 (d - n) := hd.at 14 rfl
        have r14 : Row w' (some ⟨gc, n, none⟩) tg := by
          have h := row_cur (KC.out.below hb) hcur.out (fun x hx => hbt.out x hx) n 8
          rwa [List.drop_left' HN.out, List.take_of_length_le (by rw [TL.out]; omega)] at h
        exact conf_valueR belR_kept (wantedY rfl rfl (congrArg some d10)) (by simp [go_sem, d14, CV.out w' _ (d - n) r14]) rfl
      · have d10 : v 10 = .bool false := hd.at 10 rfl
        exact conf_valueR belR_kept (wantedY rfl rfl (congrArg some d10)) (by simp [go_sem, d10]) rfl
      · have d10 : v 10 = .bool false := hd.at 10 rfl
        have d16 : v 16 = .slice (some ⟨g10, 0, none⟩) 8 8 := hd.at 16 rfl
        exact conf_valueR belR_kept (wantedY rfl rfl (congrArg some d10)) (by simp [go_sem, d16, CV.out w' _ 8 (u8V_row (K10.out.below hb) TB.out)]) rfl
      · have d10 : v 10 = .bool false := hd.at 10 rfl
        have d15 : v 15 = .string ts := hd.at 15 rfl
        have d17 : v 17 = .string ts := hd.at 17 rfl
        exact conf_valueR belR_kept (wantedY rfl rfl (congrArg some d10)) (by simp [go_sem, d10, d15, d17]) rfl
      · have d10 : v 10 = .bool false := hd.at 10 rfl
        have d18 : v 18 = .bool false := hd.at 18 rfl
        exact conf_valueR belR_kept (wanted0 rfl) (by simp [go_sem, d10, d18]) rfl

    · intro v w' hb hr
      have d19 : v 19 = .bool false := hr 19 (by omega)
      simp only [List.take_succ_cons, List.take_zero, List.drop_succ_cons, List.drop_zero, putAll, Act.put, List.setIfInBounds_toArray, List.set_cons_succ, List.set_cons_zero]
      rw [d19]
      replace K3 := Lib.hid (K3.out.below hb)
      replace K5 := Lib.hid (K5.out.below hb)
      replace KC := Lib.hid (KC.out.below hb)
      replace K10 := Lib.hid (K10.out.below hb)
      replace BB := Lib.hid (bt BB.out hb)
      clear hr hb d19 i8
      have a0 : ((at_ : Int) % 8) = ((at_.toNat % 8 : Nat) : Int) := by omega
      obtain ⟨j, hj⟩ : ∃ j, at_.toNat % 8 = j := ⟨_, rfl⟩
      have hj8 : j < 8 := by omega
      rw [hj] at a0
      have k1 := K5.out.cell 1
      have k2 := K5.out.cell 2
      simp only [List.getElem?_toArray, List.getElem?_cons_zero, List.getElem?_cons_succ] at k1 k2
      have wat : IntKind.i64.wrap at_ = at_ := IntWalk.i64_in _ (by omega)
      have wnj : IntKind.i64.wrap ((n : Int) + (j : Int)) = (n : Int) + (j : Int) := IntWalk.i64_in _ (by omega)
      obtain ⟨i, hi⟩ : ∃ i, n + j = i := ⟨_, rfl⟩
      have hi2 : (n : Int) + (j : Int) = (i : Int) := by omega
      rw [hi2] at wnj
      go_wp2_with fail
      have ci := KC.out.cell i
      have fi := KC.out.frozen i
      rw [cur_get hcur.out i (by rw [LC.out]; omega)] at ci
      have ex : (b ++ tg).getD i 0 = tg.getD (i - n) 0 := by
        simp only [List.getD_eq_getElem?_getD]
        rw [List.getElem?_append_right (by rw [HN.out]; omega), HN.out]
      have xb := getD_byte TB.out (i - n)
      rw [ex] at ci
      generalize hx : tg.getD (i - n) 0 = x at *
      have hw1 : how % 255 + 1 ≤ 255 := by omega
      have hw0 : 0 ≤ how % 255 := by omega
      have wh : IntKind.u8.wrap (1 + how % 255) = 1 + how % 255 := by rw [IntKind.wrap_u8']; omega
      have hz : bits .xor .u8 x (1 + how % 255) ≠ x := by
        intro h
        rw [u8_xor x (1 + how % 255) xb.1 (by omega) (by omega) (by omega)] at h
        have h2 : x.toNat ^^^ (1 + how % 255).toNat = x.toNat := by omega
        have h3 : x.toNat ^^^ (x.toNat ^^^ (1 + how % 255).toNat) = x.toNat ^^^ x.toNat := by rw [h2]
        rw [← Nat.xor_assoc, Nat.xor_self, Nat.zero_xor] at h3
        omega
      obtain ⟨z, hzz⟩ : ∃ z, bits .xor .u8 x (1 + how % 255) = z := ⟨_, rfl⟩
      rw [hzz] at hz
      have zb : 0 ≤ z ∧ z ≤ 255 := by rw [← hzz]; exact xor_byte _ _
      have NE := DIF.out i z (by omega) (by omega) (by rw [hx]; exact hz)
      replace NE := Lib.hid NE
      replace hz := Lib.hid hz
      replace hx := Lib.hid hx
      replace xb := Lib.hid xb
      clear ex
      refine wp_region_qt' 12 (by kernel_rfl) (by kernel_rfl) ?_
      simp only [List.take_succ_cons, List.take_zero, List.drop_succ_cons, List.drop_zero]
      repeat (go_big_quiet_step (fail))
      refine wpQuiet_nil ?_
      intro _ hw'
      obtain ⟨nq, rfl⟩ := hw'
      go_wp2_with ((with_reducible show wpList _ _ _ (⟨_, .load 22 _, _, _, _, none⟩ :: _) _ _); refine Marker.mk ?_)
      refine Marker.in ?_
      clear ci fi k1 k2 wat wnj wh hzz a0
      replace K3 := Lib.hid ((K3.out.drewN nq).other gc i (.int .u8 z) (by omega))
      have KZ := Lib.hid ((KC.out.drewN nq).set i (.int .u8 z))
      replace BB := Lib.hid ((below_drewN BB.out nq).setCell (p := ⟨gc, i, none⟩) (show w.heap.size ≤ gc by omega) (.int .u8 z))
      generalize (w'.drewN nq).setCell ⟨gc, i, none⟩ (.int .u8 z) = w7 at *
      have hcz := cur_set hcur.out i z (by rw [LC.out]; omega)
      have rz : Row w7 (some ⟨gc, 0, none⟩) ((b ++ tg).set i z) := by
        have h := row_cur KZ.out hcz (fun y hy => (List.mem_or_eq_of_mem_set hy).elim (fun h => hbt.out y h) (fun h => by rw [h]; exact zb)) 0 ((b ++ tg).set i z).length
        rwa [List.drop_zero, List.take_of_length_le (Nat.le_refl _)] at h
      have CZ := OB.out ((b ++ tg).set i z) (some ⟨gc, 0, none⟩) d w7 BB.out (by rw [List.length_set, LC.out]) rz hd1 NE.out
      replace CZ := Lib.hid CZ
      clear rz hcz KC KZ OB DIF K5 K10
      go_wp2_with ((with_reducible show wpList _ _ _ (⟨_, .load 22 _, _, _, _, none⟩ :: _) _ _); (with_reducible refine wpBlk_load (g := w.heap.size) agg_b32 ?_ ?_ K3 ?_ ?_); (· exact wanted0 rfl); (· exact ⟨rfl, rfl⟩); (· rw [u8V_size, KL.out]))
      ((with_reducible refine CZ.out.mono ?_))
      rintro e w8 ⟨rfl, b8⟩
      replace BB := Lib.hid (bt BB.out b8)
      clear b8 CZ
      go_wp2_with fail
      go_ret
      exact ⟨rfl, BB.out⟩
end Go.Proofs.YtapednkmefbldaaDoor
