/- The walk of RuleParts. -/
import Derived.Test.YtchbejkmnbbakaaOrd
import Derived.Test.YtchbejkmnbbakaaExt
namespace Go.Proofs.Ytchbejkmnbbakaa
open Go.RowKit

theorem flat_four (v : Value) (w : World) (base : Nat) (h : Value.okWide Try.prog w .any base 59 v) : ∃ a b c d : Int, v = .agg #[.int .u8 a, .int .u8 b, .int .u8 c, .int .u8 d] ∧ 0 ≤ a ∧ a ≤ 255 ∧ 0 ≤ b ∧ b ≤ 255 ∧ 0 ≤ c ∧ c ≤ 255 ∧ 0 ≤ d ∧ d ≤ 255 := by
  obtain ⟨cs, rfl, hs, hc⟩ := flat (ts := [5, 5, 5, 5]) (.inr ⟨_, _, Try.underlying59⟩) (by kernel_rfl) (by kernel_rfl) h
  obtain ⟨l⟩ := cs
  match l, hs with
  | [x, y, z, u], _ =>
    obtain ⟨a, rfl, a1, a2⟩ := opn_u8 Try.underlying5 (hc 0 _ x rfl rfl)
    obtain ⟨b, rfl, b1, b2⟩ := opn_u8 Try.underlying5 (hc 1 _ y rfl rfl)
    obtain ⟨c, rfl, c1, c2⟩ := opn_u8 Try.underlying5 (hc 2 _ z rfl rfl)
    obtain ⟨d, rfl, d1, d2⟩ := opn_u8 Try.underlying5 (hc 3 _ u rfl rfl)
    exact ⟨a, b, c, d, rfl, a1, a2, b1, b2, c1, c2, d1, d2⟩

theorem parts_may (g : Nat → Value) (u v x : Value) (a b d i k : Nat) (c : Int) (hd : d ≤ 4) (hb : b ≤ 3) (hk : k ≤ 3) (h : i ≠ a ∨ k ≠ b) :
    may (upd (upd (upd g (14 + a * 4 + b) u) (9 + d) v) (34 + a) x) i k c = may g i k c := by
  unfold may
  cases h1 : inb (i : Int) 5
  · rfl
  · have := inb_true h1
    have e : pn (upd (upd (upd g (14 + a * 4 + b) u) (9 + d) v) (34 + a) x) (14 + (i : Int).toNat * 4 + (k : Int).toNat) = pn g (14 + (i : Int).toNat * 4 + (k : Int).toNat) := by
      unfold pn
      rw [Int.toNat_natCast, Int.toNat_natCast, upd_other _ _ _ _ (by omega), upd_other _ _ _ _ (by omega), upd_other _ _ _ _ (by omega)]
    rw [e]
theorem parts_goes (g : Nat → Value) (u v x : Value) (a b d i : Nat) (c : Int) (hd : d ≤ 4) (h14 : 14 + a * 4 + b < 34) (h : i ≠ a) :
    goes (upd (upd (upd g (14 + a * 4 + b) u) (9 + d) v) (34 + a) x) i c = goes g i c := by
  unfold goes
  have e : pn (upd (upd (upd g (14 + a * 4 + b) u) (9 + d) v) (34 + a) x) (34 + (i : Int).toNat) = pn g (34 + (i : Int).toNat) := by
    unfold pn
    rw [Int.toNat_natCast, upd_other _ _ _ _ (by omega), upd_other _ _ _ _ (by omega), upd_other _ _ _ _ (by omega)]
  rw [e]
theorem parts_takes (g : Nat → Value) (u v x : Value) (a b d i : Nat) (c : Int) (hd : d ≤ 4) (hi : i ≤ 4) (h : i ≠ d) :
    takes (upd (upd (upd g (14 + a * 4 + b) u) (9 + d) v) (34 + a) x) i c = takes g i c := by
  unfold takes
  have e : pn (upd (upd (upd g (14 + a * 4 + b) u) (9 + d) v) (34 + a) x) (9 + (i : Int).toNat) = pn g (9 + (i : Int).toNat) := by
    unfold pn
    rw [Int.toNat_natCast, upd_other _ _ _ _ (by omega), upd_other _ _ _ _ (by omega), upd_other _ _ _ _ (by omega)]
  rw [e]
theorem u8_and1 (a : Int) (h0 : 0 ≤ a) (h1 : a ≤ 255) : bits .and .u8 a 1 = a % 2 := by
  obtain ⟨m, rfl⟩ := Int.eq_ofNat_of_zero_le h0
  show IntKind.u8.wrap ((BitVec.ofInt 8 (m : Int) &&& BitVec.ofInt 8 1).toNat : Int) = _
  rw [BitVec.toNat_and, BitVec.ofInt_natCast, BitVec.toNat_ofNat, Nat.mod_eq_of_lt (by omega), show (BitVec.ofInt 8 1).toNat = 1 from rfl, Nat.and_one_is_mod]
  have : IntKind.u8.wrap ((m % 2 : Nat) : Int) = ((m % 2 : Nat) : Int) := by simp [IntKind.wrap, IntKind.bits, IntKind.signed]; omega
  rw [this]; omega
theorem bit_has (n : Int) (n0 : 0 ≤ n) (n1 : n ≤ 255) (k j : Nat) (hj : j < k) (hk : k ≤ 5) : has (n % 2 ^ k) j = (bits .and .u8 (n / 2 ^ j) 1 == 1) := by
  have hp : (1 : Int) ≤ 2 ^ j := by have := Int.pow_pos (n := 2) (m := j) (by omega); omega
  have d0 : 0 ≤ n / 2 ^ j := Int.ediv_nonneg n0 (by omega)
  have d1 : n / 2 ^ j ≤ 255 := Int.le_trans (Int.ediv_le_self _ n0) n1
  rw [u8_and1 _ d0 d1]
  unfold has
  have m0 : 0 ≤ n % 2 ^ k := Int.emod_nonneg _ (by have := Int.pow_pos (n := 2) (m := k) (by omega); omega)
  rw [decide_eq_true ⟨m0, by omega, by omega⟩, Bool.true_and, Int.toNat_natCast]
  have : j = 0 ∨ j = 1 ∨ j = 2 ∨ j = 3 ∨ j = 4 := by omega
  have : k = 1 ∨ k = 2 ∨ k = 3 ∨ k = 4 ∨ k = 5 := by omega
  rcases ‹j = 0 ∨ _› with rfl | rfl | rfl | rfl | rfl <;> rcases ‹k = 1 ∨ _› with rfl | rfl | rfl | rfl | rfl <;> first | omega | (congr 1; omega)
theorem parts_may1 (g : Nat → Value) (a b c d : Nat) (n : Int) (v x : Value) (n0 : 0 ≤ n) (n1 : n ≤ 255) (ha : a ≤ 4) (hb : b ≤ 3) (hc : c ≤ 3) (hd : d ≤ 4) :
    may (upd (upd (upd g (14 + a * 4 + b) (.int .i64 (n % 16))) (9 + d) v) (34 + a) x) a b c = (bits .and .u8 (n / 2 ^ c) 1 == 1) := by
  unfold may
  rw [show inb (a : Int) 5 = true from decide_eq_true (by omega), show inb (b : Int) 4 = true from decide_eq_true (by omega), show inb (c : Int) 4 = true from decide_eq_true (by omega)]
  unfold pn
  rw [Int.toNat_natCast, Int.toNat_natCast, upd_other _ _ _ _ (by omega), upd_other _ _ _ _ (by omega), upd_same]
  exact bit_has n n0 n1 4 c (by omega) (by omega)
theorem parts_goes1 (g : Nat → Value) (a b c d : Nat) (n : Int) (u v : Value) (n0 : 0 ≤ n) (n1 : n ≤ 255) (ha : a ≤ 4) (hc : c ≤ 3) :
    goes (upd (upd (upd g (14 + a * 4 + b) u) (9 + d) v) (34 + a) (.int .i64 (n % 32))) a c = (bits .and .u8 (n / 2 ^ c) 1 == 1) := by
  unfold goes
  rw [show inb (a : Int) 5 = true from decide_eq_true (by omega), show inb (c : Int) 5 = true from decide_eq_true (by omega)]
  unfold pn
  rw [Int.toNat_natCast, upd_same]
  exact bit_has n n0 n1 5 c (by omega) (by omega)
theorem parts_takes1 (g : Nat → Value) (a b d : Nat) (n : Int) (u x : Value) (n0 : 0 ≤ n) (n1 : n ≤ 255) (ha : a ≤ 4) (hb : b ≤ 3) (hd : d ≤ 4) :
    takes (upd (upd (upd g (14 + a * 4 + b) u) (9 + d) (.int .i64 (n % 16))) (34 + a) x) d b = (bits .and .u8 (n / 2 ^ b) 1 == 1) := by
  unfold takes
  rw [show inb (d : Int) 5 = true from decide_eq_true (by omega), show inb (b : Int) 4 = true from decide_eq_true (by omega)]
  unfold pn
  rw [Int.toNat_natCast, upd_other _ _ _ _ (by omega), upd_same]
  exact bit_has n n0 n1 4 b (by omega) (by omega)
theorem i64_upd {g : Nat → Value} (j : Nat) (n : Int) (i : Nat) (h0 : -9223372036854775808 ≤ n) (h1 : n ≤ 9223372036854775807) (h : I64 (g i)) : I64 (upd g j (.int .i64 n) i) := by
  unfold upd
  split
  · exact ⟨rfl, h0, h1⟩
  · exact h
set_option maxRecDepth 100000 in
set_option maxHeartbeats 4000000 in
theorem walk_RuleParts (v0 v1 v2 : Value) (w : World) (q0 : IsPol w v0) (q1 : ∃ base, Value.okWide Try.prog w .any base 59 v1) (q2 : ∃ n : Int, v2 = .int .u8 n ∧ 0 ≤ n ∧ n ≤ 255) :
    Calls Try.prog 12 #[v0, v1, v2] w fun e w' => e = .returned (.bool true) ∧ Below w.heap.size w w' := by
  obtain ⟨f, rfl, hp⟩ := q0
  obtain ⟨base, q1⟩ := q1
  obtain ⟨s0, s1, s2, s3, rfl, h5, h6, h7, h8, h9, h10, h11, h12⟩ := flat_four _ _ _ q1
  obtain ⟨n, rfl, n0, n1⟩ := q2
  clear q1
  obtain ⟨a, ha, a4⟩ : ∃ a : Nat, s0 % 5 = a ∧ a ≤ 4 := ⟨(s0 % 5).toNat, by omega, by omega⟩
  obtain ⟨b, hb, b4⟩ : ∃ a : Nat, s1 % 4 = a ∧ a ≤ 3 := ⟨(s1 % 4).toNat, by omega, by omega⟩
  obtain ⟨c, hc, c4⟩ : ∃ a : Nat, s2 % 4 = a ∧ a ≤ 3 := ⟨(s2 % 4).toNat, by omega, by omega⟩
  obtain ⟨d, hd, d4⟩ : ∃ a : Nat, s3 % 5 = a ∧ a ≤ 4 := ⟨(s3 % 5).toNat, by omega, by omega⟩
  have HP := Lib.hid hp
  have HA := Lib.hid ha
  have HB5 := Lib.hid hb
  have HC := Lib.hid hc
  have HD := Lib.hid hd
  clear hp ha hb hc hd
  go_enter Try.func12, Try.ntmps12
  go_wp2_with fail
  refine (shown13 _).mono ?_
  rintro e w1 ⟨rfl, b1⟩
  obtain ⟨z0, z1, zz⟩ := blk_two b1
  have HF := Lib.hid z0
  have HX := Lib.hid z1
  have HB := Lib.hid ((below_alloc2 w _ _).trans (b1.mono (by simp; omega)))
  clear b1 z0 z1
  go_wp2_with ((with_reducible show wpList _ _ _ (⟨_, .load 28 _, _, _, _, _⟩ :: _) _ _); refine wpList_load_pol rfl _ rfl w.heap.size f HF rfl ?_)
  have HP1 : PolOk w1 f := ⟨HP.out.int, fun i h1 h2 => by obtain ⟨A, xs, cap, e, l, c, r, n⟩ := HP.out.key i h1 h2; exact ⟨A, xs, cap, e, l, c, row_below r (HB.out.mono (Nat.le_refl _)), n⟩⟩
  refine (fit_any f w1 HP1).mono ?_
  rintro e w2 ⟨⟨g, rfl, hf⟩, b2⟩
  have HF := Lib.hid hf
  have HX := Lib.hid (blk_below HX.out b2)
  have HB := Lib.hid (bt HB.out b2)
  clear b2 hf HP1 HP
  have HW : ∀ W : World, W = w2.alloc (.cells (mkc 56 g) 28) → Below w2.heap.size w2 W := by rintro W rfl; exact below_alloc1 _ _
  go_wp2_with (first
    | ((with_reducible show wpList _ _ _ (⟨_, .alloc 28, _, _, _, _⟩ :: _) _ _); refine wpList_alloc_pol rfl rfl ?_)
    | ((with_reducible show wpList _ _ _ (⟨_, .store 28 _ _, _, _, _, _⟩ :: _) _ _); refine wpList_store_pol rfl (.tmp 8) (.tmp 19) rfl _ _ _ rfl rfl rfl (fit_one HF.out) ?_; refine Marker.mk ?_))
  have HQ := Lib.hid (heap_alloc_new w2 (.cells (mkc 56 g) 28))
  have HX := Lib.hid (blk_below HX.out (below_alloc1 w2 (.cells (mkc 56 g) 28)))
  have HB := Lib.hid (bt HB.out (below_alloc1 w2 (.cells (mkc 56 g) 28)))
  clear HW
  generalize hgq : w2.heap.size = gq at *
  generalize w2.alloc (.cells (mkc 56 g) 28) = w3 at *
  clear hgq
  obtain ⟨cX, -⟩ := blk_cells HX.out
  have HO' := Lib.hid (fit_i64' HF.out)
  have HONE := Lib.hid (fit_one HF.out)
  have hlo : w.heap.size ≤ w3.heap.size := HB.out.size
  have E1 := HA.out
  have E2 := HB5.out
  have E3 := HC.out
  have E4 := HD.out
  refine Marker.in ?_
  go_wp2_with (first
    | ((with_reducible show wpList _ _ _ (⟨_, .alloc 28, _, _, _, _⟩ :: _) _ _); refine wpList_alloc_pol rfl rfl ?_)
    | ((with_reducible show wpList _ _ _ (⟨_, .load 28 _, _, _, _, _⟩ :: _) _ _); refine wpList_load_pol rfl _ rfl gq g HQ rfl ?_)
    | ((with_reducible show wpList _ _ _ (⟨_, .store 28 _ _, _, _, _, _⟩ :: _) _ _); refine wpList_store_pol rfl (.tmp 13) (.tmp 36) rfl _ _ _ rfl rfl rfl HONE.out ?_; refine Marker.mk ?_))
  have HS := Lib.hid (heap_alloc_new w3 (.cells (mkc 56 g) 28))
  have hgs : gq ≠ w3.heap.size := by have := blk_lt HQ.out; omega
  have HX := Lib.hid (blk_below HX.out (below_alloc1 w3 (.cells (mkc 56 g) 28)))
  have HQ := Lib.hid (blk_below HQ.out (below_alloc1 w3 (.cells (mkc 56 g) 28)))
  have HB := Lib.hid (bt HB.out (below_alloc1 w3 (.cells (mkc 56 g) 28)))
  clear cX
  generalize hgq : w3.heap.size = gs at *
  generalize w3.alloc (.cells (mkc 56 g) 28) = w4 at *
  clear hgq
  obtain ⟨cX, -⟩ := blk_cells HX.out
  obtain ⟨cS, fS⟩ := blk_cells HS.out
  have l1 : 14 + a * 4 + b < 56 := by omega
  have l2 : 9 + d < 56 := by omega
  have l3 : 34 + a < 56 := by omega
  refine Marker.in ?_
  go_wp2_with fail
  obtain ⟨sg, hsg⟩ : ∃ sg, sg = upd (upd (upd g (14 + a * 4 + b) (.int .i64 (n % 16))) (9 + d) (.int .i64 (n % 16))) (34 + a) (.int .i64 (n % 32)) := ⟨_, rfl⟩
  have HSG := Lib.hid hsg
  have hS4 := heap_set (heap_set (heap_set HS.out (14 + a * 4 + b) (.int .i64 (n % 16))) (9 + d) (.int .i64 (n % 16))) (34 + a) (.int .i64 (n % 32))
  rw [mkc_set, mkc_set, mkc_set, ← hsg] at hS4
  have hQ4 : (((w4.setCell ⟨gs, 14 + a * 4 + b, none⟩ (.int .i64 (n % 16))).setCell ⟨gs, 9 + d, none⟩ (.int .i64 (n % 16))).setCell ⟨gs, 34 + a, none⟩ (.int .i64 (n % 32))).heap[gq]? = some (.cells (mkc 56 g) 28 (0, 0)) := by
    rw [Below.heap_setCell _ _ _ _ hgs, Below.heap_setCell _ _ _ _ hgs, Below.heap_setCell _ _ _ _ hgs]; exact HQ.out
  have hB4 := ((HB.out.setCell (p := ⟨gs, 14 + a * 4 + b, none⟩) hlo (.int .i64 (n % 16))).setCell (p := ⟨gs, 9 + d, none⟩) hlo (.int .i64 (n % 16))).setCell (p := ⟨gs, 34 + a, none⟩) hlo (.int .i64 (n % 32))
  have HOS : Hid (∀ i, 9 ≤ i → i < 56 → I64 (sg i)) := by
    intro i h1 h2
    rw [hsg]
    exact i64_upd _ _ _ (by omega) (by omega) (i64_upd _ _ _ (by omega) (by omega) (i64_upd _ _ _ (by omega) (by omega) (HO'.out i h1 h2)))
  clear hsg HS HQ HB cX cS fS l1 l2 l3
  go_loopw [14] (fun y wr => ∃ i : Nat, y = .int .i64 i ∧ i ≤ 5 ∧ wr.heap[gq]? = some (.cells (mkc 56 g) 28 (0, 0)) ∧ wr.heap[gs]? = some (.cells (mkc 56 sg) 28 (0, 0)) ∧ Below w.heap.size w wr) (fun y _ => 5 - (intOf y).toNat)
  case atStart => exact ⟨0, rfl, by omega, hQ4, hS4, hB4⟩
  case round =>
    clear hQ4 hS4 hB4
    obtain ⟨i, rfl, hi5, hq, hs, hb⟩ := hrel
    have HQ := Lib.hid hq
    have HS := Lib.hid hs
    have HB := Lib.hid hb
    clear hq hs hb
    by_cases hlt : i < 5
    · have hd : decide ((i : Int) < 5) = true := by simp; omega
      go_wp2_with fail
      obtain ⟨wo, rfl⟩ : ∃ wo : World, wo = wr := ⟨_, rfl⟩
      go_loopw [15] (fun y wr => ∃ k : Nat, y = .int .i64 k ∧ k ≤ 4 ∧ wr.heap[gq]? = some (.cells (mkc 56 g) 28 (0, 0)) ∧ wr.heap[gs]? = some (.cells (mkc 56 sg) 28 (0, 0)) ∧ Below w.heap.size w wr) (fun y _ => 4 - (intOf y).toNat)
      case atStart => exact ⟨0, rfl, by omega, HQ.out, HS.out, HB.out⟩
      case round =>
        clear HQ HS HB
        obtain ⟨k, rfl, hk4, hq, hs, hb⟩ := hrel
        have HQ := Lib.hid hq
        have HS := Lib.hid hs
        have HB := Lib.hid hb
        clear hq hs hb
        by_cases hk : k < 4
        · have hdk : decide ((k : Int) < 4) = true := by simp; omega
          have hn : ((i : Int) != (a : Int)) = true ∨ i = a ∧ ((k : Int) != (b : Int)) = true ∨ i = a ∧ k = b := by
            by_cases e1 : i = a
            · by_cases e2 : k = b
              · exact .inr (.inr ⟨e1, e2⟩)
              · exact .inr (.inl ⟨e1, by simp; omega⟩)
            · exact .inl (by simp; omega)
          rcases hn with hn | ⟨rfl, hn⟩ | ⟨rfl, rfl⟩
          · have hm : may sg i k c = may g i k c := by rw [HSG.out]; exact parts_may _ _ _ _ _ _ _ _ _ _ (by omega) (by omega) (by omega) (.inl (by simp at hn; omega))
            go_wp2_with fail
            refine wp_region_ext (by kernel_rfl) (by kernel_rfl) ?_
            repeat (first
  | go_big_quiet_skip
              | (go_big_quiet_want
                 first
                   | (refine quiet_load_row 28 _ rfl gq (mkc 56 g) HQ _ Try.underlying28 rfl (by rw [info_pol', mkc_size]) rfl ?_; go_simp; go_big_quiet_on)
                   | (refine quiet_load_row 28 _ rfl gs (mkc 56 sg) HS _ Try.underlying28 rfl (by rw [info_pol', mkc_size]) rfl ?_; go_simp; go_big_quiet_on)
                   | (go_big_quiet_op
                      first
                        | go_big_quiet_on
                        | go_big_quiet_call ((first
                           | (go_at_call_of 28 (Value.agg (mkc 56 g)); exact ext_of (may_any g _ _ _ _ HO'.out)) | (go_at_call_of 28 (Value.agg (mkc 56 sg)); exact ext_of (may_any sg _ _ _ _ HOS.out))
                           | (go_at_call_of 29 (Value.agg (mkc 56 g)); exact ext_of (goes_any g _ _ _ HO'.out)) | (go_at_call_of 29 (Value.agg (mkc 56 sg)); exact ext_of (goes_any sg _ _ _ HOS.out))
                           | (go_at_call_of 30 (Value.agg (mkc 56 g)); exact ext_of (takes_any g _ _ _ HO'.out)) | (go_at_call_of 30 (Value.agg (mkc 56 sg)); exact ext_of (takes_any sg _ _ _ HOS.out)))))))
            refine wpQuiet_nil ?_
            intro _ hw'
            obtain ⟨x, hw''⟩ := hw'
            subst hw''
            have HQ := Lib.hid (exw_heap HQ.out x)
            have HS := Lib.hid (exw_heap HS.out x)
            have HB := Lib.hid (bt HB.out (exw_bel x))
            go_wp2_with fail
            exact ⟨⟨k + 1, by go_num, by omega, HQ.out, HS.out, HB.out⟩, by simp [intOf]; omega⟩
          · have hm : may sg i k c = may g i k c := by rw [HSG.out]; exact parts_may _ _ _ _ _ _ _ _ _ _ (by omega) (by omega) (by omega) (.inr (by simp at hn; omega))
            go_wp2_with fail
            refine wp_region_ext (by kernel_rfl) (by kernel_rfl) ?_
            repeat (first
  | go_big_quiet_skip
              | (go_big_quiet_want
                 first
                   | (refine quiet_load_row 28 _ rfl gq (mkc 56 g) HQ _ Try.underlying28 rfl (by rw [info_pol', mkc_size]) rfl ?_; go_simp; go_big_quiet_on)
                   | (refine quiet_load_row 28 _ rfl gs (mkc 56 sg) HS _ Try.underlying28 rfl (by rw [info_pol', mkc_size]) rfl ?_; go_simp; go_big_quiet_on)
                   | (go_big_quiet_op
                      first
                        | go_big_quiet_on
                        | go_big_quiet_call ((first
                           | (go_at_call_of 28 (Value.agg (mkc 56 g)); exact ext_of (may_any g _ _ _ _ HO'.out)) | (go_at_call_of 28 (Value.agg (mkc 56 sg)); exact ext_of (may_any sg _ _ _ _ HOS.out))
                           | (go_at_call_of 29 (Value.agg (mkc 56 g)); exact ext_of (goes_any g _ _ _ HO'.out)) | (go_at_call_of 29 (Value.agg (mkc 56 sg)); exact ext_of (goes_any sg _ _ _ HOS.out))
                           | (go_at_call_of 30 (Value.agg (mkc 56 g)); exact ext_of (takes_any g _ _ _ HO'.out)) | (go_at_call_of 30 (Value.agg (mkc 56 sg)); exact ext_of (takes_any sg _ _ _ HOS.out)))))))
            refine wpQuiet_nil ?_
            intro _ hw'
            obtain ⟨x, hw''⟩ := hw'
            subst hw''
            have HQ := Lib.hid (exw_heap HQ.out x)
            have HS := Lib.hid (exw_heap HS.out x)
            have HB := Lib.hid (bt HB.out (exw_bel x))
            go_wp2_with fail
            exact ⟨⟨k + 1, by go_num, by omega, HQ.out, HS.out, HB.out⟩, by simp [intOf]; omega⟩
          · go_wp2_with fail
            refine wp_region_ext (by kernel_rfl) (by kernel_rfl) ?_
            repeat (first
  | go_big_quiet_skip
              | (go_big_quiet_want
                 first
                   | (refine quiet_load_row 28 _ rfl gq (mkc 56 g) HQ _ Try.underlying28 rfl (by rw [info_pol', mkc_size]) rfl ?_; go_simp; go_big_quiet_on)
                   | (refine quiet_load_row 28 _ rfl gs (mkc 56 sg) HS _ Try.underlying28 rfl (by rw [info_pol', mkc_size]) rfl ?_; go_simp; go_big_quiet_on)
                   | (go_big_quiet_op
                      first
                        | go_big_quiet_on
                        | go_big_quiet_call ((first
                           | (go_at_call_of 28 (Value.agg (mkc 56 g)); exact ext_of (may_any g _ _ _ _ HO'.out)) | (go_at_call_of 28 (Value.agg (mkc 56 sg)); exact ext_of (may_any sg _ _ _ _ HOS.out))
                           | (go_at_call_of 29 (Value.agg (mkc 56 g)); exact ext_of (goes_any g _ _ _ HO'.out)) | (go_at_call_of 29 (Value.agg (mkc 56 sg)); exact ext_of (goes_any sg _ _ _ HOS.out))
                           | (go_at_call_of 30 (Value.agg (mkc 56 g)); exact ext_of (takes_any g _ _ _ HO'.out)) | (go_at_call_of 30 (Value.agg (mkc 56 sg)); exact ext_of (takes_any sg _ _ _ HOS.out)))))))
            refine wpQuiet_nil ?_
            intro _ hw'
            obtain ⟨x, hw''⟩ := hw'
            subst hw''
            have HQ := Lib.hid (exw_heap HQ.out x)
            have HS := Lib.hid (exw_heap HS.out x)
            have HB := Lib.hid (bt HB.out (exw_bel x))
            go_wp2_with fail
            exact ⟨⟨k + 1, by go_num, by omega, HQ.out, HS.out, HB.out⟩, by simp [intOf]; omega⟩
        · have hdk : decide ((k : Int) < 4) = false := by simp; omega
          have hn : ((i : Int) != (a : Int)) = true ∧ goes sg i a = goes g i a ∨ i = a := by
            by_cases e1 : i = a
            · exact .inr e1
            · exact .inl ⟨by simp; omega, by rw [HSG.out]; exact parts_goes _ _ _ _ _ _ _ _ _ (by omega) (by omega) e1⟩
          have hn' : ((i : Int) != (d : Int)) = true ∧ takes sg i b = takes g i b ∨ i = d := by
            by_cases e1 : i = d
            · exact .inr e1
            · exact .inl ⟨by simp; omega, by rw [HSG.out]; exact parts_takes _ _ _ _ _ _ _ _ _ (by omega) (by omega) e1⟩
          rcases hn with ⟨hn1, hn2⟩ | rfl <;> rcases hn' with ⟨hn3, hn4⟩ | rfl
          all_goals
            go_wp2_with fail
            refine wp_region_ext (by kernel_rfl) (by kernel_rfl) ?_
            repeat (first
  | go_big_quiet_skip
              | (go_big_quiet_want
                 first
                   | (refine quiet_load_row 28 _ rfl gq (mkc 56 g) HQ _ Try.underlying28 rfl (by rw [info_pol', mkc_size]) rfl ?_; go_simp; go_big_quiet_on)
                   | (refine quiet_load_row 28 _ rfl gs (mkc 56 sg) HS _ Try.underlying28 rfl (by rw [info_pol', mkc_size]) rfl ?_; go_simp; go_big_quiet_on)
                   | (go_big_quiet_op
                      first
                        | go_big_quiet_on
                        | go_big_quiet_call ((first
                           | (go_at_call_of 28 (Value.agg (mkc 56 g)); exact ext_of (may_any g _ _ _ _ HO'.out)) | (go_at_call_of 28 (Value.agg (mkc 56 sg)); exact ext_of (may_any sg _ _ _ _ HOS.out))
                           | (go_at_call_of 29 (Value.agg (mkc 56 g)); exact ext_of (goes_any g _ _ _ HO'.out)) | (go_at_call_of 29 (Value.agg (mkc 56 sg)); exact ext_of (goes_any sg _ _ _ HOS.out))
                           | (go_at_call_of 30 (Value.agg (mkc 56 g)); exact ext_of (takes_any g _ _ _ HO'.out)) | (go_at_call_of 30 (Value.agg (mkc 56 sg)); exact ext_of (takes_any sg _ _ _ HOS.out)))))))
            refine wpQuiet_nil ?_
            intro _ hw'
            obtain ⟨x, hw''⟩ := hw'
            subst hw''
            have HQ := Lib.hid (exw_heap HQ.out x)
            have HS := Lib.hid (exw_heap HS.out x)
            have HB := Lib.hid (bt HB.out (exw_bel x))
            go_wp2_with fail
            exact ⟨⟨i + 1, by go_num, by omega, HQ.out, HS.out, HB.out⟩, by simp [intOf]; omega⟩
    · have hd : decide ((i : Int) < 5) = false := by simp; omega
      obtain ⟨r1, hr1, hm1⟩ : ∃ r : Bool, (bits .and .u8 (n / 2 ^ c) 1 == 1) = r ∧ may sg a b c = r ∧ goes sg a c = r := by
        refine ⟨_, rfl, ?_, ?_⟩
        · rw [HSG.out]; exact parts_may1 _ _ _ _ _ _ _ _ n0 n1 (by omega) (by omega) (by omega) (by omega)
        · rw [HSG.out]; exact parts_goes1 _ _ _ _ _ _ _ _ n0 n1 (by omega) (by omega)
      obtain ⟨hm1, hm2⟩ := hm1
      obtain ⟨r2, hr2, hm3⟩ : ∃ r : Bool, (bits .and .u8 (n / 2 ^ b) 1 == 1) = r ∧ takes sg d b = r := by
        refine ⟨_, rfl, ?_⟩
        rw [HSG.out]; exact parts_takes1 _ _ _ _ _ _ _ n0 n1 (by omega) (by omega) (by omega)
      go_wp2_with fail
      refine wp_region_ext (by kernel_rfl) (by kernel_rfl) ?_
      repeat (first
  | go_big_quiet_skip
        | (go_big_quiet_want
           first
             | (refine quiet_load_row 28 _ rfl gq (mkc 56 g) HQ _ Try.underlying28 rfl (by rw [info_pol', mkc_size]) rfl ?_; go_simp; go_big_quiet_on)
             | (refine quiet_load_row 28 _ rfl gs (mkc 56 sg) HS _ Try.underlying28 rfl (by rw [info_pol', mkc_size]) rfl ?_; go_simp; go_big_quiet_on)
             | (go_big_quiet_op
                first
                  | go_big_quiet_on
                  | go_big_quiet_call ((first
                     | (go_at_call_of 28 (Value.agg (mkc 56 g)); exact ext_of (may_any g _ _ _ _ HO'.out)) | (go_at_call_of 28 (Value.agg (mkc 56 sg)); exact ext_of (may_any sg _ _ _ _ HOS.out))
                     | (go_at_call_of 29 (Value.agg (mkc 56 g)); exact ext_of (goes_any g _ _ _ HO'.out)) | (go_at_call_of 29 (Value.agg (mkc 56 sg)); exact ext_of (goes_any sg _ _ _ HOS.out))
                     | (go_at_call_of 30 (Value.agg (mkc 56 g)); exact ext_of (takes_any g _ _ _ HO'.out)) | (go_at_call_of 30 (Value.agg (mkc 56 sg)); exact ext_of (takes_any sg _ _ _ HOS.out)))))))
      refine wpQuiet_nil ?_
      intro _ hw'
      obtain ⟨x, hw''⟩ := hw'
      subst hw''
      have HB := Lib.hid (bt HB.out (exw_bel x))
      go_wp2_with fail
      go_ret
      exact ⟨rfl, HB.out⟩
end Go.Proofs.Ytchbejkmnbbakaa
