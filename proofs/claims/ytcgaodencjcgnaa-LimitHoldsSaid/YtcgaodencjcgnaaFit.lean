/- sidestickref12.Fit and what it calls: mod, key. -/
import Derived.Test.YtcgaodencjcgnaaPol
import Derived.Test.YtcgaodencjcgnaaApp
import Derived.Lib.Hide
namespace Go.Proofs.Ytcgaodencjcgnaa
open Go.RowKit

theorem tmod_mod (n m : Int) (hm : 1 ≤ m) (hm2 : m ≤ 1000000) (h1 : -9223372036854775808 ≤ n) (h2 : n ≤ 9223372036854775807) : (n.tmod m + m) % m = n % m := by
  have e := Int.mul_tdiv_add_tmod n m
  rw [Int.add_emod_right]
  conv => rhs; rw [← e, Int.mul_add_emod_self_left]
set_option maxRecDepth 100000 in
set_option maxHeartbeats 400000 in
theorem mod_any (n m : Int) (w : World) (h1 : -9223372036854775808 ≤ n) (h2 : n ≤ 9223372036854775807) (hm : 1 ≤ m) (hm2 : m ≤ 1000000) :
    Calls Try.prog 18 #[.int .i64 n, .int .i64 m] w fun e w' => e = .returned (.int .i64 (n % m)) ∧ w = w' := by
  have b1 := Int.tmod_lt_of_pos n (b := m) (by omega)
  have b2 := Int.lt_tmod_of_pos n (b := m) (by omega)
  have HM := Lib.hid (tmod_mod n m hm hm2 h1 h2)
  have hz : (m == 0) = false := by simp; omega
  go_enter Try.func18, Try.ntmps18
  go_wp2
  all_goals
    go_ret
    exact ⟨by first | (rw [← HM.out]; rfl) | skip, rfl⟩

theorem own_seven (w : World) : Own (w.alloc (.cells #[.int .u8 7] 5)) w.heap.size (some ⟨w.heap.size, 0, none⟩) 1 [7] :=
  ⟨World.ownsRow_lit w #[.int .u8 7] 1 (Nat.le_refl _) (by unfold maxLen; omega) rfl, fun x hx => by simp at hx; omega⟩
/-- A key of the call's own. -/
def NewKey (w : World) (base : Nat) (e : Ending) : Prop := ∃ (B : Option Addr) (n c : Nat) (ys : List Int), e = .returned (.slice B n c) ∧ ys.length = n ∧ Own w base B c ys ∧ 1 ≤ n ∧ n ≤ 64
set_option maxRecDepth 100000 in
set_option maxHeartbeats 400000 in
theorem key_any (A : Option Addr) (xs : List Int) (cap : Nat) (w : World) (hr : Row w A xs) (hl : xs.length ≤ cap) (hc : cap ≤ 9223372036854775807) :
    Calls Try.prog 17 #[.slice A xs.length cap] w fun e w' => NewKey w' w.heap.size e ∧ Below w.heap.size w w' := by
  have ba : ∀ o, Below w.heap.size w (w.alloc o) := fun o => (Below.refl _ _).alloc (Nat.le_refl _) o
  by_cases h0 : xs = []
  · subst h0
    go_enter Try.func17, Try.ntmps17
    go_wp2
    go_ret
    exact ⟨⟨_, 1, 1, [7], rfl, rfl, own_seven w, by omega, by omega⟩, ba _⟩
  · have hpos : 0 < xs.length := by cases xs <;> simp_all
    have hz : ((xs.length : Int) == 0) = false := by simp; omega
    by_cases h64 : 64 < xs.length
    · have BA := Lib.hid ba
      have HR := Lib.hid (row_take hr 64)
      have hlen : (xs.take 64).length = 64 := by rw [List.length_take]; omega
      have HL := Lib.hid hlen
      clear ba hr hlen h0
      go_enter Try.func17, Try.ntmps17
      go_wp2_with (at_builtin
                   refine wpList_append_bytes _ rfl (.tmp 7) (.tmp 12) rfl w.heap.size _ 0 0 [] rfl rfl (own_lit w _ (Nat.le_refl _)) A cap 64 (xs.take 64) HL.out rfl (row_below HR.out (BA.out _)) (by omega) (BA.out _).size ?_
                   intro A1 cap1 w4 o1 b4)
      go_ret
      rw [List.nil_append] at o1
      exact ⟨⟨A1, 64, cap1, _, rfl, HL.out, o1, by omega, by omega⟩, (BA.out _).trans b4⟩
    · have BA := Lib.hid ba
      have HR := Lib.hid hr
      clear ba hr h0
      go_enter Try.func17, Try.ntmps17
      go_wp2_with (at_builtin
                   refine wpList_append_bytes _ rfl (.tmp 7) (.tmp 12) rfl w.heap.size _ 0 0 [] rfl rfl (own_lit w _ (Nat.le_refl _)) A cap xs.length xs rfl rfl (row_below HR.out (BA.out _)) (by omega) (BA.out _).size ?_
                   intro A1 cap1 w4 o1 b4)
      go_ret
      rw [List.nil_append] at o1
      exact ⟨⟨A1, xs.length, cap1, xs, by first | rfl | simp, rfl, o1, by omega, by omega⟩, (BA.out _).trans b4⟩

/-- A key in a block of the call's own, from lo on, that no store into block o touches. -/
def KeyOk (w : World) (lo o : Nat) (v : Value) : Prop := ∃ (A : Option Addr) (n cap : Nat) (ys : List Int) (base : Nat), v = .slice A n cap ∧ ys.length = n ∧ Own w base A cap ys ∧ 1 ≤ n ∧ n ≤ 64 ∧ (∀ x, A = some x → x.block ≠ o) ∧ lo ≤ base
theorem KeyOk.below {w w' : World} {lo o : Nat} {v : Value} (h : KeyOk w lo o v) (hb : Below w.heap.size w w') : KeyOk w' lo o v := by
  obtain ⟨A, n, cap, ys, base, e, l, ho, r⟩ := h
  exact ⟨A, n, cap, ys, base, e, l, own_below ho hb, r⟩
theorem KeyOk.keep {w w' : World} {lo o : Nat} {v : Value} (h : KeyOk w lo o v) (hw : ∀ k, k ≠ o → w'.heap[k]? = w.heap[k]?) : KeyOk w' lo o v := by
  obtain ⟨A, n, cap, ys, base, e, l, ho, h1, h2, hx, hlo⟩ := h
  refine ⟨A, n, cap, ys, base, e, l, ⟨?_, ho.2⟩, h1, h2, hx, hlo⟩
  obtain ⟨k1, k2⟩ := ho.1
  refine ⟨k1, ?_⟩
  rcases k2 with k2 | ⟨g, cap', cur, hv, hg, hh, hl⟩
  · exact .inl k2
  · refine .inr ⟨g, cap', cur, hv, hg, ?_, hl⟩
    rw [hw]
    · exact hh
    · injection hv with e1 e2 e3
      exact hx _ e1
theorem KeyOk.set {w : World} {lo o : Nat} {v : Value} (h : KeyOk w lo o v) (i : Nat) (u : Value) : KeyOk (w.setCell ⟨o, i, none⟩ u) lo o v :=
  h.keep fun k hk => Below.heap_setCell _ _ _ _ hk
theorem KeyOk.other {w : World} {lo o p : Nat} {v : Value} (h : KeyOk w lo o v) (hp : p < lo) : KeyOk w lo p v := by
  obtain ⟨A, n, cap, ys, base, e, l, ho, h1, h2, hx, hlo⟩ := h
  refine ⟨A, n, cap, ys, base, e, l, ho, h1, h2, ?_, hlo⟩
  rintro x rfl
  rcases ho.1.2 with ⟨k2, -⟩ | ⟨g, cap', cur, hv, hg, hh, hl⟩
  · cases k2
  · injection hv with e1 e2 e3
    injection e1 with e1
    subst e1
    simp only
    omega
theorem KeyOk.isBytes {w : World} {lo o : Nat} {v : Value} (h : KeyOk w lo o v) : IsBytes w v := by
  obtain ⟨A, n, cap, ys, base, rfl, rfl, ho, -⟩ := h
  exact ho.isBytes
theorem KeyOk.new {w : World} {base lo o : Nat} {B : Option Addr} {n c : Nat} {ys : List Int} (hl : ys.length = n) (ho : Own w base B c ys) (h1 : 1 ≤ n) (h2 : n ≤ 64) (h : o < base ∨ w.heap.size ≤ o) (hlo : lo ≤ base) : KeyOk w lo o (.slice B n c) := by
  refine ⟨B, n, c, ys, base, rfl, hl, ho, h1, h2, ?_, hlo⟩
  rintro x rfl
  rcases ho.1.2 with ⟨k2, -⟩ | ⟨g, cap', cur, hv, hg, hh, hl⟩
  · cases k2
  · injection hv with e1 e2 e3
    injection e1 with e1
    subst e1
    have := blk_lt hh
    simp only
    omega
end Go.Proofs.Ytcgaodencjcgnaa
