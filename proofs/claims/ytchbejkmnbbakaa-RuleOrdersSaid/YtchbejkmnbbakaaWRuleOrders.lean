/- The walk of RuleOrders. -/
import Derived.Test.YtchbejkmnbbakaaOrd
namespace Go.Proofs.Ytchbejkmnbbakaa
open Go.RowKit

theorem flat_three (v : Value) (w : World) (base : Nat) (h : Value.okWide Try.prog w .any base 29 v) : ∃ a b c : Int, v = .agg #[.int .u8 a, .int .u8 b, .int .u8 c] ∧ 0 ≤ a ∧ a ≤ 255 ∧ 0 ≤ b ∧ b ≤ 255 ∧ 0 ≤ c ∧ c ≤ 255 := by
  obtain ⟨cs, rfl, hs, hc⟩ := flat (ts := [5, 5, 5]) (.inr ⟨_, _, Try.underlying29⟩) (by kernel_rfl) (by kernel_rfl) h
  obtain ⟨l⟩ := cs
  match l, hs with
  | [x, y, z], _ =>
    obtain ⟨a, rfl, a1, a2⟩ := opn_u8 Try.underlying5 (hc 0 _ x rfl rfl)
    obtain ⟨b, rfl, b1, b2⟩ := opn_u8 Try.underlying5 (hc 1 _ y rfl rfl)
    obtain ⟨c, rfl, c1, c2⟩ := opn_u8 Try.underlying5 (hc 2 _ z rfl rfl)
    exact ⟨a, b, c, rfl, a1, a2, b1, b2, c1, c2⟩

set_option maxRecDepth 100000 in
set_option maxHeartbeats 8000000 in
theorem walk_RuleOrders (v0 v1 : Value) (w : World) (q0 : IsPol w v0) (q1 : ∃ base, Value.okWide Try.prog w .any base 29 v1) :
    Calls Try.prog 3 #[v0, v1] w fun e w' => e = .returned (.bool true) ∧ Below w.heap.size w w' := by
  obtain ⟨f, rfl, hp⟩ := q0
  obtain ⟨base, q1⟩ := q1
  obtain ⟨s0, s1, s2, rfl, h5, h6, h7, h8, h9, h10⟩ := flat_three _ _ _ q1
  clear q1
  obtain ⟨a, ha, a0, a4⟩ : ∃ a, s0 % 5 = a ∧ 0 ≤ a ∧ a ≤ 4 := ⟨_, rfl, by omega, by omega⟩
  obtain ⟨b, hb, b0, b4⟩ : ∃ a, s1 % 5 = a ∧ 0 ≤ a ∧ a ≤ 4 := ⟨_, rfl, by omega, by omega⟩
  obtain ⟨c, hc, c0, c4⟩ : ∃ a, s2 % 5 = a ∧ 0 ≤ a ∧ a ≤ 4 := ⟨_, rfl, by omega, by omega⟩
  have HP := Lib.hid hp
  have HA := Lib.hid ha
  have HB5 := Lib.hid hb
  have HC := Lib.hid hc
  clear hp ha hb hc
  go_enter Try.func3, Try.ntmps3
  go_wp2_with fail
  refine (shown13 _).mono ?_
  rintro e w1 ⟨rfl, b1⟩
  obtain ⟨z0, z1, zz⟩ := blk_two b1
  have HF := Lib.hid z0
  have HX := Lib.hid z1
  have HB := Lib.hid ((below_alloc2 w _ _).trans (b1.mono (by simp; omega)))
  clear b1 z0 z1
  go_wp2_with ((with_reducible show wpList _ _ _ (⟨_, .load 28 _, _, _, _, _⟩ :: _) _ _); refine wpList_load_pol rfl _ rfl w.heap.size f HF rfl ?_)
  have HP1 : PolOk w1 f := ⟨HP.out.int, fun i h1 h2 => by obtain ⟨A, xs, cap, e, l, c, r, n⟩ := HP.out.key i h1 h2; exact ⟨A, xs, cap, e, l, c, row_below r (HB.out.mono (Nat.le_refl _)), n⟩⟩
  refine (fit_any f w1 HP1).mono ?_
  rintro e w2 ⟨⟨g, rfl, hf⟩, b2⟩
  have HF := Lib.hid hf
  have HX := Lib.hid (blk_below HX.out b2)
  have HB := Lib.hid (bt HB.out b2)
  clear b2 hf HP1 HP
  have HW : ∀ W : World, W = w2.alloc (.cells (mkc 56 g) 28) → Below w2.heap.size w2 W := by rintro W rfl; exact below_alloc1 _ _
  go_wp2_with (first
    | ((with_reducible show wpList _ _ _ (⟨_, .alloc 28, _, _, _, _⟩ :: _) _ _); refine wpList_alloc_pol rfl rfl ?_)
    | ((with_reducible show wpList _ _ _ (⟨_, .store 28 _ _, _, _, _, _⟩ :: _) _ _); refine wpList_store_pol rfl (.tmp 6) (.tmp 15) rfl _ _ _ rfl rfl rfl (fit_one HF.out) ?_; refine Marker.mk ?_))
  have HQ := Lib.hid (heap_alloc_new w2 (.cells (mkc 56 g) 28))
  have HX := Lib.hid (blk_below HX.out (below_alloc1 w2 (.cells (mkc 56 g) 28)))
  have HB := Lib.hid (bt HB.out (below_alloc1 w2 (.cells (mkc 56 g) 28)))
  clear HW
  generalize hgq : w2.heap.size = gq at *
  generalize w2.alloc (.cells (mkc 56 g) 28) = w3 at *
  clear hgq
  obtain ⟨cX, -⟩ := blk_cells HX.out
  obtain ⟨F1, F2, F3, F4, F5, F6⟩ := fit_higher HF.out a b c a0 a4 b0 b4 c0 c4
  have HO := Lib.hid (fit_i64 HF.out)
  have E1 := HA.out
  have E2 := HB5.out
  have E3 := HC.out
  have hz : (a = 0 ∧ (a == 0) = true ∧ (a == 4) = false ∧ higher g a 4 = true) ∨ ((a == 0) = false ∧ a = 4 ∧ (a == 4) = true ∧ higher g 0 a = true) ∨ ((a == 0) = false ∧ (a == 4) = false ∧ higher g 0 a = true ∧ higher g a 4 = true) := by
    by_cases e0 : a = 0
    · exact .inl ⟨e0, by simp [e0], by simp [e0], F5 (by omega)⟩
    · by_cases e4 : a = 4
      · exact .inr (.inl ⟨by simp [e4], e4, by simp [e4], F4 e0⟩)
      · exact .inr (.inr ⟨by simpa using e0, by simpa using e4, F4 e0, F5 e4⟩)
  have ho : ((a != b) = false ∧ higher g a b = false ∧ higher g b a = false) ∨ ((a != b) = true ∧ higher g a b = false ∧ higher g b a = true) ∨ ((a != b) = true ∧ higher g a b = true ∧ higher g b a = false ∧ higher g b c = false) ∨ ((a != b) = true ∧ higher g a b = true ∧ higher g b a = false ∧ higher g b c = true ∧ higher g a c = true) := by
    by_cases e : a = b
    · exact .inl ⟨by simp [e], (F1 e).1, (F1 e).2⟩
    · have e' : (a != b) = true := by simpa using e
      have f2 := F2 e
      cases h : higher g b a
      · rw [h] at f2
        cases h' : higher g b c
        · exact .inr (.inr (.inl ⟨e', f2, rfl, rfl⟩))
        · exact .inr (.inr (.inr ⟨e', f2, rfl, rfl, F3 f2 h'⟩))
      · rw [h] at f2
        exact .inr (.inl ⟨e', f2, rfl⟩)
  clear F1 F2 F3 F4 F5
  refine Marker.in ?_
  rcases hz with ⟨-, z1, z2, z3⟩ | ⟨z1, -, z2, z3⟩ | ⟨z1, z2, z3, z4⟩ <;> rcases ho with ⟨o1, o2, o3⟩ | ⟨o1, o2, o3⟩ | ⟨o1, o2, o3, o4⟩ | ⟨o1, o2, o3, o4, o5⟩
  all_goals
    go_wp2_with (first
      | ((with_reducible show wpList _ _ _ (⟨_, .load 28 _, _, _, _, _⟩ :: _) _ _); refine wpList_load_pol rfl _ rfl gq g HQ rfl ?_)
      | (go_at_call 18; refine (rank_any _ _ _ HO.out).mono ?_; rintro e w4 ⟨rfl, b1⟩; have HQ := Lib.hid (blk_below HQ.out b1); have HB := Lib.hid (bt HB.out b1); clear b1)
      | (go_at_call 17; refine (higher_any _ _ _ _ HO.out).mono ?_; rintro e w4 ⟨rfl, b1⟩; have HQ := Lib.hid (blk_below HQ.out b1); have HB := Lib.hid (bt HB.out b1); clear b1))
    go_ret
    exact ⟨rfl, HB.out⟩

end Go.Proofs.Ytchbejkmnbbakaa
