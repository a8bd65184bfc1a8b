/- The walk of RuleNone. -/
import Derived.Test.YtchbejkmnbbakaaOrd
import Derived.Test.YtchbejkmnbbakaaFlat3
namespace Go.Proofs.Ytchbejkmnbbakaa
open Go.RowKit

theorem place_none (x y z s : Int) (x1 : 1 ≤ x) (x3 : x ≤ 3) (y1 : 1 ≤ y) (y3 : y ≤ 3) (z1 : 1 ≤ z) (z3 : z ≤ 3) (h : s < 0 ∨ 5 ≤ s) : place 0 x y z 4 s = -1 := by
  unfold place
  rw [if_neg (by omega), if_neg (by omega), if_neg (by omega), if_neg (by omega), if_neg (by omega)]
theorem inb_odd (odd k : Int) (hk : k ≤ 5) (h : odd < 0 ∨ 5 ≤ odd) : inb odd k = false := decide_eq_false (by omega)
theorem has_odd (s odd : Int) (h : odd < 0) : has s odd = false := by
  unfold has; rw [decide_eq_false (by omega)]; rfl
theorem fit_none {w : World} {g : Nat → Value} (h : Fitted w g) (a b c odd : Int) (ho : odd < 0 ∨ 5 ≤ odd) :
    takes g odd b = false ∧ takes g a odd = false ∧ may g odd b c = false ∧ may g a odd c = false ∧ may g a b odd = false ∧ goes g odd a = false ∧ goes g a odd = false ∧ rank g odd = -1 ∧ higher g odd a = false ∧ higher g a odd = false := by
  obtain ⟨x, y, z, hr, x1, x3, y1, y3, z1, z3, -⟩ := fit_order h
  have e := place_none x y z odd x1 x3 y1 y3 z1 z3 ho
  rw [← hr] at e
  have i5 := inb_odd odd 5 (by omega) ho
  have i4 := inb_odd odd 4 (by omega) ho
  refine ⟨?_, ?_, ?_, ?_, ?_, ?_, ?_, e, ?_, ?_⟩
  · simp [takes, i5]
  · simp [takes, i4]
  · simp [may, i5]
  · simp [may, i4]
  · simp [may, i4]
  · simp [goes, i5]
  · simp [goes, i5]
  · simp [higher, e]
  · simp [higher, e]

set_option maxRecDepth 100000 in
set_option maxHeartbeats 8000000 in
theorem walk_RuleNone (v0 v1 v2 : Value) (w : World) (q0 : IsPol w v0) (q1 : ∃ n : Int, v1 = .int .i64 n ∧ -9223372036854775808 ≤ n ∧ n ≤ 9223372036854775807) (q2 : ∃ base, Value.okWide Try.prog w .any base 29 v2) :
    Calls Try.prog 13 #[v0, v1, v2] w fun e w' => e = .returned (.bool true) ∧ Below w.heap.size w w' := by
  obtain ⟨f, rfl, hp⟩ := q0
  obtain ⟨n, rfl, n0, n1⟩ := q1
  obtain ⟨base, q2⟩ := q2
  obtain ⟨s0, s1, s2, rfl, h5, h6, h7, h8, h9, h10⟩ := flat_three _ _ _ q2
  clear q2
  obtain ⟨a, ha, a0, a4⟩ : ∃ a, s0 % 5 = a ∧ 0 ≤ a ∧ a ≤ 4 := ⟨_, rfl, by omega, by omega⟩
  obtain ⟨b, hb, b0, b4⟩ : ∃ a, s1 % 4 = a ∧ 0 ≤ a ∧ a ≤ 3 := ⟨_, rfl, by omega, by omega⟩
  obtain ⟨c, hc, c0, c4⟩ : ∃ a, s2 % 4 = a ∧ 0 ≤ a ∧ a ≤ 3 := ⟨_, rfl, by omega, by omega⟩
  obtain ⟨odd, hodd, ho⟩ : ∃ odd : Int, (if n < 0 then -1 - n % 1024 else 5 + n % 1024) = odd ∧ (odd < 0 ∨ 5 ≤ odd) := ⟨_, rfl, by split <;> omega⟩
  have HODD := Lib.hid hodd
  have HON := Lib.hid ho
  clear hodd ho
  have HP := Lib.hid hp
  have HA := Lib.hid ha
  have HB5 := Lib.hid hb
  have HC := Lib.hid hc
  clear hp ha hb hc
  go_enter Try.func13, Try.ntmps13
  go_wp2_with fail
  refine (shown13 _).mono ?_
  rintro e w1 ⟨rfl, b1⟩
  obtain ⟨z0, z1, zz⟩ := blk_two b1
  have HF := Lib.hid z0
  have HX := Lib.hid z1
  have HB := Lib.hid ((below_alloc2 w _ _).trans (b1.mono (by simp; omega)))
  clear b1 z0 z1
  go_wp2_with ((with_reducible show wpList _ _ _ (⟨_, .load 28 _, _, _, _, _⟩ :: _) _ _); refine wpList_load_pol rfl _ rfl w.heap.size f HF rfl ?_)
  have HP1 : PolOk w1 f := ⟨HP.out.int, fun i h1 h2 => by obtain ⟨A, xs, cap, e, l, c, r, n⟩ := HP.out.key i h1 h2; exact ⟨A, xs, cap, e, l, c, row_below r (HB.out.mono (Nat.le_refl _)), n⟩⟩
  refine (fit_any f w1 HP1).mono ?_
  rintro e w2 ⟨⟨g, rfl, hf⟩, b2⟩
  have HF := Lib.hid hf
  have HX := Lib.hid (blk_below HX.out b2)
  have HB := Lib.hid (bt HB.out b2)
  clear b2 hf HP1 HP
  have HW : ∀ W : World, W = w2.alloc (.cells (mkc 56 g) 28) → Below w2.heap.size w2 W := by rintro W rfl; exact below_alloc1 _ _
  go_wp2_with (first
    | ((with_reducible show wpList _ _ _ (⟨_, .alloc 28, _, _, _, _⟩ :: _) _ _); refine wpList_alloc_pol rfl rfl ?_)
    | ((with_reducible show wpList _ _ _ (⟨_, .store 28 _ _, _, _, _, _⟩ :: _) _ _); refine wpList_store_pol rfl (.tmp 8) (.tmp 16) rfl _ _ _ rfl rfl rfl (fit_one HF.out) ?_; refine Marker.mk ?_))
  have HQ := Lib.hid (heap_alloc_new w2 (.cells (mkc 56 g) 28))
  have HX := Lib.hid (blk_below HX.out (below_alloc1 w2 (.cells (mkc 56 g) 28)))
  have HB := Lib.hid (bt HB.out (below_alloc1 w2 (.cells (mkc 56 g) 28)))
  clear HW
  generalize hgq : w2.heap.size = gq at *
  generalize w2.alloc (.cells (mkc 56 g) 28) = w3 at *
  clear hgq
  obtain ⟨cX, -⟩ := blk_cells HX.out
  have HO := Lib.hid (fit_i64 HF.out)
  have HO' := Lib.hid (fit_i64' HF.out)
  have E1 := HA.out
  have E2 := HB5.out
  have E3 := HC.out
  obtain ⟨T1, T2, T3, T4, T5, T6, T7, T8, T9, T10⟩ := fit_none HF.out a b c odd HON.out
  refine Marker.in ?_
  by_cases hn : n < 0
  · have E4 : -1 - n % 1024 = odd := by have := HODD.out; rw [if_pos hn] at this; exact this
    go_wp2_with (first
      | ((with_reducible show wpList _ _ _ (⟨_, .load 28 _, _, _, _, _⟩ :: _) _ _); refine wpList_load_pol rfl _ rfl gq g HQ rfl ?_)
      | (go_at_call 18; refine (rank_any _ _ _ HO.out).mono ?_; rintro e w4 ⟨rfl, b1⟩; have HQ := Lib.hid (blk_below HQ.out b1); have HB := Lib.hid (bt HB.out b1); clear b1)
      | (go_at_call 17; refine (higher_any _ _ _ _ HO.out).mono ?_; rintro e w4 ⟨rfl, b1⟩; have HQ := Lib.hid (blk_below HQ.out b1); have HB := Lib.hid (bt HB.out b1); clear b1)
      | (go_at_call 30; refine (takes_any _ _ _ _ HO'.out).mono ?_; rintro e w4 ⟨rfl, b1⟩; have HQ := Lib.hid (blk_below HQ.out b1); have HB := Lib.hid (bt HB.out b1); clear b1)
      | (go_at_call 28; refine (may_any _ _ _ _ _ HO'.out).mono ?_; rintro e w4 ⟨rfl, b1⟩; have HQ := Lib.hid (blk_below HQ.out b1); have HB := Lib.hid (bt HB.out b1); clear b1)
      | (go_at_call 29; refine (goes_any _ _ _ _ HO'.out).mono ?_; rintro e w4 ⟨rfl, b1⟩; have HQ := Lib.hid (blk_below HQ.out b1); have HB := Lib.hid (bt HB.out b1); clear b1))
    go_ret
    exact ⟨rfl, HB.out⟩
  · have E4 : 5 + n % 1024 = odd := by have := HODD.out; rw [if_neg hn] at this; exact this
    go_wp2_with (first
      | ((with_reducible show wpList _ _ _ (⟨_, .load 28 _, _, _, _, _⟩ :: _) _ _); refine wpList_load_pol rfl _ rfl gq g HQ rfl ?_)
      | (go_at_call 18; refine (rank_any _ _ _ HO.out).mono ?_; rintro e w4 ⟨rfl, b1⟩; have HQ := Lib.hid (blk_below HQ.out b1); have HB := Lib.hid (bt HB.out b1); clear b1)
      | (go_at_call 17; refine (higher_any _ _ _ _ HO.out).mono ?_; rintro e w4 ⟨rfl, b1⟩; have HQ := Lib.hid (blk_below HQ.out b1); have HB := Lib.hid (bt HB.out b1); clear b1)
      | (go_at_call 30; refine (takes_any _ _ _ _ HO'.out).mono ?_; rintro e w4 ⟨rfl, b1⟩; have HQ := Lib.hid (blk_below HQ.out b1); have HB := Lib.hid (bt HB.out b1); clear b1)
      | (go_at_call 28; refine (may_any _ _ _ _ _ HO'.out).mono ?_; rintro e w4 ⟨rfl, b1⟩; have HQ := Lib.hid (blk_below HQ.out b1); have HB := Lib.hid (bt HB.out b1); clear b1)
      | (go_at_call 29; refine (goes_any _ _ _ _ HO'.out).mono ?_; rintro e w4 ⟨rfl, b1⟩; have HQ := Lib.hid (blk_below HQ.out b1); have HB := Lib.hid (bt HB.out b1); clear b1))
    go_ret
    exact ⟨rfl, HB.out⟩
end Go.Proofs.Ytchbejkmnbbakaa
