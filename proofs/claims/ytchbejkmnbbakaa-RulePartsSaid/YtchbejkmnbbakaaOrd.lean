/- The head of the rule laws; what holds of the order of a policy that may be. -/
import Derived.Test.YtchbejkmnbbakaaRule
import Derived.Test.YtchbejkmnbbakaaPolW
import Derived.Test.YtchbejkmnbbakaaFit3
namespace Go.Proofs.Ytchbejkmnbbakaa
open Go.RowKit

theorem place_perm (x y z s : Int) (x1 : 1 ≤ x) (x3 : x ≤ 3) (y1 : 1 ≤ y) (y3 : y ≤ 3) (z1 : 1 ≤ z) (z3 : z ≤ 3) (xy : x ≠ y) (xz : x ≠ z) (yz : y ≠ z) (s0 : 0 ≤ s) (s4 : s ≤ 4) :
    0 ≤ place 0 x y z 4 s ∧ place 0 x y z 4 s ≤ 4 ∧ (place 0 x y z 4 s = 0 ↔ s = 0) ∧ (place 0 x y z 4 s = 4 ↔ s = 4) ∧ (place 0 x y z 4 s = 1 → s = x) ∧ (place 0 x y z 4 s = 2 → s = y) ∧ (place 0 x y z 4 s = 3 → s = z) := by
  unfold place
  repeat' split
  all_goals omega
theorem place_inj (x y z s t : Int) (x1 : 1 ≤ x) (x3 : x ≤ 3) (y1 : 1 ≤ y) (y3 : y ≤ 3) (z1 : 1 ≤ z) (z3 : z ≤ 3) (xy : x ≠ y) (xz : x ≠ z) (yz : y ≠ z) (s0 : 0 ≤ s) (s4 : s ≤ 4) (t0 : 0 ≤ t) (t4 : t ≤ 4)
    (h : place 0 x y z 4 s = place 0 x y z 4 t) : s = t := by
  unfold place at h
  repeat' split at h
  all_goals omega
theorem fit_order {w : World} {g : Nat → Value} (h : Fitted w g) : ∃ x y z : Int, (∀ s, rank g s = place 0 x y z 4 s) ∧ 1 ≤ x ∧ x ≤ 3 ∧ 1 ≤ y ∧ y ≤ 3 ∧ 1 ≤ z ∧ z ≤ 3 ∧ x ≠ y ∧ x ≠ z ∧ y ≠ z := by
  obtain ⟨a, b, c, e1, e2, e3, r⟩ := h.perm
  refine ⟨a, b, c, fun s => ?_, by omega, by omega, by omega, by omega, by omega, by omega, by omega, by omega, by omega⟩
  unfold rank pn
  rw [h.o0, h.o4, e1, e2, e3]
  rfl
theorem fit_i64 {w : World} {g : Nat → Value} (h : Fitted w g) : ∀ i, i < 5 → I64 (g i) := by
  obtain ⟨a, b, c, e1, e2, e3, r⟩ := h.perm
  have := h.o0
  have := h.o4
  intro i hi
  have mk : ∀ n : Int, 0 ≤ n → n ≤ 4 → I64 (.int .i64 n) := fun n h1 h2 => ⟨rfl, by show -9223372036854775808 ≤ n; omega, by show n ≤ 9223372036854775807; omega⟩
  rcases (show i = 0 ∨ i = 1 ∨ i = 2 ∨ i = 3 ∨ i = 4 by omega) with rfl | rfl | rfl | rfl | rfl
  · rw [h.o0]; exact mk _ (by omega) (by omega)
  · rw [e1]; exact mk _ (by omega) (by omega)
  · rw [e2]; exact mk _ (by omega) (by omega)
  · rw [e3]; exact mk _ (by omega) (by omega)
  · rw [h.o4]; exact mk _ (by omega) (by omega)
theorem hiOf_le (i : Nat) : hiOf i ≤ 65535 := by
  unfold hiOf
  repeat' split
  all_goals omega
theorem fit_i64' {w : World} {g : Nat → Value} (h : Fitted w g) : ∀ i, 9 ≤ i → i < 56 → I64 (g i) := by
  intro i h1 h2
  obtain ⟨n, e, -, hn, -⟩ := h.int i h1 h2
  have := hiOf_le i
  rw [e]
  exact ⟨rfl, by simp only [intOf]; omega, by simp only [intOf]; omega⟩
theorem fit_one {w : World} {g : Nat → Value} (h : Fitted w g) : ∀ i, i < 56 → (g i).oneCell' = true := by
  intro i hi
  by_cases h9 : 9 ≤ i
  · obtain ⟨n, e, -⟩ := h.int i h9 hi
    rw [e]; rfl
  · by_cases h5 : 5 ≤ i
    · obtain ⟨A, n, cap, ys, base, e, -⟩ := h.keys i h5 (by omega)
      rw [e]; rfl
    · have := fit_i64 h i (by omega)
      rw [this.1]; rfl
theorem higher_nat {u v : Int} (hu : 0 ≤ u) (hv : 0 ≤ v) : (u != -1 && v != -1 && decide (u < v)) = decide (u < v) := by
  rw [show (u != -1) = true from by simp; omega, show (v != -1) = true from by simp; omega]; rfl
/-- what the order of a policy that may be is good for -/
theorem fit_higher {w : World} {g : Nat → Value} (h : Fitted w g) (a b c : Int) (a0 : 0 ≤ a) (a4 : a ≤ 4) (b0 : 0 ≤ b) (b4 : b ≤ 4) (c0 : 0 ≤ c) (c4 : c ≤ 4) :
    (a = b → higher g a b = false ∧ higher g b a = false) ∧ (a ≠ b → higher g a b = !higher g b a) ∧ (higher g a b = true → higher g b c = true → higher g a c = true) ∧ (a ≠ 0 → higher g 0 a = true) ∧ (a ≠ 4 → higher g a 4 = true) ∧
    (rank g (5 + a) = -1) := by
  obtain ⟨x, y, z, hr, x1, x3, y1, y3, z1, z3, xy, xz, yz⟩ := fit_order h
  obtain ⟨p1, p2, p3, p4, p5, p6, p7⟩ := place_perm x y z a x1 x3 y1 y3 z1 z3 xy xz yz a0 a4
  obtain ⟨r1, r2, r3, r4, r5, r6, r7⟩ := place_perm x y z b x1 x3 y1 y3 z1 z3 xy xz yz b0 b4
  obtain ⟨s1, s2, s3, s4, s5, s6, s7⟩ := place_perm x y z c x1 x3 y1 y3 z1 z3 xy xz yz c0 c4
  have q0 : rank g 0 = 0 := by rw [hr]; rfl
  have q4 : rank g 4 = 4 := by rw [hr]; unfold place; rw [if_neg (by omega), if_neg (by omega), if_neg (by omega), if_neg (by omega), if_pos rfl]
  have q5 : rank g (5 + a) = -1 := by rw [hr]; unfold place; rw [if_neg (by omega), if_neg (by omega), if_neg (by omega), if_neg (by omega), if_neg (by omega)]
  have inj : rank g a = rank g b → a = b := fun e => place_inj x y z a b x1 x3 y1 y3 z1 z3 xy xz yz a0 a4 b0 b4 (by rw [← hr, ← hr]; exact e)
  clear p5 p6 p7 r3 r4 r5 r6 r7 s3 s4 s5 s6 s7
  rw [← hr] at p1 p2 p3 p4 r1 r2 s1 s2
  have inj0 : rank g a = 0 → a = 0 := p3.1
  have inj4 : rank g a = 4 → a = 4 := p4.1
  clear hr p3 p4 x1 x3 y1 y3 z1 z3 xy xz yz
  unfold higher
  rw [higher_nat p1 r1, higher_nat r1 p1, higher_nat r1 s1, higher_nat p1 s1, q0, q4, higher_nat (Int.le_refl 0) p1, higher_nat p1 (by omega : (0:Int) ≤ 4)]
  generalize hu : rank g a = u at *
  generalize hv : rank g b = v at *
  generalize rank g c = t at *
  refine ⟨fun e => ?_, fun e => ?_, ?_, fun e => ?_, fun e => ?_, q5⟩
  · have : u = v := by rw [← hu, ← hv, e]
    subst this
    simp
  · have hne : u ≠ v := fun h => e (inj h)
    clear inj inj0 inj4
    by_cases hlt : u < v
    · rw [decide_eq_true hlt, decide_eq_false (by omega)]; rfl
    · rw [decide_eq_false hlt, decide_eq_true (by omega)]; rfl
  · intro h1 h2
    have h1 := of_decide_eq_true h1
    have h2 := of_decide_eq_true h2
    exact decide_eq_true (by omega)
  · have : u ≠ 0 := fun h => e (inj0 h)
    clear inj inj0 inj4
    exact decide_eq_true (by omega)
  · have : u ≠ 4 := fun h => e (inj4 h)
    clear inj inj0 inj4
    exact decide_eq_true (by omega)

def q13 : Nat → Value := fun i => if i = 1 then .int .i64 2 else if i = 2 then .int .i64 1 else if i = 3 then .int .i64 3 else if i = 4 then .int .i64 4 else if i = 0 then .int .i64 0 else if i ≤ 8 then .slice none 0 0 else .int .i64 0
theorem built_13 : Try.prog.built 28 [(0, .agg #[.int .i64 0, .int .i64 2, .int .i64 1, .int .i64 3, .int .i64 4])] = some (mkc 56 q13) := by kernel_rfl
theorem q13_one : ∀ i, i < 56 → (q13 i).oneCell' = true := by
  intro i hi
  unfold q13
  repeat' split
  all_goals rfl
theorem q13_int : ∀ i, i < 5 → I64 (q13 i) := by
  intro i hi
  rcases (show i = 0 ∨ i = 1 ∨ i = 2 ∨ i = 3 ∨ i = 4 by omega) with rfl | rfl | rfl | rfl | rfl <;> (simp only [q13, I64, intOf]; refine ⟨rfl, ?_, ?_⟩ <;> decide)
set_option maxRecDepth 100000 in
set_option maxHeartbeats 800000 in
theorem shown13 (w : World) : Calls Try.prog 15 #[] w fun e w' => e = .returned (.bool true) ∧ Below w.heap.size w w' := by
  have e1 : rank q13 2 = 1 := by rfl
  have e2 : higher q13 2 1 = true := by rfl
  have e3 : higher q13 1 2 = false := by rfl
  have HQ := Lib.hid (heap_alloc_new w (.cells (mkc 56 q13) 28))
  have HB := Lib.hid (below_alloc1 w (.cells (mkc 56 q13) 28))
  have HO := Lib.hid q13_int
  go_enter Try.func15, Try.ntmps15
  go_wp2_with (first
    | ((with_reducible show wpList _ _ _ (⟨some 3, _, _, _, _, _⟩ :: _) _ _); refine wpList_build' rfl 28 #[(0, .tmp 2)] rfl (mkc 56 q13) built_13 ?_)
    | ((with_reducible show wpList _ _ _ (⟨_, .alloc 28, _, _, _, _⟩ :: _) _ _); refine wpList_alloc_pol rfl rfl ?_)
    | ((with_reducible show wpList _ _ _ (⟨_, .store 28 _ _, _, _, _, _⟩ :: _) _ _); refine wpList_store_pol rfl (.tmp 1) (.tmp 3) rfl _ _ _ rfl rfl rfl q13_one ?_)
    | ((with_reducible show wpList _ _ _ (⟨_, .load 28 _, _, _, _, _⟩ :: _) _ _); refine wpList_load_pol rfl _ rfl w.heap.size q13 HQ rfl ?_)
    | (go_at_call 18; refine (rank_any _ _ _ HO.out).mono ?_; rintro e w1 ⟨rfl, b1⟩; have HQ := Lib.hid (blk_below HQ.out b1); have HB := Lib.hid (below_next HB.out b1 (by simp)); clear b1)
    | (go_at_call 17; refine (higher_any _ _ _ _ HO.out).mono ?_; rintro e w2 ⟨rfl, b1⟩; have HQ := Lib.hid (blk_below HQ.out b1); have HB := Lib.hid (HB.out.trans (b1.mono HB.out.size)); clear b1))
  go_ret
  exact ⟨rfl, HB.out⟩
end Go.Proofs.Ytchbejkmnbbakaa
