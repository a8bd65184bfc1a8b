/- Contracts of package window. -/
import Derived.Test.YtapednkmefbldaaDoorRow
import Derived.RegionTactic
import Derived.BigRegion
import Derived.Lib.Hide
namespace Go.Proofs.YtapednkmefbldaaDoor
open Go.RowKit

/-- A window: nothing seen; or the greatest number, and the bits. -/
def wval : Option (Nat × Nat) → Value
  | none => .agg #[.bool false, .int .i64 0, .int .u64 0]
  | some (h, s) => .agg #[.bool true, .int .i64 h, .int .u64 s]
def wsee : Option (Nat × Nat) → Nat → Option (Nat × Nat) × Bool
  | none, n => (some (n, 1), true)
  | some (h, s), n =>
    if h < n then (some (n, (s * 2 ^ (n - h)) % 2 ^ 64 ||| 1), true)
    else if h - n < 64 then (some (h, s ||| 2 ^ (h - n)), !s.testBit (h - n))
    else (some (h, s), false)
def wok : Option (Nat × Nat) → Prop
  | none => True
  | some (h, s) => h ≤ 4294967295 ∧ s < 2 ^ 64

theorem run_shl64 (s d : Nat) (c : Int) (hs : s < 2 ^ 64) (hc : c = d) (W : World) : (Op.shift BinOp.shl IntKind.u64 (s : Int) IntKind.u64 c).run Tryd.prog W = .ok (.int .u64 ((s * 2 ^ d % 2 ^ 64 : Nat) : Int)) W := by
  subst hc
  have e : IntKind.u64.wrap ((s : Int) * 2 ^ (min d 64)) = ((s * 2 ^ d % 2 ^ 64 : Nat) : Int) := by
    have c1 : (s : Int) * 2 ^ (min d 64) = ((s * 2 ^ (min d 64) : Nat) : Int) := by simp
    rw [c1]
    have c2 : IntKind.u64.wrap ((s * 2 ^ (min d 64) : Nat) : Int) = ((s * 2 ^ (min d 64) % 2 ^ 64 : Nat) : Int) := by
      simp [IntKind.wrap, IntKind.bits, IntKind.signed]
    rw [c2]
    congr 1
    rcases Nat.lt_or_ge d 64 with h | h
    · rw [Nat.min_eq_left (by omega)]
    · rw [Nat.min_eq_right h, Nat.mul_mod_left, show d = (d - 64) + 64 from by omega, Nat.pow_add, ← Nat.mul_assoc, Nat.mul_mod_left]
  unfold Op.shift
  rw [if_neg (by omega), Int.toNat_natCast]
  show (pure (Value.int .u64 (IntKind.u64.wrap ((s : Int) * 2 ^ (min d 64)))) : Sem Value).run Tryd.prog W = _
  rw [e]; rfl

set_option maxRecDepth 100000 in
set_option maxHeartbeats 400000 in
theorem seen_first (n : Nat) (w : World) (h6 : n ≤ 4294967295) :
    Calls Tryd.prog 63 #[.agg #[.bool false, .int .i64 0, .int .u64 0], .int .i64 n] w fun e w' => e = .returned (.agg #[.bool true, .int .i64 n, .int .u64 1]) ∧ Below w.heap.size w w' := by
  go_enter Tryd.func63, Tryd.ntmps63
  go_wp2
  exact bodyPost_ret (v := .agg #[.bool true, .int .i64 n, .int .u64 1]) (by simp [results, Tryd.results63, go_sem]) rfl ⟨rfl, below_alloc2 _ _ _⟩
set_option maxRecDepth 100000 in
set_option maxHeartbeats 400000 in
theorem seen_up (h s n : Nat) (w : World) (h2 : h ≤ 4294967295) (h4 : s < 2 ^ 64) (h5 : h < n) (h6 : n ≤ 4294967295) :
    Calls Tryd.prog 63 #[.agg #[.bool true, .int .i64 h, .int .u64 s], .int .i64 n] w fun e w' => e = .returned (.agg #[.bool true, .int .i64 n, .int .u64 (s * 2 ^ (n - h) % 2 ^ 64 ||| 1 : Nat)]) ∧ Below w.heap.size w w' := by
  have hsh := run_shl64 s (n - h) ((n : Int) - (h : Int)) h4 (by omega)
  have hor : bits .or .u64 ((s * 2 ^ (n - h) % 2 ^ 64 : Nat) : Int) 1 = ((s * 2 ^ (n - h) % 2 ^ 64 ||| 1 : Nat) : Int) := u64_or_nat _ 1 (Nat.mod_lt _ (by omega)) (by omega)
  obtain ⟨x, hx⟩ : ∃ x, s * 2 ^ (n - h) % 2 ^ 64 = x := ⟨_, rfl⟩
  rw [hx] at hsh hor
  rw [hx]
  clear hx
  go_enter Tryd.func63, Tryd.ntmps63
  go_wp2
  exact bodyPost_ret (v := .agg #[.bool true, .int .i64 n, .int .u64 (x ||| 1 : Nat)]) (by simp [results, Tryd.results63, go_sem]) rfl ⟨rfl, below_alloc2 _ _ _⟩
set_option maxRecDepth 100000 in
set_option maxHeartbeats 400000 in
theorem seen_in (h s n : Nat) (w : World) (h2 : h ≤ 4294967295) (h4 : s < 2 ^ 64) (h5 : n ≤ h) (h7 : h - n < 64) :
    Calls Tryd.prog 63 #[.agg #[.bool true, .int .i64 h, .int .u64 s], .int .i64 n] w fun e w' => e = .returned (.agg #[.bool true, .int .i64 h, .int .u64 (s ||| 2 ^ (h - n) : Nat)]) ∧ Below w.heap.size w w' := by
  have hp : 2 ^ (h - n) < 2 ^ 64 := Nat.pow_lt_pow_right (by omega) h7
  have hor : bits .or .u64 (s : Int) (IntKind.u64.wrap (2 ^ (h - n))) = ((s ||| 2 ^ (h - n) : Nat) : Int) := by
    have c1 : ((2 : Int) ^ (h - n)) = ((2 ^ (h - n) : Nat) : Int) := by simp
    rw [c1, IntWalk.u64_in _ ⟨Int.natCast_nonneg _, by omega⟩]
    exact u64_or_nat _ _ (by omega) (by omega)
  have h8 : (h : Int) - (n : Int) < 64 := by omega
  have h9 : (n : Int) ≤ h := by omega
  obtain ⟨x, hx⟩ : ∃ x, s ||| 2 ^ (h - n) = x := ⟨_, rfl⟩
  rw [hx] at hor
  rw [hx]
  clear hx hp
  go_enter Tryd.func63, Tryd.ntmps63
  go_wp2
  go_region
  go_wp2
  exact bodyPost_ret (v := .agg #[.bool true, .int .i64 h, .int .u64 x]) (by simp [results, Tryd.results63, go_sem]) rfl ⟨rfl, (below_alloc2 _ _ _).drew⟩
set_option maxRecDepth 100000 in
set_option maxHeartbeats 400000 in
theorem seen_old (h s n : Nat) (w : World) (h2 : h ≤ 4294967295) (h4 : s < 2 ^ 64) (h5 : n ≤ h) (h7 : 64 ≤ h - n) :
    Calls Tryd.prog 63 #[.agg #[.bool true, .int .i64 h, .int .u64 s], .int .i64 n] w fun e w' => e = .returned (.agg #[.bool true, .int .i64 h, .int .u64 s]) ∧ Below w.heap.size w w' := by
  have h8 : 64 ≤ (h : Int) - (n : Int) := by omega
  have h9 : (n : Int) ≤ h := by omega
  go_enter Tryd.func63, Tryd.ntmps63
  go_wp2
  exact bodyPost_ret (v := .agg #[.bool true, .int .i64 h, .int .u64 s]) (by simp [results, Tryd.results63, go_sem]) rfl ⟨rfl, below_alloc2 _ _ _⟩

theorem run_neq_win (a1 a2 : Bool) (h1 h2 s1 s2 : Int) (W : World) :
    (binOp .neq 96 (.agg #[.bool a2, .int .i64 h2, .int .u64 s2]) (.agg #[.bool a1, .int .i64 h1, .int .u64 s1])).run Tryd.prog W = .ok (.bool (decide (¬ (a2 = a1 ∧ h2 = h1 ∧ s2 = s1)))) W := by
  by_cases e1 : a2 = a1 <;> by_cases e2 : h2 = h1 <;> by_cases e3 : s2 = s1 <;> simp [go_sem, e1, e2, e3]

set_option maxRecDepth 100000 in
set_option maxHeartbeats 400000 in
theorem see_of (a1 a2 : Bool) (h1 h2 s1 s2 : Int) (n : Int) (w : World)
    (hc : ∀ w, Calls Tryd.prog 63 #[.agg #[.bool a1, .int .i64 h1, .int .u64 s1], .int .i64 n] w fun e w' => e = .returned (.agg #[.bool a2, .int .i64 h2, .int .u64 s2]) ∧ Below w.heap.size w w') :
    Calls Tryd.prog 51 #[.agg #[.bool a1, .int .i64 h1, .int .u64 s1], .int .i64 n] w fun e w' => e = .returned (.tuple #[.agg #[.bool a2, .int .i64 h2, .int .u64 s2], .bool (decide (¬ (a2 = a1 ∧ h2 = h1 ∧ s2 = s1)))]) ∧ Below w.heap.size w w' := by
  have HC := Lib.hid hc
  have hn := run_neq_win a1 a2 h1 h2 s1 s2
  obtain ⟨b, hb⟩ : ∃ b, decide (¬ (a2 = a1 ∧ h2 = h1 ∧ s2 = s1)) = b := ⟨_, rfl⟩
  rw [hb] at hn
  rw [hb]
  clear hc hb
  go_enter Tryd.func51, Tryd.ntmps51
  go_wp2_with fail
  refine (HC.out _).mono ?_
  rintro e w1 ⟨rfl, b1⟩
  obtain ⟨q0, q1, hz⟩ := blk_two b1
  obtain ⟨c0, f0⟩ := blk_cells q0
  obtain ⟨c1, f1⟩ := blk_cells q1
  have B := Lib.hid ((below_alloc2 w _ _).trans (b1.mono (by simp; omega)))
  have hz0 : w.heap.size < w1.heap.size := by omega
  clear q0 q1 b1 f0
  go_wp2
  go_region
  go_wp2
  refine bodyPost_ret (v := .tuple #[.agg #[.bool a2, .int .i64 h2, .int .u64 s2], .bool b]) ?_ rfl ⟨rfl, ((((B.out.setCell (by simp) _).setCell (by simp) _).setCell (by simp) _).alloc (by simp [World.setCell]; omega) _).drew⟩
  simp [results, Tryd.results51, go_sem, c1, hz]

theorem or_bit (s d : Nat) : (s ||| 2 ^ d = s) ↔ s.testBit d = true := by
  constructor
  · intro h
    rw [← h, Nat.testBit_or, Nat.testBit_two_pow]; simp
  · intro h
    apply Nat.eq_of_testBit_eq
    intro i
    rw [Nat.testBit_or, Nat.testBit_two_pow]
    by_cases e : d = i
    · subst e; simp [h]
    · simp [e]

/-- window.See, whole. -/
theorem see_any (v : Option (Nat × Nat)) (n : Nat) (w : World) (hv : wok v) (hn : n ≤ 4294967295) :
    Calls Tryd.prog 51 #[wval v, .int .i64 n] w fun e w' => e = .returned (.tuple #[wval (wsee v n).1, .bool (wsee v n).2]) ∧ Below w.heap.size w w' := by
  rcases v with _ | ⟨h, s⟩
  · refine (see_of false true 0 n 0 1 n w (fun w => seen_first n w hn)).mono ?_
    rintro e w' ⟨rfl, hb⟩
    exact ⟨by simp [wval, wsee], hb⟩
  · obtain ⟨h1, h2⟩ := hv
    by_cases c1 : h < n
    · refine (see_of true true h n s _ n w (fun w => seen_up h s n w h1 h2 c1 hn)).mono ?_
      rintro e w' ⟨rfl, hb⟩
      refine ⟨?_, hb⟩
      have e1 : ¬ ((n : Int) = (h : Int)) := by omega
      simp only [wsee, if_pos c1, wval, e1, false_and, and_false, not_false_eq_true, decide_true]
    · by_cases c2 : h - n < 64
      · refine (see_of true true h h s _ n w (fun w => seen_in h s n w h1 h2 (by omega) c2)).mono ?_
        rintro e w' ⟨rfl, hb⟩
        refine ⟨?_, hb⟩
        have e1 : decide (¬ (true = true ∧ (h : Int) = h ∧ ((s ||| 2 ^ (h - n) : Nat) : Int) = s)) = !s.testBit (h - n) := by
          have := or_bit s (h - n)
          rw [Bool.eq_iff_iff]
          simp only [true_and, decide_eq_true_eq, Bool.not_eq_true', Int.natCast_inj]
          rw [this]; simp
        rw [e1]
        simp only [wsee, if_neg c1, if_pos c2, wval]
      · refine (see_of true true h h s s n w (fun w => seen_old h s n w h1 h2 (by omega) (by omega))).mono ?_
        rintro e w' ⟨rfl, hb⟩
        refine ⟨?_, hb⟩
        simp only [wsee, if_neg c1, if_neg c2, wval]
        simp
/-- .. as a walk wants it: the value, the number and what comes of it as they stand there. -/
theorem see_at {v v' : Option (Nat × Nat)} {n : Nat} {f : Bool} {a r : Value} {k : Int} (hs : wsee v n = (v', f)) (hv : wok v) (hn : n ≤ 4294967295) (ha : a = wval v) (hr : r = wval v') (hk : k = n) :
    ∀ w, Calls Tryd.prog 51 #[a, .int .i64 k] w fun e w' => e = .returned (.tuple #[r, .bool f]) ∧ Below w.heap.size w w' := by
  intro w
  subst ha hr hk
  have := see_any v n w hv hn
  rwa [hs] at this
end Go.Proofs.YtapednkmefbldaaDoor
