/- Windows against the list of all numbers that were new: plain. -/
import Derived.Test.YtchbejkmnbbakaaWin
namespace Go.Proofs.Ytchbejkmnbbakaa

/-- The window is that of the numbers 'used'. -/
def WInv (used : List Nat) : Option (Nat × Nat) → Prop
  | none => used = []
  | some (h, s) => h ∈ used ∧ (∀ u ∈ used, u ≤ h) ∧ s < 2 ^ 64 ∧ ∀ d, d < 64 → s.testBit d = decide (d ≤ h ∧ h - d ∈ used)
def fresh0 : Option (Nat × Nat) → Nat → Bool
  | none, _ => true
  | some (h, _), n => decide ((h : Int) - 64 < (n : Int))
def freshB (used : List Nat) (v : Option (Nat × Nat)) (n : Nat) : Bool := fresh0 v n && used.all fun u => u != n

theorem all_ne {used : List Nat} {n : Nat} : (used.all fun u => u != n) = decide (n ∉ used) := by
  rw [Bool.eq_iff_iff]
  simp only [List.all_eq_true, bne_iff_ne, decide_eq_true_eq]
  exact ⟨fun h hn => h n hn rfl, fun h u hu e => h (e ▸ hu)⟩
theorem once_up {used : List Nat} {h s n : Nat} (hi : WInv used (some (h, s))) (c : h < n) : WInv (used ++ [n]) (some (n, s * 2 ^ (n - h) % 2 ^ 64 ||| 1)) := by
  obtain ⟨h1, h2, h3, h4⟩ := hi
  refine ⟨by simp, fun u hu => ?_, Nat.or_lt_two_pow (Nat.mod_lt _ (by omega)) (by omega), fun d hd => ?_⟩
  · simp only [List.mem_append, List.mem_singleton] at hu
    rcases hu with hu | rfl
    · have := h2 u hu; omega
    · omega
  · rw [Nat.testBit_or, Nat.testBit_mod_two_pow, ← Nat.shiftLeft_eq, Nat.testBit_shiftLeft]
    have e1 : Nat.testBit 1 d = decide (d = 0) := by
      cases d with
      | zero => rfl
      | succ d => simp [Nat.testBit_succ]
    rw [e1]
    simp only [decide_eq_true hd, Bool.true_and]
    by_cases c0 : d = 0
    · subst c0; simp
    · rw [decide_eq_false c0, Bool.or_false]
      by_cases ck : n - h ≤ d
      · rw [decide_eq_true (show d ≥ n - h from ck), Bool.true_and, h4 _ (by omega)]
        apply decide_eq_decide.2
        simp only [List.mem_append, List.mem_singleton]
        constructor
        · rintro ⟨a, b⟩
          refine ⟨by omega, .inl ?_⟩
          rw [show n - d = h - (d - (n - h)) from by omega]; exact b
        · rintro ⟨a, b | b⟩
          · have := h2 _ b
            refine ⟨by omega, ?_⟩
            rw [show h - (d - (n - h)) = n - d from by omega]; exact b
          · omega
      · rw [decide_eq_false (show ¬ d ≥ n - h from ck), Bool.false_and]
        refine (decide_eq_false ?_).symm
        simp only [List.mem_append, List.mem_singleton]
        rintro ⟨a, b | b⟩
        · have := h2 _ b; omega
        · omega
theorem once_in {used : List Nat} {h s n : Nat} (hi : WInv used (some (h, s))) (c : n ≤ h) (c2 : h - n < 64) (hf : n ∉ used) : WInv (used ++ [n]) (some (h, s ||| 2 ^ (h - n))) := by
  obtain ⟨h1, h2, h3, h4⟩ := hi
  refine ⟨by simp [h1], fun u hu => ?_, Nat.or_lt_two_pow h3 (Nat.pow_lt_pow_right (by omega) c2), fun d hd => ?_⟩
  · simp only [List.mem_append, List.mem_singleton] at hu
    rcases hu with hu | rfl
    · exact h2 u hu
    · omega
  · rw [Nat.testBit_or, Nat.testBit_two_pow, h4 d hd, ← Bool.decide_or]
    apply decide_eq_decide.2
    simp only [List.mem_append, List.mem_singleton]
    constructor
    · rintro (⟨a, b⟩ | rfl)
      · exact ⟨a, .inl b⟩
      · exact ⟨by omega, .inr (by omega)⟩
    · rintro ⟨a, b | b⟩
      · exact .inl ⟨a, b⟩
      · exact .inr (by omega)
theorem once_ok {used : List Nat} {v : Option (Nat × Nat)} (hi : WInv used v) (hu : ∀ u ∈ used, u ≤ 4294967295) : wok v := by
  rcases v with _ | ⟨h, s⟩
  · trivial
  · obtain ⟨h1, h2, h3, h4⟩ := hi
    exact ⟨hu h h1, h3⟩
theorem once_step {used : List Nat} {v : Option (Nat × Nat)} (n : Nat) (hi : WInv used v) :
    (wsee v n).2 = freshB used v n ∧ ((wsee v n).2 = true → WInv (used ++ [n]) (wsee v n).1) ∧ ((wsee v n).2 = false → (wsee v n).1 = v) := by
  rcases v with _ | ⟨h, s⟩
  · have hi : used = [] := hi
    subst hi
    refine ⟨by simp [wsee, freshB, fresh0], fun _ => ?_, fun h => by simp [wsee] at h⟩
    refine ⟨by simp, fun u hu => by simp at hu; omega, by omega, fun d hd => ?_⟩
    cases d with
    | zero => simp
    | succ d =>
      simp only [Nat.testBit_succ]
      simp
      omega
  · have hi' := hi
    obtain ⟨h1, h2, h3, h4⟩ := hi
    by_cases c : h < n
    · have e : wsee (some (h, s)) n = (some (n, s * 2 ^ (n - h) % 2 ^ 64 ||| 1), true) := by simp only [wsee, if_pos c]
      rw [e]
      refine ⟨?_, fun _ => once_up hi' c, fun h => by simp at h⟩
      show true = (decide ((h : Int) - 64 < (n : Int)) && used.all fun u => u != n)
      rw [all_ne, decide_eq_true (show (h : Int) - 64 < n by omega), decide_eq_true (show n ∉ used from fun hn => by have := h2 n hn; omega)]
      rfl
    · by_cases c2 : h - n < 64
      · have e : wsee (some (h, s)) n = (some (h, s ||| 2 ^ (h - n)), !s.testBit (h - n)) := by simp only [wsee, if_neg c, if_pos c2]
        have hb := h4 (h - n) c2
        have hm : (h - n ≤ h ∧ h - (h - n) ∈ used) ↔ n ∈ used := by
          rw [show h - (h - n) = n from by omega]
          exact ⟨fun x => x.2, fun x => ⟨by omega, x⟩⟩
        rw [decide_eq_decide.2 hm] at hb
        rw [e, hb]
        refine ⟨?_, fun hf => once_in hi' (by omega) c2 (by simpa using hf), fun hf => ?_⟩
        · show (!decide (n ∈ used)) = (decide ((h : Int) - 64 < (n : Int)) && used.all fun u => u != n)
          rw [all_ne, decide_eq_true (show (h : Int) - 64 < n by omega), Bool.true_and]
          simp
        · have hn : n ∈ used := by simpa using hf
          have := (or_bit s (h - n)).2 (by rw [hb]; simpa using hn)
          simp only
          rw [this]
      · have e : wsee (some (h, s)) n = (some (h, s), false) := by simp only [wsee, if_neg c, if_neg c2]
        rw [e]
        refine ⟨?_, fun h => by simp at h, fun _ => rfl⟩
        show false = (decide ((h : Int) - 64 < (n : Int)) && used.all fun u => u != n)
        rw [decide_eq_false (show ¬ (h : Int) - 64 < n by omega), Bool.false_and]
theorem once_odd {used : List Nat} {h s : Nat} (hi : WInv used (some (h, s))) : bits .and .u64 (s : Int) 1 = 1 := by
  obtain ⟨h1, h2, h3, h4⟩ := hi
  have h5 := h4 0 (by omega)
  rw [Nat.sub_zero, decide_eq_true ⟨Nat.zero_le _, h1⟩, Nat.testBit_zero] at h5
  have h6 : s % 2 = 1 := by simpa using h5
  have := u64_and_nat s 1 h3 (by omega)
  rw [Nat.and_one_is_mod, h6] at this
  exact this
def hiV : Option (Nat × Nat) → Int
  | none => -1
  | some (h, _) => h
theorem once_hi {used : List Nat} {v : Option (Nat × Nat)} {n h s : Nat} (hi : WInv used v) (hv : (wsee v n).1 = some (h, s)) : (h : Int) = max (hiV v) n := by
  rcases v with _ | ⟨h0, s0⟩
  · simp only [wsee, Option.some.injEq, Prod.mk.injEq] at hv
    simp only [hiV]; omega
  · simp only [hiV]
    by_cases c : h0 < n
    · simp only [wsee, if_pos c, Option.some.injEq, Prod.mk.injEq] at hv
      omega
    · by_cases c2 : h0 - n < 64
      · simp only [wsee, if_neg c, if_pos c2, Option.some.injEq, Prod.mk.injEq] at hv
        omega
      · simp only [wsee, if_neg c, if_neg c2, Option.some.injEq, Prod.mk.injEq] at hv
        omega
theorem see_some (v : Option (Nat × Nat)) (n : Nat) : ∃ h s, (wsee v n).1 = some (h, s) := by
  rcases v with _ | ⟨h0, s0⟩
  · exact ⟨_, _, rfl⟩
  · by_cases c : h0 < n
    · exact ⟨n, s0 * 2 ^ (n - h0) % 2 ^ 64 ||| 1, by simp only [wsee, if_pos c]⟩
    · by_cases c2 : h0 - n < 64
      · exact ⟨h0, s0 ||| 2 ^ (h0 - n), by simp only [wsee, if_neg c, if_pos c2]⟩
      · exact ⟨h0, s0, by simp only [wsee, if_neg c, if_neg c2]⟩
theorem all_take (us : List Nat) (n k : Nat) (h : k < us.length) : (us.take (k + 1)).all (fun u => u != n) = ((us.take k).all (fun u => u != n) && us[k] != n) := by
  rw [List.take_succ_eq_append_getElem h, List.all_append]; simp
end Go.Proofs.Ytchbejkmnbbakaa
