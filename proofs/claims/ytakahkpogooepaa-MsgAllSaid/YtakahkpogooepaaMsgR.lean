/- msg.Put. -/
import Derived.Test.YtakahkpogooepaaMsgL
import Derived.Test.YtakahkpogooepaaMsgQ
import Derived.Test.YtakahkpogooepaaEqI
namespace Go.Proofs.Ytakahkpogooepaa
open Go.RowKit

set_option maxRecDepth 100000 in
set_option maxHeartbeats 400000 in
theorem fields_none (gm : Nat) (l : List Int) (w : World) (k : Int) (hm : Blk w gm (msgV l) 24) (hk : l.getD 0 0 = k) (hn : fieldsOf k = none) :
    Calls Try.prog 22 #[.pointer (some ⟨gm, 0, none⟩)] w fun e w' => e = .returned (.tuple #[.slice none 0 0, .bool false]) ∧ w = w' := by
  have c0 := hm.cell 0
  rw [msgV_get _ _ (by omega), if_neg (by omega), hk] at c0
  have hne : k ≠ 1 ∧ k ≠ 2 ∧ k ≠ 3 ∧ k ≠ 4 ∧ k ≠ 5 ∧ k ≠ 6 ∧ k ≠ 7 ∧ k ≠ 8 ∧ k ≠ 9 ∧ k ≠ 10 ∧ k ≠ 11 := by
    unfold fieldsOf at hn
    repeat' split at hn
    all_goals first | (cases hn; done) | omega
  obtain ⟨n1, n2, n3, n4, n5, n6, n7, n8, n9, n10, n11⟩ := hne
  have q1 : (k == 1) = false := by simp [n1]
  have q2 : (k == 2) = false := by simp [n2]
  have q3 : (k == 3) = false := by simp [n3]
  have q4 : (k == 4) = false := by simp [n4]
  have q5 : (k == 5) = false := by simp [n5]
  have q6 : (k == 6) = false := by simp [n6]
  have q7 : (k == 7) = false := by simp [n7]
  have q8 : (k == 8) = false := by simp [n8]
  have q9 : (k == 9) = false := by simp [n9]
  have q10 : (k == 10) = false := by simp [n10]
  have q11 : (k == 11) = false := by simp [n11]
  clear hm hk hn
  go_enter Try.func22, Try.ntmps22
  go_wp2_with fail
  go_ret2
  exact ⟨rfl, rfl⟩
/-- what fields tells of any kind -/
def FieldsAny (w : World) (gm : Nat) (k : Int) (e : Ending) (w' : World) : Prop :=
  match fieldsOf k with
  | some ds => FieldsPost w gm ds e w'
  | none => e = .returned (.tuple #[.slice none 0 0, .bool false]) ∧ w = w'
theorem fields_any (gm : Nat) (l : List Int) (w : World) (hm : Blk w gm (msgV l) 24) : Calls Try.prog 22 #[.pointer (some ⟨gm, 0, none⟩)] w (FieldsAny w gm (l.getD 0 0)) := by
  generalize hk : l.getD 0 0 = k at *
  by_cases h1 : k = 1
  · subst h1
    exact fields_1 gm l w hm hk
  by_cases h2 : k = 2
  · subst h2
    exact fields_2 gm l w hm hk
  by_cases h3 : k = 3
  · subst h3
    exact fields_3 gm l w hm hk
  by_cases h4 : k = 4
  · subst h4
    exact fields_4 gm l w hm hk
  by_cases h5 : k = 5
  · subst h5
    exact fields_5 gm l w hm hk
  by_cases h6 : k = 6
  · subst h6
    exact fields_6 gm l w hm hk
  by_cases h7 : k = 7
  · subst h7
    exact fields_7 gm l w hm hk
  by_cases h8 : k = 8
  · subst h8
    exact fields_8 gm l w hm hk
  by_cases h9 : k = 9
  · subst h9
    exact fields_9 gm l w hm hk
  by_cases h10 : k = 10
  · subst h10
    exact fields_10 gm l w hm hk
  by_cases h11 : k = 11
  · subst h11
    exact fields_11 gm l w hm hk
  have hn : fieldsOf k = none := by
    unfold fieldsOf
    rw [if_neg (by omega), if_neg (by omega), if_neg (by omega), if_neg (by omega), if_neg (by omega), if_neg (by omega), if_neg (by omega)]
  unfold FieldsAny
  rw [hn]
  exact fields_none gm l w k hm hk hn
set_option maxHeartbeats 4000000 in
theorem neq_lit (a0 a1 a2 a3 a4 a5 a6 a8 a9 a10 a11 b0 b1 b2 b3 b4 b5 b6 b8 b9 b10 b11 : Int) (a7 b7 : Bool) (W : World) :
    (binOp .neq 24 (.agg #[.int .i64 a0, .int .i64 a1, .int .i64 a2, .int .i64 a3, .int .i64 a4, .int .i64 a5, .int .i64 a6, .bool a7, .int .i64 a8, .int .i64 a9, .int .i64 a10, .int .i64 a11]) (.agg #[.int .i64 b0, .int .i64 b1, .int .i64 b2, .int .i64 b3, .int .i64 b4, .int .i64 b5, .int .i64 b6, .bool b7, .int .i64 b8, .int .i64 b9, .int .i64 b10, .int .i64 b11])).run Try.prog W = .ok (.bool (!decide (a0 = b0 ∧ a1 = b1 ∧ a2 = b2 ∧ a3 = b3 ∧ a4 = b4 ∧ a5 = b5 ∧ a6 = b6 ∧ a7 = b7 ∧ a8 = b8 ∧ a9 = b9 ∧ a10 = b10 ∧ a11 = b11))) W := by
  have hx : (Op.equalIn 9999 22 (.agg #[.int .i64 a8, .int .i64 a9, .int .i64 a10, .int .i64 a11]) (.agg #[.int .i64 b8, .int .i64 b9, .int .i64 b10, .int .i64 b11])).run Try.prog W = .ok (decide (a8 = b8 ∧ a9 = b9 ∧ a10 = b10 ∧ a11 = b11)) W := EqI.run_eq_four _ _ _ _ _ _ _ _ 9997 W
  by_cases e0 : a0 = b0
  · by_cases e1 : a1 = b1
    · by_cases e2 : a2 = b2
      · by_cases e3 : a3 = b3
        · by_cases e4 : a4 = b4
          · by_cases e5 : a5 = b5
            · by_cases e6 : a6 = b6
              · by_cases e7 : a7 = b7
                · by_cases e8 : (a8 = b8 ∧ a9 = b9 ∧ a10 = b10 ∧ a11 = b11)
                  · rw [decide_eq_true e8] at hx
                    obtain ⟨e8, e9, e10, e11⟩ := e8
                    subst e8 e9 e10 e11
                    simp [go_sem, e0, e1, e2, e3, e4, e5, e6, e7, hx]
                  · rw [decide_eq_false e8] at hx
                    have e9 : (!decide (a0 = b0 ∧ a1 = b1 ∧ a2 = b2 ∧ a3 = b3 ∧ a4 = b4 ∧ a5 = b5 ∧ a6 = b6 ∧ a7 = b7 ∧ a8 = b8 ∧ a9 = b9 ∧ a10 = b10 ∧ a11 = b11)) = true := by simp only [Bool.not_eq_true', decide_eq_false_iff_not]; exact fun h => e8 h.2.2.2.2.2.2.2.2
                    rw [e9]
                    simp [go_sem, e0, e1, e2, e3, e4, e5, e6, e7, hx]
                · simp [go_sem, e0, e1, e2, e3, e4, e5, e6, e7]
              · simp [go_sem, e0, e1, e2, e3, e4, e5, e6]
            · simp [go_sem, e0, e1, e2, e3, e4, e5]
          · simp [go_sem, e0, e1, e2, e3, e4]
        · simp [go_sem, e0, e1, e2, e3]
      · simp [go_sem, e0, e1, e2]
    · simp [go_sem, e0, e1]
  · simp [go_sem, e0]
end Go.Proofs.Ytakahkpogooepaa
