/- '==' of messages; the walk of MsgSizes: parts. -/
import Derived.Test.YtakahkpogooepaaMsgB
import Derived.Test.YtakahkpogooepaaMinMax
namespace Go.Proofs.Ytakahkpogooepaa
open Go.RowKit

set_option maxHeartbeats 4000000 in
theorem eql_lit (a0 a1 a2 a3 a4 a5 a6 a8 a9 a10 a11 b0 b1 b2 b3 b4 b5 b6 b8 b9 b10 b11 : Int) (a7 b7 : Bool) (W : World) :
    (binOp .eql 24 (.agg #[.int .i64 a0, .int .i64 a1, .int .i64 a2, .int .i64 a3, .int .i64 a4, .int .i64 a5, .int .i64 a6, .bool a7, .int .i64 a8, .int .i64 a9, .int .i64 a10, .int .i64 a11]) (.agg #[.int .i64 b0, .int .i64 b1, .int .i64 b2, .int .i64 b3, .int .i64 b4, .int .i64 b5, .int .i64 b6, .bool b7, .int .i64 b8, .int .i64 b9, .int .i64 b10, .int .i64 b11])).run Try.prog W = .ok (.bool (decide (a0 = b0 ∧ a1 = b1 ∧ a2 = b2 ∧ a3 = b3 ∧ a4 = b4 ∧ a5 = b5 ∧ a6 = b6 ∧ a7 = b7 ∧ a8 = b8 ∧ a9 = b9 ∧ a10 = b10 ∧ a11 = b11))) W := by
  have hx : (Op.equalIn 9999 22 (.agg #[.int .i64 a8, .int .i64 a9, .int .i64 a10, .int .i64 a11]) (.agg #[.int .i64 b8, .int .i64 b9, .int .i64 b10, .int .i64 b11])).run Try.prog W = .ok (decide (a8 = b8 ∧ a9 = b9 ∧ a10 = b10 ∧ a11 = b11)) W := EqI.run_eq_four _ _ _ _ _ _ _ _ 9997 W
  by_cases e0 : a0 = b0
  · by_cases e1 : a1 = b1
    · by_cases e2 : a2 = b2
      · by_cases e3 : a3 = b3
        · by_cases e4 : a4 = b4
          · by_cases e5 : a5 = b5
            · by_cases e6 : a6 = b6
              · by_cases e7 : a7 = b7
                · by_cases e8 : (a8 = b8 ∧ a9 = b9 ∧ a10 = b10 ∧ a11 = b11)
                  · rw [decide_eq_true e8] at hx
                    obtain ⟨e8, e9, e10, e11⟩ := e8
                    subst e8 e9 e10 e11
                    simp [go_sem, e0, e1, e2, e3, e4, e5, e6, e7, hx]
                  · rw [decide_eq_false e8] at hx
                    have e9 : decide (a0 = b0 ∧ a1 = b1 ∧ a2 = b2 ∧ a3 = b3 ∧ a4 = b4 ∧ a5 = b5 ∧ a6 = b6 ∧ a7 = b7 ∧ a8 = b8 ∧ a9 = b9 ∧ a10 = b10 ∧ a11 = b11) = false := by simp only [decide_eq_false_iff_not]; exact fun h => e8 h.2.2.2.2.2.2.2.2
                    rw [e9]
                    simp [go_sem, e0, e1, e2, e3, e4, e5, e6, e7, hx]
                · simp [go_sem, e0, e1, e2, e3, e4, e5, e6, e7]
              · simp [go_sem, e0, e1, e2, e3, e4, e5, e6]
            · simp [go_sem, e0, e1, e2, e3, e4, e5]
          · simp [go_sem, e0, e1, e2, e3, e4]
        · simp [go_sem, e0, e1, e2, e3]
      · simp [go_sem, e0, e1, e2]
    · simp [go_sem, e0, e1]
  · simp [go_sem, e0]
set_option maxRecDepth 100000 in
theorem eql_msg (x y : List Int) (hx : IsMsgL x) (hy : IsMsgL y) (W : World) : (binOp .eql 24 (.agg (msgV x)) (.agg (msgV y))).run Try.prog W = .ok (.bool (decide (x = y))) W := by
  obtain ⟨hx, hx7⟩ := hx
  obtain ⟨hy, hy7⟩ := hy
  match x, hx with
  | [a0, a1, a2, a3, a4, a5, a6, a7, a8, a9, a10, a11], _ =>
    match y, hy with
    | [b0, b1, b2, b3, b4, b5, b6, b7, b8, b9, b10, b11], _ =>
      have h := eql_lit a0 a1 a2 a3 a4 a5 a6 a8 a9 a10 a11 b0 b1 b2 b3 b4 b5 b6 b8 b9 b10 b11 (a7 == 1) (b7 == 1) W
      have e : ((a7 == 1) = (b7 == 1)) ↔ a7 = b7 := by
        have hx7' : a7 = 0 ∨ a7 = 1 := hx7
        have hy7' : b7 = 0 ∨ b7 = 1 := hy7
        rcases hx7' with rfl | rfl <;> rcases hy7' with rfl | rfl <;> decide
      refine h.trans ?_
      congr 2
      rw [decide_eq_decide, e]
      simp
theorem sz_bound (k : Int) : 2 ≤ szOf k ∧ szOf k ≤ 16 := by
  unfold szOf
  repeat' split
  all_goals omega
theorem sizes_plain {x y p q : List Int} (hx : x.length = 12) (hy : y.length = 12) (hp : put8 x = some p) (hq : put8 y = some q) : p.take (min p.length q.length) = q.take (min p.length q.length) ↔ x = y := by
  constructor
  · intro h
    have l1 := put8_len hp
    have l2 := put8_len hq
    have b1 := (sz_bound (x.getD 0 0)).1
    have b2 := (sz_bound (y.getD 0 0)).1
    have h1 : p.take 1 = q.take 1 := by
      have := congrArg (List.take 1) h
      rwa [List.take_take, List.take_take, Nat.min_eq_left (by omega)] at this
    rw [(put8_kind hp).1, (put8_kind hq).1] at h1
    injection h1 with h1
    rw [h1] at l1
    rw [l1, l2, Nat.min_self, List.take_of_length_le (by omega), List.take_of_length_le (by omega)] at h
    subst h
    exact put8_inj hx hy hp hq
  · rintro rfl
    rw [hp] at hq
    injection hq with hq
    rw [hq]
theorem own_cap8 {w : World} {base c : Nat} {A : Option Addr} {xs : List Int} (h : Own w base A c xs) : xs.length ≤ c ∧ c ≤ 9223372036854775807 := by
  obtain ⟨A', ys, cap, e, h1, h2, -⟩ := h.isBytes
  injection e with e1 e2 e3
  omega
theorem quiet_load_blk {P : Program} {a : Act} {o : Oper} {W : World} {K : Act → Prop} {T : TypeId} {g n : Nat} {cs : Array Value} (hT : AggT P T n) (x : Operand) (ho : o.op = .load T x) (hx : a.eval x = .pointer (some ⟨g, 0, none⟩)) (hg : Hid (Blk W g cs T)) (hn : cs.size = n)
    (hk : K (a.put o.dst (.agg cs))) : o.quiet P a (fun w' => ∃ x, w' = exw W x) K := by
  obtain ⟨⟨d, hu, hd⟩, hi⟩ := hT
  refine ⟨_, fun w hw => ?_, hk⟩
  obtain ⟨y, rfl⟩ := hw
  have hrun : (loadVar T ⟨g, 0, none⟩).run P (exw W y) = .ok (.agg cs) (exw W y) := by
    cases d <;> first | (cases hd; done) | exact run_loadVar_row _ g T T cs (0, 0) _ (hg.out.below (exw_bel y)) hu rfl (by rw [hi, hn])
  unfold Oper.quietAt execOp
  simp only [ho, hx, Instr.loadAt, Instr.sureAddr, Sem.run_bind, Sem.run_pure, Result.andThen_ok, hrun]
  exact ⟨rfl, rfl⟩
def sizes12 : Array Value := #[.int .i64 0, .int .i64 2, .int .i64 2, .int .i64 5, .int .i64 5, .int .i64 6, .int .i64 6, .int .i64 7, .int .i64 5, .int .i64 5, .int .i64 8, .int .i64 16]
theorem sizes12_get (k : Nat) (h1 : 1 ≤ k) (h2 : k ≤ 11) : sizes12[k]? = some (.int .i64 (szOf (k : Int))) := by
  have h : k = 1 ∨ k = 2 ∨ k = 3 ∨ k = 4 ∨ k = 5 ∨ k = 6 ∨ k = 7 ∨ k = 8 ∨ k = 9 ∨ k = 10 ∨ k = 11 := by omega
  rcases h with rfl | rfl | rfl | rfl | rfl | rfl | rfl | rfl | rfl | rfl | rfl <;> rfl
end Go.Proofs.Ytakahkpogooepaa
