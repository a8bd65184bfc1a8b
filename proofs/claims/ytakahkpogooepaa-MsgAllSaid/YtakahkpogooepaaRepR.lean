/- msg.replied of any kind; '!=' and '==' of replies. -/
import Derived.Test.YtakahkpogooepaaRepL
import Derived.Test.YtakahkpogooepaaMsgQ
import Derived.Test.YtakahkpogooepaaEqI
namespace Go.Proofs.Ytakahkpogooepaa
open Go.RowKit

section
variable {P : Program}
theorem run_eqItems_u89 {e : TypeId} (he : P.underlying e = some (.int .u8)) (d : Nat) (x y : List Int) (n : Nat) (hx : x.length = n) (hy : y.length = n) (W : World) : ∀ (m j : Nat), j + m ≤ n →
    (Op.eqItems (d + 1) e 1 (u8V x) (u8V y) (List.range' j m)).run P W = .ok ((List.range' j m).all fun i => x.getD i 0 == y.getD i 0) W
  | 0, j, _ => by
    simp only [List.range'_zero, Op.eqItems, Sem.run_pure, List.all_nil]
  | m + 1, j, h => by
    have p1 := EqI.run_part_int he (u8V x) j _ (u8V_get x j (by omega)) W
    have p2 := EqI.run_part_int he (u8V y) j _ (u8V_get y j (by omega)) W
    rw [List.range'_succ, List.all_cons]
    simp only [Op.eqItems, Sem.run_bind, Nat.mul_one, p1, p2, Result.andThen_ok, run_equalIn_int W d e .u8 .u8 _ _ he]
    cases hb : (x.getD j 0 == y.getD j 0)
    · simp only [Bool.not_false, if_true, Sem.run_pure, Bool.false_and]
    · simp only [Bool.not_true, Bool.false_eq_true, if_false, Bool.true_and]
      exact run_eqItems_u89 he d x y n hx hy W m (j + 1) (by omega)
theorem all_getD9 (x y : List Int) (n : Nat) (hx : x.length = n) (hy : y.length = n) : ((List.range n).all fun i => x.getD i 0 == y.getD i 0) = decide (x = y) := by
  rw [Bool.eq_iff_iff, decide_eq_true_iff, List.all_eq_true]
  constructor
  · intro h
    refine List.ext_getElem (by omega) fun i h1 h2 => ?_
    have := h i (by simp; omega)
    simpa [h1, h2] using this
  · rintro rfl i _
    simp
theorem run_eq_u89 {t e : TypeId} {n : Nat} {i : TypeInfo} (hu : P.underlying t = some (.array n e)) (he : P.underlying e = some (.int .u8)) (hc : P.cellsOf e = 1) (hi : P.info? e = some i) (d : Nat) (x y : List Int) (hx : x.length = n) (hy : y.length = n) (W : World) :
    (Op.equalIn (d + 1 + 1) t (.agg (u8V x)) (.agg (u8V y))).run P W = .ok (decide (x = y)) W := by
  rw [run_equalIn_array W (d + 1) _ _ hu hi, hc, List.range_eq_range', run_eqItems_u89 he d x y n hx hy W n 0 (by omega), ← List.range_eq_range', all_getD9 x y n hx hy]
end
theorem info_u8e9 : ∃ i, Try.prog.info? 5 = some i := by
  obtain ⟨i0, hi, -⟩ := info_parts info_u8
  exact ⟨i0, hi⟩
set_option maxRecDepth 100000 in
set_option maxHeartbeats 400000 in
theorem replied_none (gm : Nat) (l : List Int) (w : World) (k : Int) (hm : Blk w gm (repV l) 40) (hk : l.getD 0 0 = k) (hn : repliedOf k = none) :
    Calls Try.prog 30 #[.pointer (some ⟨gm, 0, none⟩)] w fun e w' => e = .returned (.tuple #[.slice none 0 0, .bool false]) ∧ w = w' := by
  have c0 := hm.cell 0
  rw [repV_get _ _ (by omega), if_neg (by omega), hk] at c0
  have hne : k ≠ 129 ∧ k ≠ 130 ∧ k ≠ 131 ∧ k ≠ 132 ∧ k ≠ 133 ∧ k ≠ 134 ∧ k ≠ 135 ∧ k ≠ 136 := by
    unfold repliedOf at hn
    repeat' split at hn
    all_goals first | (cases hn; done) | omega
  obtain ⟨n129, n130, n131, n132, n133, n134, n135, n136⟩ := hne
  have q129 : (k == 129) = false := by simp [n129]
  have q130 : (k == 130) = false := by simp [n130]
  have q131 : (k == 131) = false := by simp [n131]
  have q132 : (k == 132) = false := by simp [n132]
  have q133 : (k == 133) = false := by simp [n133]
  have q134 : (k == 134) = false := by simp [n134]
  have q135 : (k == 135) = false := by simp [n135]
  have q136 : (k == 136) = false := by simp [n136]
  clear hm hk hn
  go_enter Try.func30, Try.ntmps30
  go_wp2_with fail
  go_ret2
  exact ⟨rfl, rfl⟩
/-- what replied tells of any kind -/
def RepliedAny (w : World) (gm : Nat) (k : Int) (e : Ending) (w' : World) : Prop :=
  match repliedOf k with
  | some ds => FieldsPost w gm ds e w'
  | none => e = .returned (.tuple #[.slice none 0 0, .bool false]) ∧ w = w'
theorem replied_any (gm : Nat) (l : List Int) (w : World) (hm : Blk w gm (repV l) 40) : Calls Try.prog 30 #[.pointer (some ⟨gm, 0, none⟩)] w (RepliedAny w gm (l.getD 0 0)) := by
  generalize hk : l.getD 0 0 = k at *
  by_cases h129 : k = 129
  · subst h129
    exact replied_129 gm l w hm hk
  by_cases h130 : k = 130
  · subst h130
    exact replied_130 gm l w hm hk
  by_cases h131 : k = 131
  · subst h131
    exact replied_131 gm l w hm hk
  by_cases h132 : k = 132
  · subst h132
    exact replied_132 gm l w hm hk
  by_cases h133 : k = 133
  · subst h133
    exact replied_133 gm l w hm hk
  by_cases h134 : k = 134
  · subst h134
    exact replied_134 gm l w hm hk
  by_cases h135 : k = 135
  · subst h135
    exact replied_135 gm l w hm hk
  by_cases h136 : k = 136
  · subst h136
    exact replied_136 gm l w hm hk
  have hn : repliedOf k = none := by
    unfold repliedOf
    rw [if_neg (by omega), if_neg (by omega), if_neg (by omega), if_neg (by omega), if_neg (by omega), if_neg (by omega), if_neg (by omega)]
  unfold RepliedAny
  rw [hn]
  exact replied_none gm l w k hm hk hn
set_option maxHeartbeats 4000000 in
theorem neq_rlit (a0 a1 a2 a3 a4 a5 a6 a7 a8 a9 a10 a11 a12 a13 b0 b1 b2 b3 b4 b5 b6 b7 b8 b9 b10 b11 b12 b13 : Int) (W : World) :
    (binOp .neq 40 (.agg #[.int .i64 a0, .int .i64 a1, .int .i64 a2, .int .i64 a3, .int .i64 a4, .int .i64 a5, .int .u8 a6, .int .u8 a7, .int .u8 a8, .int .u8 a9, .int .u8 a10, .int .u8 a11, .int .u8 a12, .int .u8 a13]) (.agg #[.int .i64 b0, .int .i64 b1, .int .i64 b2, .int .i64 b3, .int .i64 b4, .int .i64 b5, .int .u8 b6, .int .u8 b7, .int .u8 b8, .int .u8 b9, .int .u8 b10, .int .u8 b11, .int .u8 b12, .int .u8 b13])).run Try.prog W = .ok (.bool (!decide (a0 = b0 ∧ a1 = b1 ∧ a2 = b2 ∧ a3 = b3 ∧ a4 = b4 ∧ a5 = b5 ∧ [a6, a7, a8, a9, a10, a11, a12, a13] = [b6, b7, b8, b9, b10, b11, b12, b13]))) W := by
  obtain ⟨i0, hi⟩ := info_u8e9
  have hx := run_eq_u89 Try.underlying38 Try.underlying5 (by kernel_rfl) hi 9997 [a6, a7, a8, a9, a10, a11, a12, a13] [b6, b7, b8, b9, b10, b11, b12, b13] rfl rfl W
  simp only [u8V, List.map_cons, List.map_nil, Nat.reduceAdd] at hx
  by_cases e0 : a0 = b0
  · by_cases e1 : a1 = b1
    · by_cases e2 : a2 = b2
      · by_cases e3 : a3 = b3
        · by_cases e4 : a4 = b4
          · by_cases e5 : a5 = b5
            · by_cases e8 : [a6, a7, a8, a9, a10, a11, a12, a13] = [b6, b7, b8, b9, b10, b11, b12, b13]
              · rw [decide_eq_true e8] at hx
                simp only [List.cons.injEq, and_true] at e8
                obtain ⟨z6, z7, z8, z9, z10, z11, z12, z13⟩ := e8
                subst z6 z7 z8 z9 z10 z11 z12 z13
                simp [go_sem, e0, e1, e2, e3, e4, e5, hx]
              · rw [decide_eq_false e8] at hx
                have e9 : (!decide (a0 = b0 ∧ a1 = b1 ∧ a2 = b2 ∧ a3 = b3 ∧ a4 = b4 ∧ a5 = b5 ∧ [a6, a7, a8, a9, a10, a11, a12, a13] = [b6, b7, b8, b9, b10, b11, b12, b13])) = true := by simp only [Bool.not_eq_true', decide_eq_false_iff_not]; exact fun h => e8 h.2.2.2.2.2.2
                rw [e9]
                simp [go_sem, e0, e1, e2, e3, e4, e5, hx]
            · simp [go_sem, e0, e1, e2, e3, e4, e5]
          · simp [go_sem, e0, e1, e2, e3, e4]
        · simp [go_sem, e0, e1, e2, e3]
      · simp [go_sem, e0, e1, e2]
    · simp [go_sem, e0, e1]
  · simp [go_sem, e0]
set_option maxRecDepth 100000 in
theorem neq_rep (x y : List Int) (hx : IsRepL x) (hy : IsRepL y) (W : World) : (binOp .neq 40 (.agg (repV x)) (.agg (repV y))).run Try.prog W = .ok (.bool (!decide (x = y))) W := by
  obtain ⟨hx, -⟩ := hx
  obtain ⟨hy, -⟩ := hy
  match x, hx with
  | [a0, a1, a2, a3, a4, a5, a6, a7, a8, a9, a10, a11, a12, a13], _ =>
    match y, hy with
    | [b0, b1, b2, b3, b4, b5, b6, b7, b8, b9, b10, b11, b12, b13], _ =>
      refine (neq_rlit a0 a1 a2 a3 a4 a5 a6 a7 a8 a9 a10 a11 a12 a13 b0 b1 b2 b3 b4 b5 b6 b7 b8 b9 b10 b11 b12 b13 W).trans ?_
      congr 3
      rw [decide_eq_decide]
      simp
set_option maxHeartbeats 4000000 in
theorem eql_rlit (a0 a1 a2 a3 a4 a5 a6 a7 a8 a9 a10 a11 a12 a13 b0 b1 b2 b3 b4 b5 b6 b7 b8 b9 b10 b11 b12 b13 : Int) (W : World) :
    (binOp .eql 40 (.agg #[.int .i64 a0, .int .i64 a1, .int .i64 a2, .int .i64 a3, .int .i64 a4, .int .i64 a5, .int .u8 a6, .int .u8 a7, .int .u8 a8, .int .u8 a9, .int .u8 a10, .int .u8 a11, .int .u8 a12, .int .u8 a13]) (.agg #[.int .i64 b0, .int .i64 b1, .int .i64 b2, .int .i64 b3, .int .i64 b4, .int .i64 b5, .int .u8 b6, .int .u8 b7, .int .u8 b8, .int .u8 b9, .int .u8 b10, .int .u8 b11, .int .u8 b12, .int .u8 b13])).run Try.prog W = .ok (.bool (decide (a0 = b0 ∧ a1 = b1 ∧ a2 = b2 ∧ a3 = b3 ∧ a4 = b4 ∧ a5 = b5 ∧ [a6, a7, a8, a9, a10, a11, a12, a13] = [b6, b7, b8, b9, b10, b11, b12, b13]))) W := by
  obtain ⟨i0, hi⟩ := info_u8e9
  have hx := run_eq_u89 Try.underlying38 Try.underlying5 (by kernel_rfl) hi 9997 [a6, a7, a8, a9, a10, a11, a12, a13] [b6, b7, b8, b9, b10, b11, b12, b13] rfl rfl W
  simp only [u8V, List.map_cons, List.map_nil, Nat.reduceAdd] at hx
  by_cases e0 : a0 = b0
  · by_cases e1 : a1 = b1
    · by_cases e2 : a2 = b2
      · by_cases e3 : a3 = b3
        · by_cases e4 : a4 = b4
          · by_cases e5 : a5 = b5
            · by_cases e8 : [a6, a7, a8, a9, a10, a11, a12, a13] = [b6, b7, b8, b9, b10, b11, b12, b13]
              · rw [decide_eq_true e8] at hx
                simp only [List.cons.injEq, and_true] at e8
                obtain ⟨z6, z7, z8, z9, z10, z11, z12, z13⟩ := e8
                subst z6 z7 z8 z9 z10 z11 z12 z13
                simp [go_sem, e0, e1, e2, e3, e4, e5, hx]
              · rw [decide_eq_false e8] at hx
                have e9 : decide (a0 = b0 ∧ a1 = b1 ∧ a2 = b2 ∧ a3 = b3 ∧ a4 = b4 ∧ a5 = b5 ∧ [a6, a7, a8, a9, a10, a11, a12, a13] = [b6, b7, b8, b9, b10, b11, b12, b13]) = false := by simp only [decide_eq_false_iff_not]; exact fun h => e8 h.2.2.2.2.2.2
                rw [e9]
                simp [go_sem, e0, e1, e2, e3, e4, e5, hx]
            · simp [go_sem, e0, e1, e2, e3, e4, e5]
          · simp [go_sem, e0, e1, e2, e3, e4]
        · simp [go_sem, e0, e1, e2, e3]
      · simp [go_sem, e0, e1, e2]
    · simp [go_sem, e0, e1]
  · simp [go_sem, e0]
set_option maxRecDepth 100000 in
theorem eql_rep (x y : List Int) (hx : IsRepL x) (hy : IsRepL y) (W : World) : (binOp .eql 40 (.agg (repV x)) (.agg (repV y))).run Try.prog W = .ok (.bool (decide (x = y))) W := by
  obtain ⟨hx, -⟩ := hx
  obtain ⟨hy, -⟩ := hy
  match x, hx with
  | [a0, a1, a2, a3, a4, a5, a6, a7, a8, a9, a10, a11, a12, a13], _ =>
    match y, hy with
    | [b0, b1, b2, b3, b4, b5, b6, b7, b8, b9, b10, b11, b12, b13], _ =>
      refine (eql_rlit a0 a1 a2 a3 a4 a5 a6 a7 a8 a9 a10 a11 a12 a13 b0 b1 b2 b3 b4 b5 b6 b7 b8 b9 b10 b11 b12 b13 W).trans ?_
      congr 2
      rw [decide_eq_decide]
      simp
end Go.Proofs.Ytakahkpogooepaa
