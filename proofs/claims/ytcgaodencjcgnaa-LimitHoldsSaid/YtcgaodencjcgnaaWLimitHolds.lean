/- The walk of LimitHolds. -/
import Derived.Test.YtcgaodencjcgnaaLimW
import Derived.Test.YtcgaodencjcgnaaStep
import Derived.Test.YtcgaodencjcgnaaFitU
namespace Go.Proofs.Ytcgaodencjcgnaa
open Go.RowKit Go.WideShapes Go.ChangeShapes

theorem flat_point (v : Value) (w : World) (base : Nat) (h : Value.okWide Try.prog w .any base 36 v) : ∃ (n0 : Int) (n1 : Int) (n2 : Int) (n3 : Int) (n4 : Int) (n5 : Int) (n6 : Int) (n7 : Int) (n8 : Int) (n9 : Int) (n10 : Int) (n11 : Int), v = .agg #[.int .i64 n0, .int .i64 n1, .int .i64 n2, .int .i64 n3, .int .i64 n4, .int .i64 n5, .int .i64 n6, .int .i64 n7, .int .i64 n8, .int .i64 n9, .int .i64 n10, .int .i64 n11] ∧ (-9223372036854775808 ≤ n0 ∧ n0 ≤ 9223372036854775807) ∧ (-9223372036854775808 ≤ n1 ∧ n1 ≤ 9223372036854775807) ∧ (-9223372036854775808 ≤ n2 ∧ n2 ≤ 9223372036854775807) ∧ (-9223372036854775808 ≤ n3 ∧ n3 ≤ 9223372036854775807) ∧ (-9223372036854775808 ≤ n4 ∧ n4 ≤ 9223372036854775807) ∧ (-9223372036854775808 ≤ n5 ∧ n5 ≤ 9223372036854775807) ∧ (-9223372036854775808 ≤ n6 ∧ n6 ≤ 9223372036854775807) ∧ (-9223372036854775808 ≤ n7 ∧ n7 ≤ 9223372036854775807) ∧ (-9223372036854775808 ≤ n8 ∧ n8 ≤ 9223372036854775807) ∧ (-9223372036854775808 ≤ n9 ∧ n9 ≤ 9223372036854775807) ∧ (-9223372036854775808 ≤ n10 ∧ n10 ≤ 9223372036854775807) ∧ (-9223372036854775808 ≤ n11 ∧ n11 ≤ 9223372036854775807) := by
  obtain ⟨cs, rfl, hs, hc⟩ := flat (ts := [3, 3, 3, 3, 3, 3, 3, 3, 3, 3, 3, 3]) (.inl ⟨_, Try.underlying36⟩) (by kernel_rfl) (by kernel_rfl) h
  obtain ⟨l⟩ := cs
  match l, hs with
  | [x0, x1, x2, x3, x4, x5, x6, x7, x8, x9, x10, x11], _ =>
    obtain ⟨n0, rfl, a0, b0⟩ := opn_i64 Try.underlying3 (hc 0 _ x0 rfl rfl)
    obtain ⟨n1, rfl, a1, b1⟩ := opn_i64 Try.underlying3 (hc 1 _ x1 rfl rfl)
    obtain ⟨n2, rfl, a2, b2⟩ := opn_i64 Try.underlying3 (hc 2 _ x2 rfl rfl)
    obtain ⟨n3, rfl, a3, b3⟩ := opn_i64 Try.underlying3 (hc 3 _ x3 rfl rfl)
    obtain ⟨n4, rfl, a4, b4⟩ := opn_i64 Try.underlying3 (hc 4 _ x4 rfl rfl)
    obtain ⟨n5, rfl, a5, b5⟩ := opn_i64 Try.underlying3 (hc 5 _ x5 rfl rfl)
    obtain ⟨n6, rfl, a6, b6⟩ := opn_i64 Try.underlying3 (hc 6 _ x6 rfl rfl)
    obtain ⟨n7, rfl, a7, b7⟩ := opn_i64 Try.underlying3 (hc 7 _ x7 rfl rfl)
    obtain ⟨n8, rfl, a8, b8⟩ := opn_i64 Try.underlying3 (hc 8 _ x8 rfl rfl)
    obtain ⟨n9, rfl, a9, b9⟩ := opn_i64 Try.underlying3 (hc 9 _ x9 rfl rfl)
    obtain ⟨n10, rfl, a10, b10⟩ := opn_i64 Try.underlying3 (hc 10 _ x10 rfl rfl)
    obtain ⟨n11, rfl, a11, b11⟩ := opn_i64 Try.underlying3 (hc 11 _ x11 rfl rfl)
    exact ⟨n0, n1, n2, n3, n4, n5, n6, n7, n8, n9, n10, n11, rfl, ⟨a0, b0⟩, ⟨a1, b1⟩, ⟨a2, b2⟩, ⟨a3, b3⟩, ⟨a4, b4⟩, ⟨a5, b5⟩, ⟨a6, b6⟩, ⟨a7, b7⟩, ⟨a8, b8⟩, ⟨a9, b9⟩, ⟨a10, b10⟩, ⟨a11, b11⟩⟩

/-! ### the plain law -/
def dec (n m : Int) : Int := if 0 ≤ n then (if m ≤ n then n - m else 0) else (if m ≤ -n then n + m else 0)
theorem toward_dec (n m r : Int) (hm : 0 ≤ m) (hr : 1 ≤ r) : toward (dec n m) 0 r = dec n (m + r) := by
  unfold toward dec
  repeat' split
  all_goals omega
theorem dec_zero (n m : Int) (hm : 0 ≤ m) : dec n m = 0 ↔ (n ≤ m ∧ -n ≤ m) := by
  unfold dec
  repeat' split
  all_goals omega
theorem dec_step (n m r : Int) (hm : 0 ≤ m) (hr : 1 ≤ r) : dec n (m + r) = dec n m ↔ dec n m = 0 := by
  unfold dec
  repeat' split
  all_goals omega
theorem dec_in (n m : Int) (hm : 0 ≤ m) (h1 : -999 ≤ n) (h2 : n ≤ 999) : InI (dec n m) := by
  unfold InI dec
  repeat' split
  all_goals omega
theorem dec_nought (n : Int) : dec n 0 = n := by
  unfold dec
  repeat' split
  all_goals omega
theorem far_steps (f r k : Int) (hr : 1 ≤ r) (hf : 0 ≤ f) : k < (f + r - 1).tdiv r ↔ k * r < f := by
  rw [Int.tdiv_eq_ediv_of_nonneg (by omega)]
  have h := @Int.le_ediv_iff_mul_le (k + 1) (f + r - 1) r (by omega)
  rw [Int.add_mul, Int.one_mul] at h
  constructor
  · intro hk
    have := h.1 (by omega)
    omega
  · intro hk
    have := h.2 (by omega)
    omega
def far1 (f m : Int) : Int := if (if f < m then m else f) < -m then -m else (if f < m then m else f)
theorem far1_le (f m x : Int) (hx : 0 ≤ x) : far1 f m ≤ x ↔ (f ≤ x ∧ m ≤ x ∧ -m ≤ x) := by
  unfold far1
  repeat' split
  all_goals omega
theorem far1_in (f m : Int) (h0 : 0 ≤ f) (h1 : f ≤ 999) (h2 : -999 ≤ m) (h3 : m ≤ 999) : 0 ≤ far1 f m ∧ far1 f m ≤ 999 := by
  unfold far1
  repeat' split
  all_goals omega
theorem rem_in (n : Int) : -999 ≤ Int.tmod n 1000 ∧ Int.tmod n 1000 ≤ 999 := by
  rcases Int.le_total 0 n with h | h
  · have h1 := Int.tmod_nonneg 1000 h
    have h2 := Int.tmod_lt_of_pos n (show (0 : Int) < 1000 by omega)
    omega
  · have h1 := Int.tmod_nonneg 1000 (a := -n) (by omega)
    have h2 := Int.tmod_lt_of_pos (-n) (show (0 : Int) < 1000 by omega)
    rw [Int.neg_tmod] at h1 h2
    omega
structure Down (m0 m1 m2 m3 f r K : Int) : Prop where
  i0 : -999 ≤ m0 ∧ m0 ≤ 999
  i1 : -999 ≤ m1 ∧ m1 ≤ 999
  i2 : -999 ≤ m2 ∧ m2 ≤ 999
  i3 : -999 ≤ m3 ∧ m3 ≤ 999
  far : f = far1 (far1 (far1 (far1 0 m0) m1) m2) m3
  r1 : 1 ≤ r
  r2 : r ≤ 1000
  steps : K = (f + r - 1).tdiv r
def nought (m0 m1 m2 m3 x : Int) : Prop := dec m0 x = 0 ∧ dec m1 x = 0 ∧ dec m2 x = 0 ∧ dec m3 x = 0
theorem Down.far0 {m0 m1 m2 m3 f r K : Int} (h : Down m0 m1 m2 m3 f r K) : 0 ≤ f ∧ f ≤ 999 := by
  have a0 := far1_in 0 m0 (by omega) (by omega) h.i0.1 h.i0.2
  have a1 := far1_in _ m1 a0.1 a0.2 h.i1.1 h.i1.2
  have a2 := far1_in _ m2 a1.1 a1.2 h.i2.1 h.i2.2
  have a3 := far1_in _ m3 a2.1 a2.2 h.i3.1 h.i3.2
  rw [h.far]
  exact a3
theorem Down.nought_iff {m0 m1 m2 m3 f r K : Int} (h : Down m0 m1 m2 m3 f r K) (x : Int) (hx : 0 ≤ x) : nought m0 m1 m2 m3 x ↔ f ≤ x := by
  unfold nought
  rw [dec_zero _ _ hx, dec_zero _ _ hx, dec_zero _ _ hx, dec_zero _ _ hx, h.far, far1_le _ _ _ hx, far1_le _ _ _ hx, far1_le _ _ _ hx, far1_le _ _ _ hx]
  omega
theorem Down.lt {m0 m1 m2 m3 f r K : Int} (h : Down m0 m1 m2 m3 f r K) (k : Int) : k < K ↔ k * r < f := by
  rw [h.steps]; exact far_steps f r k h.r1 h.far0.1
theorem Down.mul {m0 m1 m2 m3 f r K : Int} (h : Down m0 m1 m2 m3 f r K) {k : Int} (hk : 0 ≤ k) : 0 ≤ k * r := Int.mul_nonneg hk (by have := h.r1; omega)
theorem Down.not {m0 m1 m2 m3 f r K : Int} (h : Down m0 m1 m2 m3 f r K) (k : Int) (h0 : 0 ≤ k) (hk : k < K) : ¬ nought m0 m1 m2 m3 (k * r) := by
  rw [h.nought_iff _ (h.mul h0)]
  have := (h.lt k).1 hk
  omega
theorem Down.K0 {m0 m1 m2 m3 f r K : Int} (h : Down m0 m1 m2 m3 f r K) : 0 ≤ K ∧ K ≤ 9999 := by
  have h1 := h.r1
  have h2 := h.r2
  have f0 := h.far0
  have hk := h.lt K
  have hn := h.lt (-1)
  have hm := h.lt 9999
  constructor
  · have : (-1) * r < f := by omega
    have := hn.2 this
    omega
  · apply Classical.byContradiction
    intro hc
    have := hm.1 (by omega)
    omega
theorem Down.end {m0 m1 m2 m3 f r K : Int} (h : Down m0 m1 m2 m3 f r K) : nought m0 m1 m2 m3 (K * r) := by
  rw [h.nought_iff _ (h.mul h.K0.1)]
  have := h.lt K
  omega
theorem Down.far_pos {m0 m1 m2 m3 f r K : Int} (h : Down m0 m1 m2 m3 f r K) : 0 < f ↔ 0 < K := by
  have := h.lt 0
  rw [Int.zero_mul] at this
  exact this.symm

section
variable {P : Program}
theorem run_max_far (ats : Array TypeId) (ty : TypeId) (p q : Int) (W : World) : (Builtin.max_ ats ty #[.int .i64 p, .int .i64 q, .int .i64 (-q)]).run P W = .ok (.int .i64 (far1 p q)) W := by
  simp [Builtin.max_, Builtin.max2, go_sem, far1]
  try (repeat' split) <;> first | rfl | omega
variable {ops : Array Oper} {rest : List Oper} {o : Oper} {a : Act} {w : World} {Q : Exit → Act → World → Prop}
theorem wpList_far {p q r : Int} (s x y : Operand) (ats : Array TypeId) (hgd : o.guard = none) (ho : o.op = .call { callee := .builtin .max, args := #[s, x, y], argTypes := ats }) (h1 : a.eval s = .int .i64 p) (h2 : a.eval x = .int .i64 q) (h3 : a.eval y = .int .i64 (-q)) (hr : r = far1 p q) (h : wpList P ops Q rest (a.put o.dst (.int .i64 r)) w) : wpList P ops Q (o :: rest) a w := by
  subst hr
  refine wpList_plain hgd fun K hK => ?_
  unfold Oper.wp execOp
  simp only [ho, resolve, invoke, builtin, Sem.run_bind, Sem.run_pure, Result.andThen_ok, List.map_toArray, List.map_cons, List.map_nil, h1, h2, h3, run_max_far]
  exact hK _ _ h
theorem run_rem_k (n m : Int) (hm : m = Int.tmod n 1000) (r : -999 ≤ m ∧ m ≤ 999) (W : World) : (binOp .rem 3 (.int .i64 n) (.int .i64 1000)).run Try.prog W = .ok (.int .i64 m) W := by
  have e : IntKind.i64.wrap m = m := by simp [IntKind.wrap, IntKind.bits, IntKind.signed]; omega
  have e2 : IntKind.i64.wrap (Int.tmod n 1000) = m := by rw [← hm]; exact e
  simp [go_sem, e2]
  exact hm.symm
theorem wpList_rem {n m : Int} (s : Operand) (hgd : o.guard = none) (ho : o.op = .binOp .rem 3 s (.const (.int .i64 1000)) 3) (h1 : a.eval s = .int .i64 n) (hm : m = Int.tmod n 1000) (r : -999 ≤ m ∧ m ≤ 999) (h : wpList Try.prog ops Q rest (a.put o.dst (.int .i64 m)) w) : wpList Try.prog ops Q (o :: rest) a w := by
  refine wpList_plain hgd fun K hK => ?_
  unfold Oper.wp execOp
  have hc : a.eval (.const (.int .i64 1000)) = .int .i64 1000 := rfl
  simp only [ho, h1, hc, eqGuard, Sem.run_bind, Sem.run_pure, Result.andThen_ok, run_rem_k n m hm r]
  exact hK _ _ h
end
theorem zeroT_pt : ZeroT Try.prog 36 #[.int .i64 0, .int .i64 0, .int .i64 0, .int .i64 0, .int .i64 0, .int .i64 0, .int .i64 0, .int .i64 0, .int .i64 0, .int .i64 0, .int .i64 0, .int .i64 0] := by
  intro ev o w ho
  unfold execOp
  simp only [ho]
  simp [go_sem]
theorem agg_lab : AggT Try.prog 34 3 := ⟨⟨_, Try.underlying34, rfl⟩, by kernel_rfl⟩
theorem quiet_load_blk {P : Program} {a : Act} {o : Oper} {W : World} {K : Act → Prop} {T : TypeId} {g n : Nat} {cs : Array Value} (hT : AggT P T n) (x : Operand) (ho : o.op = .load T x) (hx : a.eval x = .pointer (some ⟨g, 0, none⟩)) (hg : Hid (Blk W g cs T)) (hn : cs.size = n)
    (hk : K (a.put o.dst (.agg cs))) : o.quiet P a (fun w' => ∃ x, w' = exw W x) K := by
  obtain ⟨⟨d, hu, hd⟩, hi⟩ := hT
  refine ⟨_, fun w hw => ?_, hk⟩
  obtain ⟨y, rfl⟩ := hw
  have hrun : (loadVar T ⟨g, 0, none⟩).run P (exw W y) = .ok (.agg cs) (exw W y) := by
    cases d <;> first | (cases hd; done) | exact run_loadVar_row _ g T T cs (0, 0) _ (hg.out.below (exw_bel y)) hu rfl (by rw [hi, hn])
  unfold Oper.quietAt execOp
  simp only [ho, hx, Instr.loadAt, Instr.sureAddr, Sem.run_bind, Sem.run_pure, Result.andThen_ok, hrun]
  exact ⟨rfl, rfl⟩
/-- an array of bytes out of the midst of a block -/
theorem polok_below {w w' : World} {f : Nat → Value} (h : PolOk w f) (hb : Below w.heap.size w w') : PolOk w' f :=
  ⟨h.int, fun i h1 h2 => by obtain ⟨A, xs, cap, e, l, c, r, n⟩ := h.key i h1 h2; exact ⟨A, xs, cap, e, l, c, row_below r hb, n⟩⟩
theorem step_down {m0 m1 m2 m3 fa r K : Int} (h : Down m0 m1 m2 m3 fa r K) (f : Nat → Value) (c k ru : Int) (w : World) (hr : f 54 = .int .i64 r) (h0 : 0 ≤ k) (hk : k < K) :
    Calls Try.prog 12 #[.agg (mkc 56 f), .agg #[.int .i64 c, .int .i64 0, .int .i64 0, .int .i64 0, .int .i64 0, .int .i64 (dec m0 (k * r)), .int .i64 (dec m1 (k * r)), .int .i64 (dec m2 (k * r)), .int .i64 (dec m3 (k * r)), .int .i64 ru, .int .i64 4, .int .i64 0]] w fun e w' => e = .returned (.agg #[.int .i64 c, .int .i64 0, .int .i64 0, .int .i64 0, .int .i64 0, .int .i64 (dec m0 ((k + 1) * r)), .int .i64 (dec m1 ((k + 1) * r)), .int .i64 (dec m2 ((k + 1) * r)), .int .i64 (dec m3 ((k + 1) * r)), .int .i64 4, .int .i64 4, .int .i64 0]) ∧ Below w.heap.size w w' := by
  have hm := h.mul h0
  have hr1 := h.r1
  have hr2 := h.r2
  have z : InI 0 := ⟨by omega, by omega⟩
  have t0 := toward_dec m0 (k * r) r hm hr1
  have t1 := toward_dec m1 (k * r) r hm hr1
  have t2 := toward_dec m2 (k * r) r hm hr1
  have t3 := toward_dec m3 (k * r) r hm hr1
  have e : k * r + r = (k + 1) * r := by rw [Int.add_mul, Int.one_mul]
  have hn : decide (toward (dec m0 (k * r)) 0 r = dec m0 (k * r) ∧ toward (dec m1 (k * r)) 0 r = dec m1 (k * r) ∧ toward (dec m2 (k * r)) 0 r = dec m2 (k * r) ∧ toward (dec m3 (k * r)) 0 r = dec m3 (k * r)) = false := by
    rw [decide_eq_false_iff_not, t0, t1, t2, t3, dec_step _ _ _ hm hr1, dec_step _ _ _ hm hr1, dec_step _ _ _ hm hr1, dec_step _ _ _ hm hr1]
    exact h.not k h0 hk
  refine (step_any f c 0 0 0 0 (dec m0 (k * r)) (dec m1 (k * r)) (dec m2 (k * r)) (dec m3 (k * r)) ru 4 0 r w hr ⟨by omega, by omega⟩ z z z z (dec_in _ _ hm h.i0.1 h.i0.2) (dec_in _ _ hm h.i1.1 h.i1.2) (dec_in _ _ hm h.i2.1 h.i2.2) (dec_in _ _ hm h.i3.1 h.i3.2) false hn).mono ?_
  rintro e1 w' ⟨rfl, hb⟩
  rw [t0, t1, t2, t3, e]
  exact ⟨rfl, hb⟩
theorem step_rest (f : Nat → Value) (c ru r : Int) (w : World) (hr : f 54 = .int .i64 r) (r1 : 1 ≤ r) (r2 : r ≤ 1000) :
    Calls Try.prog 12 #[.agg (mkc 56 f), .agg #[.int .i64 c, .int .i64 0, .int .i64 0, .int .i64 0, .int .i64 0, .int .i64 0, .int .i64 0, .int .i64 0, .int .i64 0, .int .i64 ru, .int .i64 4, .int .i64 0]] w fun e w' => e = .returned (.agg #[.int .i64 c, .int .i64 0, .int .i64 0, .int .i64 0, .int .i64 0, .int .i64 0, .int .i64 0, .int .i64 0, .int .i64 0, .int .i64 ru, .int .i64 4, .int .i64 0]) ∧ Below w.heap.size w w' := by
  have z : InI 0 := ⟨by omega, by omega⟩
  have t : toward 0 0 r = 0 := by
    unfold toward
    repeat' split
    all_goals omega
  refine (step_any f c 0 0 0 0 0 0 0 0 ru 4 0 r w hr ⟨by omega, by omega⟩ z z z z z z z z true (by rw [t]; rfl)).mono ?_
  rintro e1 w' ⟨rfl, hb⟩
  rw [t]
  exact ⟨rfl, hb⟩

set_option maxRecDepth 100000 in
set_option maxHeartbeats 1600000 in
theorem hold_any (c a0 a1 a2 a3 n0 n1 n2 n3 b0 b1 b2 x y z : Int) (w : World) :
    Calls Try.prog 14 #[.agg #[.int .i64 c, .int .i64 a0, .int .i64 a1, .int .i64 a2, .int .i64 a3, .int .i64 n0, .int .i64 n1, .int .i64 n2, .int .i64 n3, .int .i64 b0, .int .i64 b1, .int .i64 b2], .agg #[.int .i64 x, .int .i64 y, .int .i64 z]] w fun e w' => e = .returned (.agg #[.int .i64 c, .int .i64 0, .int .i64 0, .int .i64 0, .int .i64 0, .int .i64 n0, .int .i64 n1, .int .i64 n2, .int .i64 n3, .int .i64 x, .int .i64 y, .int .i64 z]) ∧ Below w.heap.size w w' := by
  go_enter Try.func14, Try.ntmps14
  go_wp2_with fail
  refine bodyPost_ret (v := .agg #[.int .i64 c, .int .i64 0, .int .i64 0, .int .i64 0, .int .i64 0, .int .i64 n0, .int .i64 n1, .int .i64 n2, .int .i64 n3, .int .i64 x, .int .i64 y, .int .i64 z]) (by simp [results, Try.results14, go_sem]) rfl ⟨rfl, ?_⟩
  exact below_alloc3 w _ _ _

set_option maxRecDepth 100000 in
set_option maxHeartbeats 3200000 in
theorem limHolds (f : Nat → Value) (n0 n1 n2 n3 n4 n5 n6 n7 n8 n9 n10 n11 : Int) (w : World) (hp : PolOk w f) (i0 : InI n0) (i1 : InI n1) (i2 : InI n2) (i3 : InI n3) (i4 : InI n4) (i5 : InI n5) (i6 : InI n6) (i7 : InI n7) (i8 : InI n8) (i9 : InI n9) (i10 : InI n10) (i11 : InI n11) :
    Calls Try.prog 6 #[.agg (mkc 56 f), .agg #[.int .i64 n0, .int .i64 n1, .int .i64 n2, .int .i64 n3, .int .i64 n4, .int .i64 n5, .int .i64 n6, .int .i64 n7, .int .i64 n8, .int .i64 n9, .int .i64 n10, .int .i64 n11]] w fun e w' => e = .returned (.bool true) ∧ Below w.heap.size w w' := by
  have rm0 := rem_in n5
  obtain ⟨m0, hm0⟩ : ∃ m, m = Int.tmod n5 1000 := ⟨_, rfl⟩
  rw [← hm0] at rm0
  replace hm0 := Lib.hid hm0
  have rm1 := rem_in n6
  obtain ⟨m1, hm1⟩ : ∃ m, m = Int.tmod n6 1000 := ⟨_, rfl⟩
  rw [← hm1] at rm1
  replace hm1 := Lib.hid hm1
  have rm2 := rem_in n7
  obtain ⟨m2, hm2⟩ : ∃ m, m = Int.tmod n7 1000 := ⟨_, rfl⟩
  rw [← hm2] at rm2
  replace hm2 := Lib.hid hm2
  have rm3 := rem_in n8
  obtain ⟨m3, hm3⟩ : ∃ m, m = Int.tmod n8 1000 := ⟨_, rfl⟩
  rw [← hm3] at rm3
  replace hm3 := Lib.hid hm3
  obtain ⟨p1, hp1⟩ : ∃ x, x = far1 0 m0 := ⟨_, rfl⟩
  replace hp1 := Lib.hid hp1
  obtain ⟨p2, hp2⟩ : ∃ x, x = far1 p1 m1 := ⟨_, rfl⟩
  replace hp2 := Lib.hid hp2
  obtain ⟨p3, hp3⟩ : ∃ x, x = far1 p2 m2 := ⟨_, rfl⟩
  replace hp3 := Lib.hid hp3
  obtain ⟨p4, hp4⟩ : ∃ x, x = far1 p3 m3 := ⟨_, rfl⟩
  replace hp4 := Lib.hid hp4
  have P0 := fun y z k => Go.Proofs.Ytcgaodencjcgnaa.step_rest (r := y) z k
  have HP := Lib.hid hp
  have PF := hp
  clear hp P0
  go_enter Try.func6, Try.ntmps6
  go_wp2_with fail
  have KF := Lib.hid ((Blk.new w (mkc 56 f) 32).alloc (.cells #[.int .i64 n0, .int .i64 n1, .int .i64 n2, .int .i64 n3, .int .i64 n4, .int .i64 n5, .int .i64 n6, .int .i64 n7, .int .i64 n8, .int .i64 n9, .int .i64 n10, .int .i64 n11] 36))
  have KL := Lib.hid (Blk.new' (w.alloc (.cells (mkc 56 f) 32)) #[.int .i64 n0, .int .i64 n1, .int .i64 n2, .int .i64 n3, .int .i64 n4, .int .i64 n5, .int .i64 n6, .int .i64 n7, .int .i64 n8, .int .i64 n9, .int .i64 n10, .int .i64 n11] 36 (g := w.heap.size + 1) (by simp))
  have BB := Lib.hid (below_alloc2 w (.cells (mkc 56 f) 32) (.cells #[.int .i64 n0, .int .i64 n1, .int .i64 n2, .int .i64 n3, .int .i64 n4, .int .i64 n5, .int .i64 n6, .int .i64 n7, .int .i64 n8, .int .i64 n9, .int .i64 n10, .int .i64 n11] 36))
  generalize (w.alloc (.cells (mkc 56 f) 32)).alloc (.cells #[.int .i64 n0, .int .i64 n1, .int .i64 n2, .int .i64 n3, .int .i64 n4, .int .i64 n5, .int .i64 n6, .int .i64 n7, .int .i64 n8, .int .i64 n9, .int .i64 n10, .int .i64 n11] 36) = w0 at *
  have HPF := Lib.hid PF
  clear PF
  ((with_reducible refine (shown21 _).mono ?_))
  rintro e w1 ⟨rfl, b1⟩
  replace KF := Lib.hid (KF.out.below b1)
  replace KL := Lib.hid (KL.out.below b1)
  replace BB := Lib.hid (bt BB.out b1)
  clear b1
  go_wp2_with (first | ((with_reducible show wpList _ _ _ (⟨_, .load 32 _, _, _, _, none⟩ :: _) _ _); (with_reducible refine wpBlk_load (g := w.heap.size) agg_pol ?_ ?_ KF ?_ ?_); (· exact wanted0 rfl); (· exact ⟨rfl, rfl⟩); (· exact mkc_size _ _)) | fail)
  ((with_reducible refine (fit_any f _ (polok_below HPF.out BB.out)).mono ?_))
  rintro e w2 ⟨⟨g, rfl, hfit⟩, b2⟩
  replace KF := Lib.hid (KF.out.below b2)
  replace KL := Lib.hid (KL.out.below b2)
  replace BB := Lib.hid (bt BB.out b2)
  clear b2
  have gone : ∀ i, i < 56 → (g i).oneCell' = true := fit_one hfit
  obtain ⟨rn, hr, ⟨ro1, ro2, -⟩⟩ := hfit.int 54 (by omega) (by omega)
  have r1 : 1 ≤ (rn : Int) := by have : loOf 54 = 1 := rfl; omega
  have r2 : (rn : Int) ≤ 1000 := by have : hiOf 54 = 1000 := rfl; omega
  clear hfit ro1 ro2
  generalize (rn : Int) = r at *
  go_wp2_with (first
    | ((with_reducible show wpList _ _ _ (⟨_, .alloc 32, _, _, _, _⟩ :: _) _ _); refine wpList_alloc_pol rfl rfl ?_)
    | ((with_reducible show wpList _ _ _ (⟨_, .store 32 _ _, _, _, _, _⟩ :: _) _ _); refine wpList_store_pol rfl (.tmp 6) (.tmp 14) rfl _ _ _ rfl rfl rfl gone ?_; refine Marker.mk ?_))
  refine Marker.in ?_
  clear gone
  have lz := KL.out.lt
  have bel := below_alloc1 w2 (.cells (mkc 56 g) 32)
  replace KF := Lib.hid (KF.out.below bel)
  replace KL := Lib.hid (KL.out.below bel)
  replace BB := Lib.hid (bt BB.out bel)
  have KR := Lib.hid (Blk.new w2 (mkc 56 g) 32)
  clear bel
  generalize w2.alloc (.cells (mkc 56 g) 32) = w3 at *
  generalize w2.heap.size = gr at *
  have lr := KR.out.lt
  clear HP HPF i0 i1 i2 i3 i4 i5 i6 i7 i8 i9 i10 i11
  go_wp2_with fail
  refine wp_loop_rounds 5 ?_
  rw [rounds_succ]
  have cl := fun j => KL.out.cell j
  have fl := fun j => KL.out.frozen j
  go_wp2_with fail
  simp only [← hm0.out]
  clear cl fl
  replace KF := Lib.hid (KF.out.other (w.heap.size + 1) 5 (.int .i64 m0) (by omega))
  replace KR := Lib.hid (KR.out.other (w.heap.size + 1) 5 (.int .i64 m0) (by omega))
  replace KL := Lib.hid (show Blk _ (w.heap.size + 1) #[.int .i64 n0, .int .i64 n1, .int .i64 n2, .int .i64 n3, .int .i64 n4, .int .i64 m0, .int .i64 n6, .int .i64 n7, .int .i64 n8, .int .i64 n9, .int .i64 n10, .int .i64 n11] 36 from KL.out.set 5 (.int .i64 m0))
  replace BB := Lib.hid (BB.out.setCell (p := ⟨w.heap.size + 1, 5, none⟩) (by simp only; omega) (.int .i64 m0))
  generalize w3.setCell ⟨w.heap.size + 1, 5, none⟩ (.int .i64 m0) = w4 at *
  have cl := exw_cell KL.out
  have ra := rm0.1
  have rb := rm0.2
  refine wp_region_qx 10 (by kernel_rfl) (by kernel_rfl) ?_
  simp only [List.take_succ_cons, List.take_zero, List.drop_succ_cons, List.drop_zero]
  repeat (first
      | go_big_quiet_skip
      | (go_big_quiet_want
         first
           | (go_big_quiet_op
              first
                | go_big_quiet_on
                | go_big_quiet_call ((fail)))))
  refine wpQuiet_nil ?_
  intro _ hw'
  obtain ⟨y, rfl⟩ := hw'
  have by_ := exw_bel y
  replace KF := Lib.hid (KF.out.below by_)
  replace KR := Lib.hid (KR.out.below by_)
  replace KL := Lib.hid (KL.out.below by_)
  replace BB := Lib.hid (bt BB.out by_)
  clear by_ cl ra rb
  generalize exw w4 y = x4 at *
  (with_reducible refine wpList_far (.tmp 27) (.tmp 31) (.tmp 36) #[3, 3, 3] ?_ ?_ ?_ ?_ ?_ hp1.out ?_)
  · rfl
  · rfl
  · rfl
  · rfl
  · rfl
  go_wp2_with fail
  rw [rounds_succ]
  have cl := fun j => KL.out.cell j
  have fl := fun j => KL.out.frozen j
  go_wp2_with fail
  simp only [← hm1.out]
  clear cl fl
  replace KF := Lib.hid (KF.out.other (w.heap.size + 1) 6 (.int .i64 m1) (by omega))
  replace KR := Lib.hid (KR.out.other (w.heap.size + 1) 6 (.int .i64 m1) (by omega))
  replace KL := Lib.hid (show Blk _ (w.heap.size + 1) #[.int .i64 n0, .int .i64 n1, .int .i64 n2, .int .i64 n3, .int .i64 n4, .int .i64 m0, .int .i64 m1, .int .i64 n7, .int .i64 n8, .int .i64 n9, .int .i64 n10, .int .i64 n11] 36 from KL.out.set 6 (.int .i64 m1))
  replace BB := Lib.hid (BB.out.setCell (p := ⟨w.heap.size + 1, 6, none⟩) (by simp only; omega) (.int .i64 m1))
  generalize x4.setCell ⟨w.heap.size + 1, 6, none⟩ (.int .i64 m1) = w5 at *
  have cl := exw_cell KL.out
  have ra := rm1.1
  have rb := rm1.2
  refine wp_region_qx 10 (by kernel_rfl) (by kernel_rfl) ?_
  simp only [List.take_succ_cons, List.take_zero, List.drop_succ_cons, List.drop_zero]
  repeat (first
      | go_big_quiet_skip
      | (go_big_quiet_want
         first
           | (go_big_quiet_op
              first
                | go_big_quiet_on
                | go_big_quiet_call ((fail)))))
  refine wpQuiet_nil ?_
  intro _ hw'
  obtain ⟨y, rfl⟩ := hw'
  have by_ := exw_bel y
  replace KF := Lib.hid (KF.out.below by_)
  replace KR := Lib.hid (KR.out.below by_)
  replace KL := Lib.hid (KL.out.below by_)
  replace BB := Lib.hid (bt BB.out by_)
  clear by_ cl ra rb
  generalize exw w5 y = x5 at *
  (with_reducible refine wpList_far (.tmp 27) (.tmp 31) (.tmp 36) #[3, 3, 3] ?_ ?_ ?_ ?_ ?_ hp2.out ?_)
  · rfl
  · rfl
  · rfl
  · rfl
  · rfl
  go_wp2_with fail
  rw [rounds_succ]
  have cl := fun j => KL.out.cell j
  have fl := fun j => KL.out.frozen j
  go_wp2_with fail
  simp only [← hm2.out]
  clear cl fl
  replace KF := Lib.hid (KF.out.other (w.heap.size + 1) 7 (.int .i64 m2) (by omega))
  replace KR := Lib.hid (KR.out.other (w.heap.size + 1) 7 (.int .i64 m2) (by omega))
  replace KL := Lib.hid (show Blk _ (w.heap.size + 1) #[.int .i64 n0, .int .i64 n1, .int .i64 n2, .int .i64 n3, .int .i64 n4, .int .i64 m0, .int .i64 m1, .int .i64 m2, .int .i64 n8, .int .i64 n9, .int .i64 n10, .int .i64 n11] 36 from KL.out.set 7 (.int .i64 m2))
  replace BB := Lib.hid (BB.out.setCell (p := ⟨w.heap.size + 1, 7, none⟩) (by simp only; omega) (.int .i64 m2))
  generalize x5.setCell ⟨w.heap.size + 1, 7, none⟩ (.int .i64 m2) = w6 at *
  have cl := exw_cell KL.out
  have ra := rm2.1
  have rb := rm2.2
  refine wp_region_qx 10 (by kernel_rfl) (by kernel_rfl) ?_
  simp only [List.take_succ_cons, List.take_zero, List.drop_succ_cons, List.drop_zero]
  repeat (first
      | go_big_quiet_skip
      | (go_big_quiet_want
         first
           | (go_big_quiet_op
              first
                | go_big_quiet_on
                | go_big_quiet_call ((fail)))))
  refine wpQuiet_nil ?_
  intro _ hw'
  obtain ⟨y, rfl⟩ := hw'
  have by_ := exw_bel y
  replace KF := Lib.hid (KF.out.below by_)
  replace KR := Lib.hid (KR.out.below by_)
  replace KL := Lib.hid (KL.out.below by_)
  replace BB := Lib.hid (bt BB.out by_)
  clear by_ cl ra rb
  generalize exw w6 y = x6 at *
  (with_reducible refine wpList_far (.tmp 27) (.tmp 31) (.tmp 36) #[3, 3, 3] ?_ ?_ ?_ ?_ ?_ hp3.out ?_)
  · rfl
  · rfl
  · rfl
  · rfl
  · rfl
  go_wp2_with fail
  rw [rounds_succ]
  have cl := fun j => KL.out.cell j
  have fl := fun j => KL.out.frozen j
  go_wp2_with fail
  simp only [← hm3.out]
  clear cl fl
  replace KF := Lib.hid (KF.out.other (w.heap.size + 1) 8 (.int .i64 m3) (by omega))
  replace KR := Lib.hid (KR.out.other (w.heap.size + 1) 8 (.int .i64 m3) (by omega))
  replace KL := Lib.hid (show Blk _ (w.heap.size + 1) #[.int .i64 n0, .int .i64 n1, .int .i64 n2, .int .i64 n3, .int .i64 n4, .int .i64 m0, .int .i64 m1, .int .i64 m2, .int .i64 m3, .int .i64 n9, .int .i64 n10, .int .i64 n11] 36 from KL.out.set 8 (.int .i64 m3))
  replace BB := Lib.hid (BB.out.setCell (p := ⟨w.heap.size + 1, 8, none⟩) (by simp only; omega) (.int .i64 m3))
  generalize x6.setCell ⟨w.heap.size + 1, 8, none⟩ (.int .i64 m3) = w7 at *
  have cl := exw_cell KL.out
  have ra := rm3.1
  have rb := rm3.2
  refine wp_region_qx 10 (by kernel_rfl) (by kernel_rfl) ?_
  simp only [List.take_succ_cons, List.take_zero, List.drop_succ_cons, List.drop_zero]
  repeat (first
      | go_big_quiet_skip
      | (go_big_quiet_want
         first
           | (go_big_quiet_op
              first
                | go_big_quiet_on
                | go_big_quiet_call ((fail)))))
  refine wpQuiet_nil ?_
  intro _ hw'
  obtain ⟨y, rfl⟩ := hw'
  have by_ := exw_bel y
  replace KF := Lib.hid (KF.out.below by_)
  replace KR := Lib.hid (KR.out.below by_)
  replace KL := Lib.hid (KL.out.below by_)
  replace BB := Lib.hid (bt BB.out by_)
  clear by_ cl ra rb
  generalize exw w7 y = x7 at *
  (with_reducible refine wpList_far (.tmp 27) (.tmp 31) (.tmp 36) #[3, 3, 3] ?_ ?_ ?_ ?_ ?_ hp4.out ?_)
  · rfl
  · rfl
  · rfl
  · rfl
  · rfl
  go_wp2_with fail
  rw [rounds_succ]
  have HD : Down m0 m1 m2 m3 p4 r ((p4 + r - 1).tdiv r) := ⟨rm0, rm1, rm2, rm3, by rw [hp4.out, hp3.out, hp2.out, hp1.out], r1, r2, rfl⟩
  obtain ⟨K, hK⟩ : ∃ K, (p4 + r - 1).tdiv r = K := ⟨_, rfl⟩
  rw [hK] at HD
  obtain ⟨f0, f9⟩ := HD.far0
  obtain ⟨K0, K9⟩ := HD.K0
  clear hp1 hp2 hp3 hp4 hm0 hm1 hm2 hm3
  go_wp2_with ((with_reducible show wpList _ _ _ (⟨_, .load 36 _, _, _, _, none⟩ :: _) _ _); refine Marker.mk ?_)
  refine Marker.in ?_
  have bel := below_alloc1 x7 (.cells #[.int .i64 3, .int .i64 4, .int .i64 0] 34)
  replace KF := Lib.hid (KF.out.below bel)
  replace KL := Lib.hid (KL.out.below bel)
  replace KR := Lib.hid (KR.out.below bel)
  replace BB := Lib.hid (bt BB.out bel)
  have KY := Lib.hid (Blk.new x7 #[.int .i64 3, .int .i64 4, .int .i64 0] 34)
  clear bel
  generalize x7.alloc (.cells #[.int .i64 3, .int .i64 4, .int .i64 0] 34) = y1 at *
  generalize x7.heap.size = gy at *
  have ly := KY.out.lt
  go_wp2_with (first | ((with_reducible show wpList _ _ _ (⟨_, .load 36 _, _, _, _, none⟩ :: _) _ _); (with_reducible refine wpBlk_load (g := (w.heap.size + 1)) agg_point ?_ ?_ KL ?_ ?_); (· exact wanted0 rfl); (· exact ⟨rfl, rfl⟩); (· rfl)) | ((with_reducible show wpList _ _ _ (⟨_, .load 34 _, _, _, _, none⟩ :: _) _ _); (with_reducible refine wpBlk_load (g := gy) agg_lab ?_ ?_ KY ?_ ?_); (· exact wanted0 rfl); (· exact ⟨rfl, rfl⟩); (· rfl)))
  ((with_reducible refine (hold_any n0 n1 n2 n3 n4 m0 m1 m2 m3 n9 n10 n11 3 4 0 _).mono ?_))
  rintro e y2 ⟨rfl, b2⟩
  replace KF := Lib.hid (KF.out.below b2)
  replace KL := Lib.hid (KL.out.below b2)
  replace KR := Lib.hid (KR.out.below b2)
  replace KY := Lib.hid (KY.out.below b2)
  replace BB := Lib.hid (bt BB.out b2)
  clear b2
  have lyl := KL.out.lt
  have lyr := KR.out.lt
  have lyy := KY.out.lt
  have lyb := BB.out.size
  go_wp2_with ((with_reducible show wpList _ _ _ (⟨_, .alloc 36, _, _, _, none⟩ :: _) _ _); (with_reducible refine wpRow_alloc zeroT_pt ?_ ?_ ?_); (· exact wanted0 rfl); (· rfl); refine Marker.mk ?_)
  refine Marker.in ?_
  have bel := below_alloc1 y2 (.cells #[.int .i64 0, .int .i64 0, .int .i64 0, .int .i64 0, .int .i64 0, .int .i64 0, .int .i64 0, .int .i64 0, .int .i64 0, .int .i64 0, .int .i64 0, .int .i64 0] 36)
  replace KF := Lib.hid (KF.out.below bel)
  replace KL := Lib.hid (KL.out.below bel)
  replace KR := Lib.hid (KR.out.below bel)
  replace KY := Lib.hid (KY.out.below bel)
  replace BB := Lib.hid (bt BB.out bel)
  have KX := Lib.hid (Blk.new y2 #[.int .i64 0, .int .i64 0, .int .i64 0, .int .i64 0, .int .i64 0, .int .i64 0, .int .i64 0, .int .i64 0, .int .i64 0, .int .i64 0, .int .i64 0, .int .i64 0] 36)
  clear bel
  generalize y2.alloc (.cells #[.int .i64 0, .int .i64 0, .int .i64 0, .int .i64 0, .int .i64 0, .int .i64 0, .int .i64 0, .int .i64 0, .int .i64 0, .int .i64 0, .int .i64 0, .int .i64 0] 36) = y3 at *
  generalize y2.heap.size = gx at *
  go_wp2_with ((with_reducible show wpList _ _ _ (⟨_, .store 36 _ _, _, _, _, none⟩ :: _) _ _); (with_reducible refine wpBlk_store (g := gx) (cs := #[.int .i64 n0, .int .i64 0, .int .i64 0, .int .i64 0, .int .i64 0, .int .i64 m0, .int .i64 m1, .int .i64 m2, .int .i64 m3, .int .i64 3, .int .i64 4, .int .i64 0]) agg_point ?_ ?_ KX ?_ ?_ ?_ ?_); (· exact wanted0 rfl); (· exact ⟨rfl, rfl, rfl⟩); (· rfl); (· rfl); (· (simp [Value.oneCell']; done)); refine Marker.mk ?_)
  refine Marker.in ?_
  replace KF := Lib.hid (KF.out.setRow_other gx #[.int .i64 n0, .int .i64 0, .int .i64 0, .int .i64 0, .int .i64 0, .int .i64 m0, .int .i64 m1, .int .i64 m2, .int .i64 m3, .int .i64 3, .int .i64 4, .int .i64 0] (by omega))
  replace KL := Lib.hid (KL.out.setRow_other gx #[.int .i64 n0, .int .i64 0, .int .i64 0, .int .i64 0, .int .i64 0, .int .i64 m0, .int .i64 m1, .int .i64 m2, .int .i64 m3, .int .i64 3, .int .i64 4, .int .i64 0] (by omega))
  replace KR := Lib.hid (KR.out.setRow_other gx #[.int .i64 n0, .int .i64 0, .int .i64 0, .int .i64 0, .int .i64 0, .int .i64 m0, .int .i64 m1, .int .i64 m2, .int .i64 m3, .int .i64 3, .int .i64 4, .int .i64 0] (by omega))
  replace KY := Lib.hid (KY.out.setRow_other gx #[.int .i64 n0, .int .i64 0, .int .i64 0, .int .i64 0, .int .i64 0, .int .i64 m0, .int .i64 m1, .int .i64 m2, .int .i64 m3, .int .i64 3, .int .i64 4, .int .i64 0] (by omega))
  replace KX := Lib.hid (KX.out.setRow #[.int .i64 n0, .int .i64 0, .int .i64 0, .int .i64 0, .int .i64 0, .int .i64 m0, .int .i64 m1, .int .i64 m2, .int .i64 m3, .int .i64 3, .int .i64 4, .int .i64 0])
  replace BB := Lib.hid (below_setRow (g := gx) BB.out (by omega) #[.int .i64 n0, .int .i64 0, .int .i64 0, .int .i64 0, .int .i64 0, .int .i64 m0, .int .i64 m1, .int .i64 m2, .int .i64 m3, .int .i64 3, .int .i64 4, .int .i64 0])
  generalize y3.setRow gx #[.int .i64 n0, .int .i64 0, .int .i64 0, .int .i64 0, .int .i64 0, .int .i64 m0, .int .i64 m1, .int .i64 m2, .int .i64 m3, .int .i64 3, .int .i64 4, .int .i64 0] = y4 at *
  have cx := fun j => KX.out.cell j
  have cl := fun j => KL.out.cell j
  have cy := fun j => KY.out.cell j
  have EQ := run_neq_four m0 m1 m2 m3 m0 m1 m2 m3
  go_wp2_with fail
  clear cx cl cy EQ KF KL KY
  replace HD := Lib.hid HD
  replace hr := Lib.hid hr
  have D0 : Hid (Blk y4 gx #[.int .i64 n0, .int .i64 0, .int .i64 0, .int .i64 0, .int .i64 0, .int .i64 (dec m0 (0 * r)), .int .i64 (dec m1 (0 * r)), .int .i64 (dec m2 (0 * r)), .int .i64 (dec m3 (0 * r)), .int .i64 3, .int .i64 4, .int .i64 0] 36) := by simp only [Int.zero_mul, dec_nought]; exact KX
  clear KX
  go_loopw [11] (fun y wr => ∃ k ru : Int, y = .int .i64 k ∧ 0 ≤ k ∧ k ≤ K ∧ (k = 0 → ru = 3) ∧ (0 < k → ru = 4) ∧ Blk wr gr (mkc 56 g) 32 ∧ Blk wr gx #[.int .i64 n0, .int .i64 0, .int .i64 0, .int .i64 0, .int .i64 0, .int .i64 (dec m0 (k * r)), .int .i64 (dec m1 (k * r)), .int .i64 (dec m2 (k * r)), .int .i64 (dec m3 (k * r)), .int .i64 ru, .int .i64 4, .int .i64 0] 36 ∧ Below w.heap.size w wr) (fun y _ => K.toNat - (intOf y).toNat)
  case atStart => exact ⟨0, 3, rfl, by omega, K0, fun _ => rfl, fun h => absurd h (by omega), KR.out, D0.out, BB.out⟩
  case round =>
    obtain ⟨k, ru, rfl, k0, kK, ru0, ru4, kr, kx, bb⟩ := hrel
    have KR := Lib.hid kr
    have KX := Lib.hid kx
    have BB := Lib.hid bb
    clear kr kx bb
    have cr : wr.cell? ⟨gr, 54, none⟩ = some (.int .i64 r) := by rw [KR.out.cell 54, mkc_get?, if_pos (by omega), hr.out]
    have rne : r ≠ 0 := by omega
    have l5 := KX.out.lt
    have l6 := KR.out.lt
    by_cases hk : k < K
    · have C := Lib.hid (step_down HD.out g n0 k ru · hr.out k0 hk)
      have EE := run_eq_four (dec m0 (k * r)) (dec m1 (k * r)) (dec m2 (k * r)) (dec m3 (k * r)) 0 0 0 0
      have nn := HD.out.not k k0 hk
      unfold nought at nn
      rw [decide_eq_false nn] at EE
      clear nn ru0 ru4
      generalize dec m0 (k * r) = d0 at *
      obtain ⟨e0, he0⟩ : ∃ x, x = dec m0 ((k + 1) * r) := ⟨_, rfl⟩
      rw [← he0] at C
      replace he0 := Lib.hid he0
      generalize dec m1 (k * r) = d1 at *
      obtain ⟨e1, he1⟩ : ∃ x, x = dec m1 ((k + 1) * r) := ⟨_, rfl⟩
      rw [← he1] at C
      replace he1 := Lib.hid he1
      generalize dec m2 (k * r) = d2 at *
      obtain ⟨e2, he2⟩ : ∃ x, x = dec m2 ((k + 1) * r) := ⟨_, rfl⟩
      rw [← he2] at C
      replace he2 := Lib.hid he2
      generalize dec m3 (k * r) = d3 at *
      obtain ⟨e3, he3⟩ : ∃ x, x = dec m3 ((k + 1) * r) := ⟨_, rfl⟩
      rw [← he3] at C
      replace he3 := Lib.hid he3
      have cx := fun j => KX.out.cell j
      go_wp2_with (first | ((with_reducible show wpList _ _ _ (⟨_, .load 32 _, _, _, _, none⟩ :: _) _ _); (with_reducible refine wpBlk_load (g := gr) agg_pol ?_ ?_ KR ?_ ?_); (· exact wanted0 rfl); (· exact ⟨rfl, rfl⟩); (· exact mkc_size _ _)) | ((with_reducible show wpList _ _ _ (⟨_, .load 36 _, _, _, _, none⟩ :: _) _ _); (with_reducible refine wpBlk_load (g := gx) agg_point ?_ ?_ KX ?_ ?_); (· exact wanted0 rfl); (· exact ⟨rfl, rfl⟩); (· rfl)))
      clear cx EE cr
      ((with_reducible refine (C.out _).mono ?_))
      rintro e z1 ⟨rfl, b3⟩
      replace KR := Lib.hid (KR.out.below b3)
      replace KX := Lib.hid (KX.out.below b3)
      replace BB := Lib.hid (bt BB.out b3)
      clear b3
      go_wp2_with ((with_reducible show wpList _ _ _ (⟨_, .store 36 _ _, _, _, _, none⟩ :: _) _ _); (with_reducible refine wpBlk_store (g := gx) (cs := #[.int .i64 n0, .int .i64 0, .int .i64 0, .int .i64 0, .int .i64 0, .int .i64 e0, .int .i64 e1, .int .i64 e2, .int .i64 e3, .int .i64 4, .int .i64 4, .int .i64 0]) agg_point ?_ ?_ KX ?_ ?_ ?_ ?_); (· exact wanted0 rfl); (· exact ⟨rfl, rfl, rfl⟩); (· rfl); (· rfl); (· (simp [Value.oneCell']; done)); refine Marker.mk ?_)
      refine Marker.in ?_
      replace KR := Lib.hid (KR.out.setRow_other gx #[.int .i64 n0, .int .i64 0, .int .i64 0, .int .i64 0, .int .i64 0, .int .i64 e0, .int .i64 e1, .int .i64 e2, .int .i64 e3, .int .i64 4, .int .i64 4, .int .i64 0] (by omega))
      replace KX := Lib.hid (KX.out.setRow #[.int .i64 n0, .int .i64 0, .int .i64 0, .int .i64 0, .int .i64 0, .int .i64 e0, .int .i64 e1, .int .i64 e2, .int .i64 e3, .int .i64 4, .int .i64 4, .int .i64 0])
      replace BB := Lib.hid (below_setRow (g := gx) BB.out (by omega) #[.int .i64 n0, .int .i64 0, .int .i64 0, .int .i64 0, .int .i64 0, .int .i64 e0, .int .i64 e1, .int .i64 e2, .int .i64 e3, .int .i64 4, .int .i64 4, .int .i64 0])
      generalize z1.setRow gx #[.int .i64 n0, .int .i64 0, .int .i64 0, .int .i64 0, .int .i64 0, .int .i64 e0, .int .i64 e1, .int .i64 e2, .int .i64 e3, .int .i64 4, .int .i64 4, .int .i64 0] = z2 at *
      go_wp2_with fail
      refine ⟨⟨k + 1, 4, rfl, by omega, by omega, fun h => absurd h (by omega), fun _ => rfl, KR.out, ?_, BB.out⟩, by simp only [intOf]; omega⟩
      rw [← he0.out, ← he1.out, ← he2.out, ← he3.out]
      exact KX.out
    · have ek : k = K := by omega
      subst ek
      obtain ⟨c0, c1, c2, c3⟩ := HD.out.end
      rw [c0, c1, c2, c3] at KX
      clear c0 c1 c2 c3
      have hfp := HD.out.far_pos
      have C := Lib.hid (step_rest g n0 ru r · hr.out r1 r2)
      have EE := run_eq_four 0 0 0 0 0 0 0 0
      go_wp2_with fail
      have cx := exw_cell KX.out
      clear cr
      have hb : decide (ru = 4) = decide (0 < p4) := by
        rw [decide_eq_decide, hfp]
        constructor
        · intro h
          apply Classical.byContradiction
          intro hc
          have := ru0 (by omega)
          omega
        · exact ru4
      refine wp_region_ext (by kernel_rfl) (by kernel_rfl) ?_
      repeat (first
            | go_big_quiet_skip
            | (go_big_quiet_want
               first
                 | (refine quiet_load_blk (T := 32) (g := gr) agg_pol _ rfl rfl KR ?_ ?_; (· exact mkc_size _ _); go_simp; go_big_quiet_on)
                 | (refine quiet_load_blk (T := 36) (g := gx) agg_point _ rfl rfl KX ?_ ?_; (· rfl); go_simp; go_big_quiet_on)
                 | (go_big_quiet_op
                    first
                      | go_big_quiet_on
                      | go_big_quiet_call (((with_reducible refine ext_of (C.out _)))))))
      refine wpQuiet_nil ?_
      intro _ hw'
      obtain ⟨y, rfl⟩ := hw'
      replace BB := Lib.hid (bt BB.out (exw_bel y))
      generalize exw wr y = w9 at *
      go_wp2_with fail
      go_ret
      refine ⟨?_, BB.out⟩
      simp [go_sem]
      rw [Bool.eq_iff_iff, beq_iff_eq, decide_eq_true_iff, ← hfp]
      exact decide_eq_decide.1 hb

theorem walk_LimitHolds (v0 v1 : Value) (w : World) (q0 : IsPol w v0) (q1 : ∃ base, Value.okWide Try.prog w .any base 36 v1) :
    Calls Try.prog 6 #[v0, v1] w fun e w' => e = .returned (.bool true) ∧ Below w.heap.size w w' := by
  obtain ⟨f, rfl, hp⟩ := q0
  obtain ⟨base, q1⟩ := q1
  obtain ⟨n0, n1, n2, n3, n4, n5, n6, n7, n8, n9, n10, n11, rfl, i0, i1, i2, i3, i4, i5, i6, i7, i8, i9, i10, i11⟩ := flat_point _ _ _ q1
  exact limHolds f n0 n1 n2 n3 n4 n5 n6 n7 n8 n9 n10 n11 w hp i0 i1 i2 i3 i4 i5 i6 i7 i8 i9 i10 i11
end Go.Proofs.Ytcgaodencjcgnaa
