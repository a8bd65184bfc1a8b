/- append(s, x...) of bytes onto a slice that the call itself made: the source nil, empty or not. -/
import Derived.Test.YtapednkmefbldaaDoorRow
import Derived.Maps.AppendAt
import Derived.OwnWalk
import Derived.RegionTactic
namespace Go.Proofs.YtapednkmefbldaaDoor
open Go.RowKit

/-- The slice '.slice A n cap' of n = xs.length bytes xs lies in a block of the call's own (from 'base' on), or is nil. -/
def Own (w : World) (base : Nat) (A : Option Addr) (cap : Nat) (xs : List Int) : Prop :=
  w.ownsRow base 5 1 (.slice A xs.length cap) xs.length (xs.map (Value.int .u8)) ∧ ∀ x ∈ xs, 0 ≤ x ∧ x ≤ 255
theorem Own.row {w : World} {base : Nat} {A : Option Addr} {cap : Nat} {xs : List Int} (h : Own w base A cap xs) : Row w A xs := by
  obtain ⟨h, hb⟩ := h
  refine ⟨?_, hb⟩
  rcases h.2 with ⟨hv, hn⟩ | ⟨g, cap', cur, hv, hg, hh, hl, hm, hs, ht⟩
  · exact .inl (List.eq_nil_of_length_eq_zero hn)
  · right
    injection hv with h1 h2 h3
    refine ⟨g, 0, h1, fun i hi => ?_⟩
    subst h1
    have := h.cellAt i (by omega)
    rw [Nat.zero_add, this]
    simp [hi]
theorem Own.isBytes {w : World} {base : Nat} {A : Option Addr} {cap : Nat} {xs : List Int} (h : Own w base A cap xs) : IsBytes w (.slice A xs.length cap) := by
  refine ⟨A, xs, cap, rfl, ?_, ?_, h.row, ?_⟩
  all_goals
    rcases h.1.2 with ⟨hv, hn⟩ | ⟨g, cap', cur, hv, hg, hh, hl, hm, hs, ht⟩
    · simp at hv; first | omega | (intro _; exact hv.2.2)
    · injection hv with h1 h2 h3
      subst h1 h3
      unfold maxLen at hm
      first | omega | (intro h; cases h)
theorem own_nil (w : World) (base : Nat) : Own w base none 0 [] := ⟨World.ownsRow_nil _ _ _ _, fun x hx => by simp at hx⟩
theorem own_lit (w : World) (base : Nat) (hb : base ≤ w.heap.size) : Own (w.alloc (.cells #[] 5)) base (some ⟨w.heap.size, 0, none⟩) 0 [] :=
  ⟨World.ownsRow_lit w #[] 0 hb (by unfold maxLen; omega) rfl, fun x hx => by simp at hx⟩
theorem own_below {w w' : World} {base : Nat} {A : Option Addr} {cap : Nat} {xs : List Int} (h : Own w base A cap xs) (hb : Below w.heap.size w w') : Own w' base A cap xs := by
  refine ⟨?_, h.2⟩
  obtain ⟨h1, h2⟩ := h.1
  refine ⟨h1, ?_⟩
  rcases h2 with h2 | ⟨g, cap', cur, hv, hg, hh, hl⟩
  · exact .inl h2
  · refine .inr ⟨g, cap', cur, hv, hg, ?_, hl⟩
    rw [hb.block g ?_]
    · exact hh
    · rcases Nat.lt_or_ge g w.heap.size with h | h
      · exact h
      · rw [Array.getElem?_eq_none h] at hh; cases hh

set_option maxRecDepth 100000 in
theorem run_append_bytes (w : World) (base : Nat) (A : Option Addr) (cap : Nat) (xs : List Int) (hown : Own w base A cap xs) (B : Option Addr) (c : Nat) (ys : List Int) (hr : Row w B ys)
    (hsmall : xs.length + ys.length ≤ 1000000000) (hbase : base ≤ w.heap.size) (ty : TypeId) :
    ∃ A' cap' w', (Builtin.append_ #[23, 23] ty #[.slice A xs.length cap, .slice B ys.length c]).run Tryd.prog w = .ok (.slice A' (xs.length + ys.length) cap') w' ∧
      Own w' base A' cap' (xs ++ ys) ∧ Below base w w' := by
  obtain ⟨i0, hi, hz0, hz1, hz2⟩ := info_parts info_u8
  have hbb : ∀ x ∈ xs ++ ys, 0 ≤ x ∧ x ≤ 255 := by
    intro x hx
    rcases List.mem_append.1 hx with h | h
    · exact hown.2 x h
    · exact hr.2 x h
  rcases B with _ | ad
  · have hy : ys = [] := by
      rcases hr.1 with h | ⟨b, off, h, _⟩
      · exact h
      · cases h
    subst hy
    refine ⟨A, cap, w, ?_, by simpa using hown, Below.refl _ _⟩
    rcases hown.1.2 with ⟨hv, hn⟩ | ⟨g, cap', cur, hv, _, _, hnc, _⟩
    · rw [hv]
      simp [Builtin.append_, run_underlying Tryd.underlying23, sizeOf, typeInfo, hi, Builtin.lenOf, Builtin.firstCells, hn]
      simp at hv
      exact ⟨hv.1.symm, hv.2.2.symm⟩
    · injection hv with h1 h2 h3
      subst h1 h3
      simp [Builtin.append_, run_underlying Tryd.underlying23, sizeOf, typeInfo, hi, Builtin.lenOf, Builtin.firstCells, hnc, storeCells]
  · have hcells : ∀ (j : Nat) u, (ys.map (Value.int .u8))[j]? = some u → w.cell? (ad.add j) = some u := by
      intro j u hu
      have hj : j < ys.length := by
        rcases Nat.lt_or_ge j ys.length with h | h
        · exact h
        · rw [List.getElem?_eq_none (by simpa using h)] at hu; cases hu
      rcases hr.1 with h | ⟨b, off, h, hc⟩
      · subst h; simp at hj
      · injection h with h
        subst h
        have e : (⟨b, off, none⟩ : Addr).add j = ⟨b, off + j, none⟩ := by unfold Addr.add; split <;> simp_all
        rw [e, hc j hj]
        simpa [hj] using hu
    obtain ⟨v', w', hrun, h2, h3, _, h5⟩ := run_append_own_at (P := Tryd.prog) w base 23 ty 5 i0 (.int .u8 0) 1 1 Tryd.underlying23 hi hz0 hz1 hz2 rfl (by omega) _ _ _ hown.1 ad ys.length c (ys.map (Value.int .u8)) (by simp) hcells
      (by intro u hu; simp at hu; obtain ⟨a, _, rfl⟩ := hu; rfl) (by unfold maxLen; omega) (by omega) hbase
    have hbel : Below base w w' := by
      refine (Below.refl _ _).grown h3 hbase (fun k hk => ?_)
      exact (hown.1.lt k hk).1
    rcases h2.2 with ⟨hv, hn⟩ | ⟨g, cap', cur, hv, hrest⟩
    · refine ⟨none, 0, w', ?_, ⟨?_, hbb⟩, hbel⟩
      · rw [hrun, hv, hn]
      · have e : (xs ++ ys).length = 0 := by simpa using hn
        have e2 : xs ++ ys = [] := List.eq_nil_of_length_eq_zero e
        rw [e2]; exact World.ownsRow_nil _ _ _ _
    · refine ⟨some ⟨g, 0, none⟩, cap', w', by rw [hrun, hv], ⟨?_, hbb⟩, hbel⟩
      rw [hv] at h2
      rw [List.length_append, List.map_append]
      exact h2

set_option maxRecDepth 100000 in
theorem wpList_append_bytes {ops : Array Oper} {rest : List Oper} {o : Oper} {a : Act} {Q : Exit → Act → World → Prop} (w : World) (hgd : o.guard = none) (s x : Operand)
    (ho : o.op = .call { callee := .builtin .append, args := #[s, x], argTypes := #[23, 23] })
    (base : Nat) (A : Option Addr) (cap n : Nat) (xs : List Int) (hn : xs.length = n) (hs : a.eval s = .slice A n cap) (hown : Own w base A cap xs)
    (B : Option Addr) (c m : Nat) (ys : List Int) (hm : ys.length = m) (hx : a.eval x = .slice B m c) (hr : Row w B ys)
    (hsmall : n + m ≤ 1000000000) (hbase : base ≤ w.heap.size)
    (h : ∀ A' cap' w', Own w' base A' cap' (xs ++ ys) → Below base w w' → wpList Tryd.prog ops Q rest (a.put o.dst (.slice A' (n + m) cap')) w') : wpList Tryd.prog ops Q (o :: rest) a w := by
  subst hn hm
  refine wpList_plain hgd fun K hK => ?_
  obtain ⟨A', cap', w', hrun, h2, h3⟩ := run_append_bytes w base A cap xs hown B c ys hr hsmall hbase o.type
  unfold Oper.wp execOp
  simp only [ho, resolve, invoke, builtin, Sem.run_bind, Sem.run_pure, Result.andThen_ok, List.map_toArray, List.map_cons, List.map_nil, hs, hx, hrun]
  exact hK _ _ (h A' cap' w' h2 h3)
end Go.Proofs.YtapednkmefbldaaDoor
