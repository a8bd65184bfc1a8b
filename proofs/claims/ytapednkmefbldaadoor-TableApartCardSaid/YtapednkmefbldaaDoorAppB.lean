/- append of bytes, with what stays apart. -/
import Derived.Test.YtapednkmefbldaaDoorApp
import Derived.Test.YtapednkmefbldaaDoorRowW
namespace Go.Proofs.YtapednkmefbldaaDoor
open Go.RowKit

/-- it does not lie in block k -/
def Apart (A : Option Addr) (k : Nat) : Prop := ∀ a, A = some a → a.block ≠ k
theorem own_lt {w : World} {base : Nat} {A : Option Addr} {cap : Nat} {xs : List Int} (h : Own w base A cap xs) : ∀ a, A = some a → base ≤ a.block ∧ a.block < w.heap.size := by
  intro a ha
  subst ha
  rcases h.1.2 with ⟨hv, hn⟩ | ⟨g, cap', cur, hv, hg, hh, hl⟩
  · simp at hv
  · injection hv with h1 h2 h3
    injection h1 with h1
    subst h1
    exact ⟨hg, blk_lt hh⟩
theorem own_same {w w' : World} {base : Nat} {A : Option Addr} {cap : Nat} {xs : List Int} (h : Own w base A cap xs) (hb : ∀ a, A = some a → w'.heap[a.block]? = w.heap[a.block]?) : Own w' base A cap xs := by
  obtain ⟨⟨h1, h2⟩, h3⟩ := h
  refine ⟨⟨h1, ?_⟩, h3⟩
  rcases h2 with h2 | ⟨g, cap', cur, hv, hg, hh, hl⟩
  · exact .inl h2
  · refine .inr ⟨g, cap', cur, hv, hg, ?_, hl⟩
    injection hv with h1 h2 h3
    subst h1
    rw [hb _ rfl]
    exact hh
/-- one row stays where another one grows -/
theorem own_apart {w w' : World} {base : Nat} {A B : Option Addr} {cap : Nat} {xs : List Int} (h : Own w base B cap xs) (hAB : ∀ b, B = some b → Apart A b.block)
    (hk : ∀ k, k < w.heap.size → Apart A k → w'.heap[k]? = w.heap[k]?) : Own w' base B cap xs :=
  own_same h fun b hb => hk b.block (own_lt h b hb).2 (hAB b hb)
set_option maxRecDepth 100000 in
theorem run_append_bytes' (w : World) (base : Nat) (A : Option Addr) (cap : Nat) (xs : List Int) (hown : Own w base A cap xs) (B : Option Addr) (c : Nat) (ys : List Int) (hr : Row w B ys)
    (hsmall : xs.length + ys.length ≤ 1000000000) (hbase : base ≤ w.heap.size) (ty : TypeId) :
    ∃ A' cap' w', (Builtin.append_ #[23, 23] ty #[.slice A xs.length cap, .slice B ys.length c]).run Tryd.prog w = .ok (.slice A' (xs.length + ys.length) cap') w' ∧
      Own w' base A' cap' (xs ++ ys) ∧ Below base w w' ∧ (∀ k, k < w.heap.size → Apart A k → w'.heap[k]? = w.heap[k]? ∧ Apart A' k) := by
  obtain ⟨i0, hi, hz0, hz1, hz2⟩ := info_parts info_u8
  have hbb : ∀ x ∈ xs ++ ys, 0 ≤ x ∧ x ≤ 255 := by
    intro x hx
    rcases List.mem_append.1 hx with h | h
    · exact hown.2 x h
    · exact hr.2 x h
  rcases B with _ | ad
  · have hy : ys = [] := by
      rcases hr.1 with h | ⟨b, off, h, _⟩
      · exact h
      · cases h
    subst hy
    refine ⟨A, cap, w, ?_, by simpa using hown, Below.refl _ _, fun k _ hA => ⟨rfl, hA⟩⟩
    rcases hown.1.2 with ⟨hv, hn⟩ | ⟨g, cap', cur, hv, _, _, hnc, _⟩
    · rw [hv]
      simp [Builtin.append_, run_underlying Tryd.underlying23, sizeOf, typeInfo, hi, Builtin.lenOf, Builtin.firstCells, hn]
      simp at hv
      exact ⟨hv.1.symm, hv.2.2.symm⟩
    · injection hv with h1 h2 h3
      subst h1 h3
      simp [Builtin.append_, run_underlying Tryd.underlying23, sizeOf, typeInfo, hi, Builtin.lenOf, Builtin.firstCells, hnc, storeCells]
  · have hcells : ∀ (j : Nat) u, (ys.map (Value.int .u8))[j]? = some u → w.cell? (ad.add j) = some u := by
      intro j u hu
      have hj : j < ys.length := by
        rcases Nat.lt_or_ge j ys.length with h | h
        · exact h
        · rw [List.getElem?_eq_none (by simpa using h)] at hu; cases hu
      rcases hr.1 with h | ⟨b, off, h, hc⟩
      · subst h; simp at hj
      · injection h with h
        subst h
        have e : (⟨b, off, none⟩ : Addr).add j = ⟨b, off + j, none⟩ := by unfold Addr.add; split <;> simp_all
        rw [e, hc j hj]
        simpa [hj] using hu
    obtain ⟨v', w', hrun, h2, h3, h4, h5⟩ := run_append_own_at (P := Tryd.prog) w base 23 ty 5 i0 (.int .u8 0) 1 1 Tryd.underlying23 hi hz0 hz1 hz2 rfl (by omega) _ _ _ hown.1 ad ys.length c (ys.map (Value.int .u8)) (by simp) hcells
      (by intro u hu; simp at hu; obtain ⟨a, _, rfl⟩ := hu; rfl) (by unfold maxLen; omega) (by omega) hbase
    have hbel : Below base w w' := (Below.refl _ _).grown h3 hbase (fun k hk => (hown.1.lt k hk).1)
    have hblk : ∀ k, k < w.heap.size → Apart A k → w'.heap[k]? = w.heap[k]? := by
      intro k hk hA
      refine h3.block k hk ?_
      cases A with
      | none => simp [Value.ownBlock]
      | some a => simpa [Value.ownBlock] using Ne.symm (hA a rfl)
    rcases h2.2 with ⟨hv, hn⟩ | ⟨g, cap', cur, hv, hrest⟩
    · refine ⟨none, 0, w', ?_, ⟨?_, hbb⟩, hbel, fun k hk hA => ⟨hblk k hk hA, fun a ha => by cases ha⟩⟩
      · rw [hrun, hv, hn]
      · have e : (xs ++ ys).length = 0 := by simpa using hn
        have e2 : xs ++ ys = [] := List.eq_nil_of_length_eq_zero e
        rw [e2]; exact World.ownsRow_nil _ _ _ _
    · refine ⟨some ⟨g, 0, none⟩, cap', w', by rw [hrun, hv], ⟨?_, hbb⟩, hbel, fun k hk hA => ⟨hblk k hk hA, ?_⟩⟩
      · rw [hv] at h2
        rw [List.length_append, List.map_append]
        exact h2
      · intro a ha
        injection ha with ha
        subst ha
        rw [hv] at h5
        rcases h5 with h5 | h5
        · cases A with
          | none => simp [Value.ownBlock] at h5
          | some a => simp [Value.ownBlock] at h5; rw [h5]; exact hA a rfl
        · simp [Value.ownBlock] at h5
          rw [h5]
          show w.heap.size ≠ k
          omega

set_option maxRecDepth 100000 in
theorem wpList_append_bytes' {ops : Array Oper} {rest : List Oper} {o : Oper} {a : Act} {Q : Exit → Act → World → Prop} (w : World) (hgd : Region.wanted o (yielded ops a.tmps) = true) (s x : Operand)
    (ho : o.op = .call { callee := .builtin .append, args := #[s, x], argTypes := #[23, 23] })
    (base : Nat) (A : Option Addr) (cap n : Nat) (xs : List Int) (hn : xs.length = n) (hs : a.eval s = .slice A n cap) (hown : Own w base A cap xs)
    (B : Option Addr) (c m : Nat) (ys : List Int) (hm : ys.length = m) (hx : a.eval x = .slice B m c) (hr : Row w B ys)
    (hsmall : n + m ≤ 1000000000) (hbase : base ≤ w.heap.size)
    (h : ∀ A' cap' w', Own w' base A' cap' (xs ++ ys) → Below base w w' → (∀ k, k < w.heap.size → Apart A k → w'.heap[k]? = w.heap[k]? ∧ Apart A' k) → wpList Tryd.prog ops Q rest (a.put o.dst (.slice A' (n + m) cap')) w') : wpList Tryd.prog ops Q (o :: rest) a w := by
  subst hn hm
  obtain ⟨A', cap', w', hrun, h2, h3, h4⟩ := run_append_bytes' w base A cap xs hown B c ys hr hsmall hbase o.type
  refine wpRow_run hgd (v := .slice A' (xs.length + ys.length) cap') (w' := w') ?_ (h A' cap' w' h2 h3 h4)
  unfold execOp
  simp only [ho, resolve, invoke, builtin, Sem.run_bind, Sem.run_pure, Result.andThen_ok, List.map_toArray, List.map_cons, List.map_nil, hs, hx, hrun]
end Go.Proofs.YtapednkmefbldaaDoor
