/- append onto a slice of bytes that is full. -/
import Derived.Test.YtapednkmefbldaaDoorAppB
import Derived.ArgAppend
namespace Go.Proofs.YtapednkmefbldaaDoor
open Go.RowKit

set_option maxRecDepth 100000 in
/-- append onto a slice that is full -/
theorem run_append_full (w : World) (g : Nat) (xs : List Int) (hr0 : Row w (some ⟨g, 0, none⟩) xs) (g' c : Nat) (ys : List Int) (hr : Row w (some ⟨g', 0, none⟩) ys) (hpos : 0 < ys.length) (hsmall : xs.length + ys.length ≤ 1000000000) (ty : TypeId) :
    ∃ A' cap' w', (Builtin.append_ #[23, 23] ty #[.slice (some ⟨g, 0, none⟩) xs.length xs.length, .slice (some ⟨g', 0, none⟩) ys.length c]).run Tryd.prog w = .ok (.slice A' (xs.length + ys.length) cap') w' ∧
      Own w' w.heap.size A' cap' (xs ++ ys) ∧ Below w.heap.size w w' := by
  obtain ⟨i0, hi, hz0, hz1, hz2⟩ := info_parts info_u8
  have cells : ∀ (g : Nat) (l : List Int), Row w (some ⟨g, 0, none⟩) l → ∀ (j : Nat) u, (l.map (Value.int .u8))[j]? = some u → w.cell? ((⟨g, 0, none⟩ : Addr).add j) = some u := by
    intro g l hl j u hu
    have hj : j < l.length := by
      rcases Nat.lt_or_ge j l.length with h | h
      · exact h
      · rw [List.getElem?_eq_none (by simpa using h)] at hu; cases hu
    rcases hl.1 with h | ⟨b, off, h, hc⟩
    · subst h; simp at hj
    · injection h with h
      have e : ((⟨g, 0, none⟩ : Addr)).add j = ⟨b, off + j, none⟩ := by rw [h]; unfold Addr.add; split <;> simp_all
      rw [e, hc j hj]
      simpa [hj] using hu
  have hbb : ∀ x ∈ xs ++ ys, 0 ≤ x ∧ x ≤ 255 := by
    intro x hx
    rcases List.mem_append.1 hx with h | h
    · exact hr0.2 x h
    · exact hr.2 x h
  obtain ⟨v', w', hrun, h2, h3⟩ := run_append_arg_grows (P := Tryd.prog) w 23 ty 5 i0 (.int .u8 0) 1 1 Tryd.underlying23 hi hz0 hz1 hz2 rfl (by omega) ⟨g, 0, none⟩ xs.length xs.length (xs.map (Value.int .u8)) (by simp) (cells g xs hr0) ⟨g', 0, none⟩ ys.length c (ys.map (Value.int .u8)) (by simp) (cells g' ys hr) (by omega) (by unfold maxLen; omega) (by omega)
  have hbel : Below w.heap.size w w' := (Below.refl _ _).grown h3 (Nat.le_refl _) (fun k hk => by cases hk)
  rcases h2.2 with ⟨hv, hn⟩ | ⟨g2, cap', cur, hv, hrest⟩
  · omega
  · refine ⟨some ⟨g2, 0, none⟩, cap', w', by rw [hrun, hv], ⟨?_, hbb⟩, hbel⟩
    rw [hv] at h2
    rw [List.length_append, List.map_append]
    exact h2
set_option maxRecDepth 100000 in
theorem wpList_append_full {ops : Array Oper} {rest : List Oper} {o : Oper} {a : Act} {Q : Exit → Act → World → Prop} (w : World) (hgd : Region.wanted o (yielded ops a.tmps) = true) (s x : Operand)
    (ho : o.op = .call { callee := .builtin .append, args := #[s, x], argTypes := #[23, 23] })
    (g n : Nat) (xs : List Int) (hn : xs.length = n) (hs : a.eval s = .slice (some ⟨g, 0, none⟩) n n) (hr0 : Row w (some ⟨g, 0, none⟩) xs)
    (g' c m : Nat) (ys : List Int) (hm : ys.length = m) (hx : a.eval x = .slice (some ⟨g', 0, none⟩) m c) (hr : Row w (some ⟨g', 0, none⟩) ys)
    (hpos : 0 < m) (hsmall : n + m ≤ 1000000000)
    (h : ∀ A' cap' w', Own w' w.heap.size A' cap' (xs ++ ys) → Below w.heap.size w w' → wpList Tryd.prog ops Q rest (a.put o.dst (.slice A' (n + m) cap')) w') : wpList Tryd.prog ops Q (o :: rest) a w := by
  subst hn hm
  obtain ⟨A', cap', w', hrun, hown, hbel⟩ := run_append_full w g xs hr0 g' c ys hr hpos hsmall o.type
  refine wpRow_run hgd (v := .slice A' (xs.length + ys.length) cap') (w' := w') ?_ (h _ _ _ hown hbel)
  unfold execOp
  simp only [ho, resolve, invoke, builtin, Sem.run_bind, Sem.run_pure, Result.andThen_ok, List.map_toArray, List.map_cons, List.map_nil, hs, hx, hrun]

end Go.Proofs.YtapednkmefbldaaDoor
