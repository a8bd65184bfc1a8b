/- append(s, x) of ints onto a slice that the call itself made. -/
import Derived.Test.YtchbejkmnbbakaaRow
import Derived.Maps.AppendAt
import Derived.OwnWalk
import Derived.RegionTactic
namespace Go.Proofs.Ytchbejkmnbbakaa
open Go.RowKit

theorem info_i64 : (Try.prog.info? 3).map (fun i => (i.zero, i.size, i.bytes)) = some (some (.int .i64 0), 1, 8) := by kernel_rfl
/-- The slice '.slice A n cap' of n = xs.length ints xs lies in a block of the call's own (from 'base' on), or is nil. -/
def OwnI (w : World) (base : Nat) (A : Option Addr) (cap : Nat) (xs : List Int) : Prop :=
  w.ownsRow base 3 1 (.slice A xs.length cap) xs.length (xs.map (Value.int .i64))
/-- it does not lie in block k -/
def Apart (A : Option Addr) (k : Nat) : Prop := ∀ a, A = some a → a.block ≠ k
theorem OwnI.cell {w : World} {base : Nat} {A : Option Addr} {cap : Nat} {xs : List Int} (h : OwnI w base A cap xs) (i : Nat) (hi : i < xs.length) :
    ∃ g, A = some ⟨g, 0, none⟩ ∧ base ≤ g ∧ w.cell? ⟨g, i, none⟩ = some (.int .i64 xs[i]) := by
  rcases h.2 with ⟨hv, hn⟩ | ⟨g, cap', cur, hv, hg, hh, hl, hm, hs, ht⟩
  · omega
  · injection hv with h1 h2 h3
    refine ⟨g, h1, hg, ?_⟩
    subst h1
    have := h.cellAt i (by omega)
    rw [this]
    simp [hi]
theorem ownI_lit (w : World) (base : Nat) (hb : base ≤ w.heap.size) : OwnI (w.alloc (.cells #[] 3)) base (some ⟨w.heap.size, 0, none⟩) 0 [] :=
  World.ownsRow_lit w #[] 0 hb (by unfold maxLen; omega) rfl
theorem ownI_same {w w' : World} {base : Nat} {A : Option Addr} {cap : Nat} {xs : List Int} (h : OwnI w base A cap xs) (hb : ∀ a, A = some a → w'.heap[a.block]? = w.heap[a.block]?) : OwnI w' base A cap xs := by
  obtain ⟨h1, h2⟩ := h
  refine ⟨h1, ?_⟩
  rcases h2 with h2 | ⟨g, cap', cur, hv, hg, hh, hl⟩
  · exact .inl h2
  · refine .inr ⟨g, cap', cur, hv, hg, ?_, hl⟩
    injection hv with h1 h2 h3
    subst h1
    rw [hb _ rfl]
    exact hh
theorem OwnI.lt {w : World} {base : Nat} {A : Option Addr} {cap : Nat} {xs : List Int} (h : OwnI w base A cap xs) : ∀ a, A = some a → base ≤ a.block ∧ a.block < w.heap.size := by
  intro a ha
  subst ha
  rcases h.2 with ⟨hv, hn⟩ | ⟨g, cap', cur, hv, hg, hh, hl⟩
  · simp at hv
  · injection hv with h1 h2 h3
    injection h1 with h1
    subst h1
    exact ⟨hg, blk_lt hh⟩
theorem ownI_below {w w' : World} {base : Nat} {A : Option Addr} {cap : Nat} {xs : List Int} (h : OwnI w base A cap xs) (hb : Below w.heap.size w w') : OwnI w' base A cap xs :=
  ownI_same h fun a ha => hb.block _ (h.lt a ha).2

theorem run_append_int (w : World) (base : Nat) (A : Option Addr) (cap : Nat) (xs : List Int) (hown : OwnI w base A cap xs) (ad : Addr) (c : Nat) (x : Int) (hr : w.cell? ad = some (.int .i64 x))
    (hsmall : xs.length ≤ 1000000000) (hbase : base ≤ w.heap.size) (ty : TypeId) :
    ∃ A' cap' w', (Builtin.append_ #[40, 40] ty #[.slice A xs.length cap, .slice (some ad) 1 c]).run Try.prog w = .ok (.slice A' (xs.length + 1) cap') w' ∧
      OwnI w' base A' cap' (xs ++ [x]) ∧ Below base w w' ∧ (∀ k, k < w.heap.size → Apart A k → w'.heap[k]? = w.heap[k]? ∧ Apart A' k) := by
  obtain ⟨i0, hi, hz0, hz1, hz2⟩ := info_parts info_i64
  obtain ⟨v', w', hrun, h2, h3, h4, h5⟩ := run_append_own_at (P := Try.prog) w base 40 ty 3 i0 (.int .i64 0) 1 8 Try.underlying40 hi hz0 hz1 hz2 rfl (by omega) _ _ _ hown ad 1 c [.int .i64 x] (by simp) (fun j u hu => by
      cases j with
      | zero => simp at hu; subst hu; simpa [Addr.add] using hr
      | succ j => simp at hu)
    (by intro u hu; simp at hu; subst hu; rfl) (by unfold maxLen; omega) (by omega) hbase
  have hown' : w.ownsRow base 3 1 (.slice A xs.length cap) xs.length (xs.map (Value.int .i64)) := hown
  have hbel : Below base w w' := (Below.refl _ _).grown h3 hbase (fun k hk => (hown'.lt k hk).1)
  rcases h2.2 with ⟨hv, hn⟩ | ⟨g, cap', cur, hv, hrest⟩
  · omega
  · refine ⟨some ⟨g, 0, none⟩, cap', w', by rw [hrun, hv], ?_, hbel, fun k hk hA => ⟨?_, ?_⟩⟩
    · rw [hv] at h2
      unfold OwnI
      rw [List.length_append, List.map_append]
      exact h2
    · refine h3.block k hk ?_
      cases A with
      | none => simp [Value.ownBlock]
      | some a => simpa [Value.ownBlock] using Ne.symm (hA a rfl)
    · intro a ha
      injection ha with ha
      subst ha
      rw [hv] at h5
      rcases h5 with h5 | h5
      · cases A with
        | none => simp [Value.ownBlock] at h5
        | some a => simp [Value.ownBlock] at h5; rw [h5]; exact hA a rfl
      · simp [Value.ownBlock] at h5
        rw [h5]
        show w.heap.size ≠ k
        omega

theorem wpList_append_int {ops : Array Oper} {rest : List Oper} {o : Oper} {a : Act} {Q : Exit → Act → World → Prop} (w : World) (hgd : o.guard = none) (s x : Operand)
    (ho : o.op = .call { callee := .builtin .append, args := #[s, x], argTypes := #[40, 40] })
    (base : Nat) (A : Option Addr) (cap n : Nat) (xs : List Int) (hn : xs.length = n) (hs : a.eval s = .slice A n cap) (hown : OwnI w base A cap xs)
    (ad : Addr) (c : Nat) (y : Int) (hx : a.eval x = .slice (some ad) 1 c) (hr : w.cell? ad = some (.int .i64 y))
    (hsmall : n ≤ 1000000000) (hbase : base ≤ w.heap.size)
    (h : ∀ A' cap' w', OwnI w' base A' cap' (xs ++ [y]) → Below base w w' → (∀ k, k < w.heap.size → Apart A k → w'.heap[k]? = w.heap[k]? ∧ Apart A' k) → wpList Try.prog ops Q rest (a.put o.dst (.slice A' (n + 1) cap')) w') : wpList Try.prog ops Q (o :: rest) a w := by
  subst hn
  refine wpList_plain hgd fun K hK => ?_
  obtain ⟨A', cap', w', hrun, h2, h3, h4⟩ := run_append_int w base A cap xs hown ad c y hr hsmall hbase o.type
  unfold Oper.wp execOp
  simp only [ho, resolve, invoke, builtin, Sem.run_bind, Sem.run_pure, Result.andThen_ok, List.map_toArray, List.map_cons, List.map_nil, hs, hx, hrun]
  exact hK _ _ (h A' cap' w' h2 h3 h4)
end Go.Proofs.Ytchbejkmnbbakaa
