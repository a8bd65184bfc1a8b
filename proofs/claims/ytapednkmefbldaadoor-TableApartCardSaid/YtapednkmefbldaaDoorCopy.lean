/- copy of bytes into a block of bytes; make of bytes. -/
import Derived.Test.YtapednkmefbldaaDoorRowK
import Derived.Laws.MakeOwn
import Derived.Laws.CopyRow
import Derived.Laws.IdiomCopy
import Derived.Deep.MidRow
namespace Go.Proofs.YtapednkmefbldaaDoor
open Go.RowKit

def zeros (n : Nat) : List Int := List.replicate n 0
theorem zeros_len (n : Nat) : (zeros n).length = n := by simp [zeros]
theorem zeros_bytes (n : Nat) : ∀ x ∈ zeros n, 0 ≤ x ∧ x ≤ 255 := by intro x hx; simp [zeros] at hx; omega
/-- l with ys from off on -/
def putAt (l : List Int) (off : Nat) (ys : List Int) : List Int := l.take off ++ ys ++ l.drop (off + ys.length)
theorem putAt_len (l : List Int) (off : Nat) (ys : List Int) (h : off + ys.length ≤ l.length) : (putAt l off ys).length = l.length := by
  simp [putAt]; omega
theorem putAt_nil (l : List Int) (off : Nat) : putAt l off [] = l := by simp [putAt]
theorem run_makeU8 (k : Nat) (hk : k ≤ 1000000000000) (W : World) :
    (Instr.makeSlice 23 (.int .i64 (k : Int)) (.int .i64 (k : Int))).run Tryd.prog W = .ok (.slice (some ⟨W.heap.size, 0, none⟩) k k) (W.alloc (.cells (u8V (zeros k)) 5)) := by
  obtain ⟨i0, hi, hz0, hz1, hz2⟩ := info_parts info_u8
  have h := run_make (P := Tryd.prog) W 23 5 i0 _ Tryd.underlying23 hi hz0 .i64 .i64 k k (by omega) (by omega) (by rw [hz2]; omega) (by omega)
  rw [h, hz1, Int.toNat_natCast, Nat.mul_one]
  have e : madeCells (Value.int IntKind.u8 0).cells k = u8V (zeros k) := by
    apply Array.ext
    · simp [madeCells, u8V, zeros]
    · intro i h1 h2
      simp [madeCells, u8V, zeros, Nat.mod_one, Value.cells]
  rw [e]

theorem run_copy_u8 (w : World) (g off dLen dCap : Nat) (l : List Int) (T : TypeId) (hg : Blk w g (u8V l) T) (A : Option Addr) (sLen sCap : Nat) (xs : List Int) (hx : xs.length = sLen) (hr : Row w A xs) (m : Nat) (hm : Nat.min sLen dLen = m)
    (hfit : off + m ≤ l.length) (D : Option Addr) (hD : 0 < m → D = some ⟨g, off, none⟩) (ty : TypeId) :
    ∃ w', (Builtin.copy_ #[23, 23] ty #[.slice D dLen dCap, .slice A sLen sCap]).run Tryd.prog w = .ok (.int .i64 m) w' ∧ Blk w' g (u8V (putAt l off (xs.take m))) T ∧ Below g w w' ∧ (∀ k, k ≠ g → w'.heap[k]? = w.heap[k]?) ∧ w'.heap.size = w.heap.size := by
  have hs1 : (Tryd.prog.info? 5).map (·.size) = some 1 := by kernel_rfl
  have hml : m ≤ xs.length := by rw [hx, ← hm]; exact Nat.min_le_left _ _
  rcases Nat.eq_zero_or_pos m with h0 | h0
  · subst h0
    refine ⟨w, ?_, ?_, Below.refl _ _, fun _ _ => rfl, rfl⟩
    · exact run_copy_none w _ _ ty _ D A dLen dCap sLen sCap Tryd.underlying23 hs1 hm
    · rw [List.take_zero, putAt_nil]; exact hg
  · obtain rfl := hD h0
    obtain ⟨ad, rfl, hc⟩ : ∃ ad, A = some ad ∧ ∀ j v, ((xs.take m).map (Value.int .u8))[j]? = some v → w.cell? (ad.add j) = some v := by
      rcases hr.1 with h | ⟨b, o, h, hc⟩
      · subst h; simp at hml; omega
      · refine ⟨_, h, fun j v hv => ?_⟩
        have hj : j < (xs.take m).length := by
          rcases Nat.lt_or_ge j (xs.take m).length with h | h
          · exact h
          · rw [List.getElem?_eq_none (by simpa using h)] at hv; cases hv
        have hj2 : j < xs.length := by rw [List.length_take] at hj; omega
        rw [Addr.add_mid, hc j hj2]
        have hj3 : j < m := by rw [List.length_take] at hj; omega
        simp [List.getElem?_take_of_lt hj3, hj2] at hv
        exact congrArg some hv
    have hrun := run_copy_row (P := Tryd.prog) w 23 23 ty 5 g off dLen dCap ad sLen sCap (u8V l) T ((xs.take m).map (Value.int .u8)) Tryd.underlying23 hs1 hg (by simp [hml, hm]) hc (by rw [u8V_size]; simp; omega) (by intro v hv; rw [List.mem_map] at hv; obtain ⟨a, _, rfl⟩ := hv; rfl)
    have e : ((u8V l).toList.take off ++ (xs.take m).map (Value.int .u8) ++ (u8V l).toList.drop (off + ((xs.take m).map (Value.int .u8)).length)).toArray = u8V (putAt l off (xs.take m)) := by
      simp [u8V, putAt]
    rw [e] at hrun
    refine ⟨_, by rw [hrun]; simp [goInt, hml], hg.setRow _, below_setRow (Below.refl _ _) (Nat.le_refl _) _, fun k hk => setRow_other w g k _ hk, by simp⟩

def CopyAt (o : Oper) (a : Act) (D : Option Addr) (dLen dCap : Nat) (A : Option Addr) (sLen sCap : Nat) : Prop := match o.op with
  | .call ⟨.builtin .copy, args, tys⟩ => tys = #[23, 23] ∧ ∃ d s, args = #[d, s] ∧ a.eval d = .slice D dLen dCap ∧ a.eval s = .slice A sLen sCap
  | _ => False
section
variable {ops : Array Oper} {rest : List Oper} {o : Oper} {a : Act} {w : World} {Q : Exit → Act → World → Prop}
theorem wpBlk_copy (hw : Region.wanted o (yielded ops a.tmps) = true) (g off dLen dCap : Nat) (l : List Int) (T : TypeId) (A : Option Addr) (sLen sCap : Nat) (xs : List Int) (m : Nat) (D : Option Addr)
    (hc : CopyAt o a D dLen dCap A sLen sCap) (hg : Hid (Blk w g (u8V l) T)) (hx : xs.length = sLen) (hr : Hid (Row w A xs)) (hm : Nat.min sLen dLen = m)
    (hfit : off + m ≤ l.length) (hD : 0 < m → D = some ⟨g, off, none⟩)
    (h : ∀ w', Blk w' g (u8V (putAt l off (xs.take m))) T → Below g w w' → (∀ k, k ≠ g → w'.heap[k]? = w.heap[k]?) → w'.heap.size = w.heap.size → wpList Tryd.prog ops Q rest (a.put o.dst (.int .i64 m)) w') : wpList Tryd.prog ops Q (o :: rest) a w := by
  obtain ⟨w', hrun, h1, h2, h3, h4⟩ := run_copy_u8 w g off dLen dCap l T hg.out A sLen sCap xs hx hr.out m hm hfit D hD o.type
  unfold CopyAt at hc
  split at hc
  · rename_i args tys ho
    obtain ⟨rfl, d, s, rfl, e1, e2⟩ := hc
    refine wpRow_run hw (v := .int .i64 m) (w' := w') ?_ (h w' h1 h2 h3 h4)
    unfold execOp
    simp only [ho, resolve, invoke, builtin, Sem.run_bind, Sem.run_pure, Result.andThen_ok, List.map_toArray, List.map_cons, List.map_nil, e1, e2, hrun]
  · exact hc.elim
end
end Go.Proofs.YtapednkmefbldaaDoor
