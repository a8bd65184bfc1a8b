/- sha.Sum. -/
import Derived.Test.YtapednkmefbldaaDoorShaP
namespace Go.Proofs.YtapednkmefbldaaDoor
open Go.RowKit

theorem quiet_load_blk {P : Program} {a : Act} {o : Oper} {W : World} {K : Act → Prop} {T : TypeId} {g n : Nat} {cs : Array Value} (hT : AggT P T n) (x : Operand) (ho : o.op = .load T x) (hx : a.eval x = .pointer (some ⟨g, 0, none⟩)) (hg : Hid (Blk W g cs T)) (hn : cs.size = n)
    (hk : K (a.put o.dst (.agg cs))) : o.quiet P a (fun w' => ∃ x, w' = exw W x) K := by
  obtain ⟨⟨d, hu, hd⟩, hi⟩ := hT
  refine ⟨_, fun w hw => ?_, hk⟩
  obtain ⟨y, rfl⟩ := hw
  have hrun : (loadVar T ⟨g, 0, none⟩).run P (exw W y) = .ok (.agg cs) (exw W y) := by
    cases d <;> first | (cases hd; done) | exact run_loadVar_row _ g T T cs (0, 0) _ (hg.out.below (exw_bel y)) hu rfl (by rw [hi, hn])
  unfold Oper.quietAt execOp
  simp only [ho, hx, Instr.loadAt, Instr.sureAddr, Sem.run_bind, Sem.run_pure, Result.andThen_ok, hrun]
  exact ⟨rfl, rfl⟩
/-- an array of bytes out of the midst of a block -/
theorem quiet_load_mid {P : Program} {a : Act} {o : Oper} {W : World} {K : Act → Prop} {T T0 : TypeId} {g off n : Nat} {l : List Int} (hT : AggT P T n) (x : Operand) (ho : o.op = .load T x) (hx : a.eval x = .pointer (some ⟨g, off, none⟩)) (hg : Hid (Blk W g (u8V l) T0)) (hn : off + n ≤ l.length)
    (hk : K (a.put o.dst (.agg (u8V ((l.drop off).take n))))) : o.quiet P a (fun w' => ∃ x, w' = exw W x) K := by
  obtain ⟨⟨d, hu, hd⟩, hi⟩ := hT
  refine ⟨_, fun w hw => ?_, hk⟩
  obtain ⟨y, rfl⟩ := hw
  have hb := hg.out.below (exw_bel y)
  have hlen : (((l.drop off).take n).map (Value.int .u8)).length = n := by simp; omega
  have hrun : (loadVar T ⟨g, off, none⟩).run P (exw W y) = .ok (.agg (((l.drop off).take n).map (Value.int .u8)).toArray) (exw W y) := by
    refine run_loadVar_mid _ g off T _ d (fun j v hv => ?_) hu (by cases d <;> first | rfl | cases hd) (by rw [hi, hlen])
    have hj : j < n := by
      rcases Nat.lt_or_ge j n with h | h
      · exact h
      · rw [List.getElem?_eq_none (by omega)] at hv; cases hv
    rw [show (exw W y).cell? ⟨g, off + j, none⟩ = _ from hb.cell (off + j), u8V_get _ _ (by omega)]
    rw [List.getElem?_map, List.getElem?_take_of_lt hj, List.getElem?_drop] at hv
    simp [show off + j < l.length by omega] at hv
    simp [show off + j < l.length by omega, ← hv]
  unfold Oper.quietAt execOp
  simp only [ho, hx, Instr.loadAt, Instr.sureAddr, Sem.run_bind, Sem.run_pure, Result.andThen_ok, hrun]
  exact ⟨rfl, rfl⟩
theorem sched_is (b : List Int) : IsSched b (sched b 64) := ⟨sched_len b 64, fun i hi => sched_at b i 64 hi⟩
theorem block_any (q : St) (b : List Int) (hl : b.length = 64) (hb : ∀ x ∈ b, 0 ≤ x ∧ x ≤ 255) (w : World) (hR : Roots w) :
    Calls Tryd.prog 57 #[.agg q.cells, .agg (u8V b)] w fun e w' => e = .returned (.agg (blockS q b).cells) ∧ Below w.heap.size w w' :=
  block_of q _ b _ hl hb (sched_is b) rfl w hR
theorem zeroT_b32 : ZeroT Tryd.prog 22 (u8V (zeros 32)) := by
  intro ev o w ho
  unfold execOp
  simp only [ho]
  simp [go_sem]
  exact congrArg (fun c => w.alloc (.cells c 22)) (by kernel_rfl)
theorem agg_b32 : AggT Tryd.prog 22 32 := ⟨⟨_, Tryd.underlying22, rfl⟩, by kernel_rfl⟩
theorem digest_at (q : St) (i : Nat) (hi : i < 8) : (digest q).getD (4 * i) 0 = q.list.getD i 0 / 16777216 % 256 ∧ (digest q).getD (4 * i + 1) 0 = q.list.getD i 0 / 65536 % 256 ∧ (digest q).getD (4 * i + 2) 0 = q.list.getD i 0 / 256 % 256 ∧ (digest q).getD (4 * i + 3) 0 = q.list.getD i 0 % 256 := by
  have one : ∀ x : Int, x / 1 = x := Int.ediv_one
  rcases (show i = 0 ∨ i = 1 ∨ i = 2 ∨ i = 3 ∨ i = 4 ∨ i = 5 ∨ i = 6 ∨ i = 7 by omega) with rfl | rfl | rfl | rfl | rfl | rfl | rfl | rfl
  all_goals
    refine ⟨rfl, rfl, rfl, ?_⟩
    conv => rhs; rw [← one (List.getD _ _ _)]
    rfl
theorem index_8 (q : St) (i : Nat) (hi : i < 8) (W : World) : (Instr.index 112 (.agg q.cells) (.int .i64 (i : Int))).run Tryd.prog W = .ok (.int .u32 (q.list.getD i 0)) W := by
  rcases (show i = 0 ∨ i = 1 ∨ i = 2 ∨ i = 3 ∨ i = 4 ∨ i = 5 ∨ i = 6 ∨ i = 7 by omega) with rfl | rfl | rfl | rfl | rfl | rfl | rfl | rfl <;> kernel_rfl
theorem array_64 (a : Option Addr) (c : Nat) (W : World) : (Instr.arrayAt 87 (.slice a 64 c)).run Tryd.prog W = .ok (.pointer a) W := by
  simp [Instr.arrayAt, run_underlying Tryd.underlying87]
end Go.Proofs.YtapednkmefbldaaDoor
