/- append of records; few. -/
import Derived.Test.YtalekcpdkfdmaaaDoorChainP
import Derived.Test.YtalekcpdkfdmaaaDoorEqB
namespace Go.Proofs.YtalekcpdkfdmaaaDoor
open Go.RowKit

def cellsL : List Rec → List Value
  | [] => []
  | r :: rs => r.cells.toList ++ cellsL rs
theorem rec_len (r : Rec) : r.cells.toList.length = 6 := rfl
theorem cellsL_len (rs : List Rec) : (cellsL rs).length = rs.length * 6 := by
  induction rs with
  | nil => rfl
  | cons r rs ih => rw [cellsL, List.length_append, ih, rec_len, List.length_cons]; omega
theorem cellsL_append (xs ys : List Rec) : cellsL (xs ++ ys) = cellsL xs ++ cellsL ys := by
  induction xs with
  | nil => rfl
  | cons r rs ih => rw [List.cons_append, cellsL, ih, cellsL, List.append_assoc]
theorem cellsL_get : ∀ (rs : List Rec) (i : Nat) (hi : i < rs.length) (k : Nat), k < 6 → (cellsL rs)[i * 6 + k]? = rs[i].cells[k]?
  | r :: rs, 0, _, k, hk => by
    rw [cellsL, Nat.zero_mul, Nat.zero_add, List.getElem?_append_left (by rw [rec_len]; exact hk), Array.getElem?_toList]
    rfl
  | r :: rs, i + 1, hi, k, hk => by
    rw [cellsL, List.getElem?_append_right (by rw [rec_len]; omega), rec_len, show (i + 1) * 6 + k - 6 = i * 6 + k by omega, cellsL_get rs i (by simpa using hi) k hk]
    rfl
theorem cellsL_one (rs : List Rec) : ∀ u ∈ cellsL rs, u.oneCell' = true := by
  induction rs with
  | nil => intro u hu; cases hu
  | cons r rs ih =>
    intro u hu
    rcases List.mem_append.1 hu with h | h
    · simp only [Rec.cells, List.mem_cons, List.not_mem_nil, or_false] at h
      rcases h with rfl | rfl | rfl | rfl | rfl | rfl <;> rfl
    · exact ih u h
theorem recs_news {w : World} {b off : Nat} {rs : List Rec} (h : ∀ i (hi : i < rs.length) j, j < 6 → w.cell? ⟨b, off + i * 6 + j, none⟩ = rs[i].cells[j]?) : ∀ j u, (cellsL rs)[j]? = some u → w.cell? ((⟨b, off, none⟩ : Addr).add j) = some u := by
  intro j u hu
  have hj : j < rs.length * 6 := by
    rw [← cellsL_len]
    exact (List.getElem?_eq_some_iff.1 hu).1
  have hi : j / 6 < rs.length := by omega
  have e : j = j / 6 * 6 + j % 6 := by omega
  rw [e, cellsL_get rs (j / 6) hi (j % 6) (by omega)] at hu
  rw [add_one', ← hu, ← h (j / 6) hi (j % 6) (by omega)]
  congr 2
  omega
theorem own_recs {w : World} {base : Nat} {A : Option Addr} {n cap : Nat} {rs : List Rec} (h : w.ownsRow base 48 6 (.slice A n cap) n (cellsL rs)) (hn : rs.length = n) : RecRow w A rs := by
  have h0 := h
  rcases h.2 with ⟨hv, h1⟩ | ⟨g, cap', cur, hv, hg, hh, hl, hm, hs, ht⟩
  · exact .inl (List.eq_nil_of_length_eq_zero (by omega))
  · injection hv with h1 h2 h3
    subst h1
    refine .inr ⟨g, 0, rfl, fun i hi j hj => ?_⟩
    have h4 := cellsL_get rs i hi j hj
    have h5 : (rs[i].cells[j]?) = some (rs[i].cells[j]'(by simp [Rec.cells]; omega)) := Array.getElem?_eq_getElem _
    have h6 := h0.cells (g := g) rfl (i * 6 + j) _ (h4.trans h5)
    rw [add_one'] at h6
    rw [h5, ← h6, Nat.zero_add, Nat.zero_add]
theorem info_rec : (Tryd.prog.info? 48).map (fun i => (i.zero, i.size, i.bytes)) = some (some (.agg (i64V (zeros 6))), 6, 48) := by kernel_rfl
set_option maxRecDepth 100000 in
theorem run_append_recs (w : World) (b0 base : Nat) (A : Addr) (cap n : Nat) (xs : List Rec) (hn : xs.length = n) (hown : w.ownsRow base 48 6 (.slice (some A) n cap) n (cellsL xs)) (B : Option Addr) (m c : Nat) (ys : List Rec) (hm : ys.length = m) (hr : RecRow w B ys)
    (hsmall : n + m ≤ 1000000) (hbase : base ≤ w.heap.size) (hb0 : b0 ≤ base) (ty : TypeId) :
    ∃ A' cap' w', (Builtin.append_ #[41, 41] ty #[.slice (some A) n cap, .slice B m c]).run Tryd.prog w = .ok (.slice (some A') (n + m) cap') w' ∧
      w'.ownsRow base 48 6 (.slice (some A') (n + m) cap') (n + m) (cellsL (xs ++ ys)) ∧ GrowR b0 48 (n * 6) (cellsL ys) w w' ∧ (cap < n + m → Below w.heap.size w w') := by
  obtain ⟨i0, hi, hz0, hz1, hz2⟩ := info_parts info_rec
  rcases B with _ | ad
  · have hy : ys = [] := by
      rcases hr with h | ⟨b, off, h, _⟩
      · exact h
      · cases h
    subst hy
    subst hm
    refine ⟨A, cap, w, ?_, by simpa using hown, growR_kept.1 w, fun _ => Below.refl _ _⟩
    rcases hown.2 with ⟨hv, h1⟩ | ⟨g, cap', cur, hv, _, _, hnc, _⟩
    · injection hv with h1 h2 h3; cases h1
    · injection hv with h1 h2 h3
      subst h3
      simp [Builtin.append_, run_underlying Tryd.underlying41, sizeOf, typeInfo, hi, Builtin.lenOf, Builtin.firstCells, hnc, storeCells]
  · have hnews : ∀ (j : Nat) u, (cellsL ys)[j]? = some u → w.cell? (ad.add j) = some u := by
      rcases hr with h | ⟨b, off, h, hc⟩
      · subst h; intro j u hu; cases hu
      · injection h with h
        subst h
        exact recs_news hc
    obtain ⟨A', cap', w', hrun, h2, h3, h4, h5⟩ := run_append_growR (P := Tryd.prog) w b0 base 41 ty 48 i0 _ 6 48 Tryd.underlying41 hi hz0 hz1 hz2 rfl (some A) cap n _ hown ad m c (cellsL ys) (by rw [cellsL_len, hm]) hnews (cellsL_one ys) (fun h => by cases h) (by unfold maxLen; omega) (by omega) hbase hb0
    cases A' with
    | none => exact absurd rfl h4
    | some A' => exact ⟨A', cap', w', hrun, by rw [cellsL_append]; exact h2, h3, h5⟩
set_option maxRecDepth 100000 in
set_option maxHeartbeats 400000 in
theorem few23 (A : Option Addr) (n c : Nat) (w : World) (h1 : n ≤ c) (h2 : c ≤ 9223372036854775807) :
    Calls Tryd.prog 31 #[.slice A n c] w fun e w' => e = .returned (.slice A (min n 20) c) ∧ w = w' := by
  by_cases h : n ≤ 20
  · have e : min n 20 = n := Nat.min_eq_left h
    have ei : min (n : Int) 20 = (n : Int) := by omega
    rw [e]
    clear e
    go_enter Tryd.func31, Tryd.ntmps31
    go_wp2_with fail
    go_ret
    exact ⟨rfl, rfl⟩
  · have e : min n 20 = 20 := Nat.min_eq_right (by omega)
    have ei : min (n : Int) 20 = 20 := by omega
    have hk : 20 ≤ c := by omega
    rw [e]
    clear e
    go_enter Tryd.func31, Tryd.ntmps31
    go_wp2_with fail
    go_ret
    exact ⟨rfl, rfl⟩
theorem recRow_take {w : World} {A : Option Addr} {rs : List Rec} (h : RecRow w A rs) (k : Nat) : RecRow w A (rs.take k) := by
  rcases h with h | ⟨b, off, e, hc⟩
  · subst h; exact .inl (by simp)
  · refine .inr ⟨b, off, e, fun i hi j hj => ?_⟩
    have hi2 : i < rs.length := by simp at hi; omega
    rw [hc i hi2 j hj]
    simp
theorem few_recs {w : World} {v : Value} (hq : IsRecs w v) : ∃ (A : Option Addr) (rs : List Rec) (n c : Nat), rs.length = n ∧ n ≤ 20 ∧ n ≤ c ∧ c ≤ 9223372036854775807 ∧ RecRow w A rs ∧ (A = none → c = 0) ∧ ∀ W, Calls Tryd.prog 31 #[v] W fun e w' => e = .returned (.slice A n c) ∧ W = w' := by
  obtain ⟨A, n, cp, rs, rfl, h1, h2, h3, h4, h5⟩ := hq
  refine ⟨A, rs.take 20, min n 20, cp, by rw [List.length_take, h3, Nat.min_comm], Nat.min_le_right _ _, Nat.le_trans (Nat.min_le_left _ _) h1, h2, recRow_take h4 20, h5, fun W => few23 A n cp W h1 h2⟩
theorem neq_b32_self (x : List Int) (hx : x.length = 32) (W : World) : (binOp .neq 28 (.agg (u8V x)) (.agg (u8V x))).run Tryd.prog W = .ok (.bool false) W := by
  obtain ⟨i0, hi⟩ := info_u8e
  have h := run_eq_u8 Tryd.underlying28 Tryd.underlying5 (by kernel_rfl) hi 9998 x x hx hx W
  rw [decide_eq_true rfl] at h
  simp [go_sem, h]
theorem headOf_append (h : List Int) (a b : List Rec) : headOf (headOf h a) b = headOf h (a ++ b) := by simp [headOf]
end Go.Proofs.YtalekcpdkfdmaaaDoor
