/- Openers: what a parameter's value looks like, from 'okWide' and 'Trod'. No condition on the program. -/
import Derived.WalkKit
import Derived.ProofKit
import Derived.OpenShut
import Derived.ChangeOld
import Derived.Below
namespace Go.Proofs.YtapednkmefbldaaDoor
open Go.RowKit Go.WideShapes Go.ChangeShapes

section
variable {P : Program} {w : World} {r : Reach} {base : Nat} {t : TypeId} {v : Value}

theorem cell_int {k : IntKind} (ht : P.underlying t = some (.int k)) (h : Cell.okWide P w r base t v) : ∃ n, v = .int k n ∧ k.min ≤ n ∧ n ≤ k.max := by
  simp only [Cell.okWide, ht, Cell.ok, IntKind.has] at h
  cases v <;> simp_all
theorem cell_bool (ht : P.underlying t = some .bool) (h : Cell.okWide P w r base t v) : ∃ b, v = .bool b := by
  simp only [Cell.okWide, ht, Cell.ok] at h
  cases v <;> simp_all
theorem cell_slice {e : TypeId} (ht : P.underlying t = some (.slice e)) (h : Cell.okWide P w r base t v) : ∃ a len cap, v = .slice a len cap := by
  simp only [Cell.okWide, ht] at h
  cases v <;> simp_all [Cell.ok]
theorem val_cell_int {k : IntKind} (ht : P.underlying t = some (.int k)) (h : Value.okWide P w r base t v) : Cell.okWide P w r base t v := by
  simpa only [Value.okWide, ht] using h
theorem val_cell_bool (ht : P.underlying t = some .bool) (h : Value.okWide P w r base t v) : Cell.okWide P w r base t v := by
  simpa only [Value.okWide, ht] using h
theorem val_cell_slice {e : TypeId} (ht : P.underlying t = some (.slice e)) (h : Value.okWide P w r base t v) : Cell.okWide P w r base t v := by
  simpa only [Value.okWide, ht] using h

theorem opn_i64 (ht : P.underlying t = some (.int .i64)) (h : Cell.okWide P w r base t v) : ∃ n : Int, v = .int .i64 n ∧ -9223372036854775808 ≤ n ∧ n ≤ 9223372036854775807 := by
  obtain ⟨n, rfl, h1, h2⟩ := cell_int ht h
  exact ⟨n, rfl, by simpa [IntKind.min, IntKind.signed, IntKind.bits] using h1, by simp [IntKind.max, IntKind.signed, IntKind.bits] at h2; omega⟩
theorem opn_u64 (ht : P.underlying t = some (.int .u64)) (h : Cell.okWide P w r base t v) : ∃ n : Int, v = .int .u64 n ∧ 0 ≤ n ∧ n ≤ 18446744073709551615 := by
  obtain ⟨n, rfl, h1, h2⟩ := cell_int ht h
  exact ⟨n, rfl, by simpa [IntKind.min, IntKind.signed, IntKind.bits] using h1, by simp [IntKind.max, IntKind.signed, IntKind.bits] at h2; omega⟩
theorem opn_u32 (ht : P.underlying t = some (.int .u32)) (h : Cell.okWide P w r base t v) : ∃ n : Int, v = .int .u32 n ∧ 0 ≤ n ∧ n ≤ 4294967295 := by
  obtain ⟨n, rfl, h1, h2⟩ := cell_int ht h
  exact ⟨n, rfl, by simpa [IntKind.min, IntKind.signed, IntKind.bits] using h1, by simp [IntKind.max, IntKind.signed, IntKind.bits] at h2; omega⟩
theorem opn_u16 (ht : P.underlying t = some (.int .u16)) (h : Cell.okWide P w r base t v) : ∃ n : Int, v = .int .u16 n ∧ 0 ≤ n ∧ n ≤ 65535 := by
  obtain ⟨n, rfl, h1, h2⟩ := cell_int ht h
  exact ⟨n, rfl, by simpa [IntKind.min, IntKind.signed, IntKind.bits] using h1, by simp [IntKind.max, IntKind.signed, IntKind.bits] at h2; omega⟩
theorem opn_u8 (ht : P.underlying t = some (.int .u8)) (h : Cell.okWide P w r base t v) : ∃ n : Int, v = .int .u8 n ∧ 0 ≤ n ∧ n ≤ 255 := by
  obtain ⟨n, rfl, h1, h2⟩ := cell_int ht h
  exact ⟨n, rfl, by simpa [IntKind.min, IntKind.signed, IntKind.bits] using h1, by simp [IntKind.max, IntKind.signed, IntKind.bits] at h2; omega⟩

/-- A struct or an array by value: its cells lie flat; each is well formed at its own type. -/
theorem flat {ts : List TypeId} (ha : (∃ fs, P.underlying t = some (.struct fs)) ∨ ∃ n e, P.underlying t = some (.array n e)) (hts : P.cellTypes P.depth t = some ts) (hn : P.cellsOf t = ts.length)
    (h : Value.okWide P w r base t v) : ∃ cs : Array Value, v = .agg cs ∧ cs.size = ts.length ∧ ∀ (i : Nat) u c, ts[i]? = some u → cs[i]? = some c → Cell.okWide P w r base u c := by
  have h' : ∃ cs, v = .agg cs ∧ cs.size = P.cellsOf t ∧ Row.okWide P w r base t cs := by
    rcases ha with ⟨fs, ha⟩ | ⟨n, e, ha⟩ <;> simpa only [Value.okWide, ha] using h
  obtain ⟨cs, rfl, hs, ts', hts', _, hc⟩ := h'
  rw [hts] at hts'
  obtain rfl : ts = ts' := by simpa using hts'
  refine ⟨cs, rfl, by omega, fun i u c hu hcs => ?_⟩
  obtain ⟨u', hu', hok⟩ := hc i c hcs
  have hi : i < ts.length := by
    rcases Nat.lt_or_ge i ts.length with h | h
    · exact h
    · rw [List.getElem?_eq_none h] at hu; cases hu
  rw [Nat.mod_eq_of_lt hi, hu] at hu'
  obtain rfl : u = u' := by simpa using hu'
  exact hok

theorem mk_i64 (ht : P.underlying t = some (.int .i64)) (h : Value.okWide P w r base t v) : ∃ n : Int, v = .int .i64 n ∧ -9223372036854775808 ≤ n ∧ n ≤ 9223372036854775807 := opn_i64 ht (val_cell_int ht h)
theorem mk_u64 (ht : P.underlying t = some (.int .u64)) (h : Value.okWide P w r base t v) : ∃ n : Int, v = .int .u64 n ∧ 0 ≤ n ∧ n ≤ 18446744073709551615 := opn_u64 ht (val_cell_int ht h)
theorem mk_u32 (ht : P.underlying t = some (.int .u32)) (h : Value.okWide P w r base t v) : ∃ n : Int, v = .int .u32 n ∧ 0 ≤ n ∧ n ≤ 4294967295 := opn_u32 ht (val_cell_int ht h)
theorem mk_u8 (ht : P.underlying t = some (.int .u8)) (h : Value.okWide P w r base t v) : ∃ n : Int, v = .int .u8 n ∧ 0 ≤ n ∧ n ≤ 255 := opn_u8 ht (val_cell_int ht h)
theorem mk_bool (ht : P.underlying t = some .bool) (h : Value.okWide P w r base t v) : ∃ b, v = .bool b := cell_bool ht (val_cell_bool ht h)
theorem mk_flat (t : TypeId) (h : Value.okWide P w r base t v) : ∃ b0, Value.okWide P w r b0 t v := ⟨_, h⟩

/-- A slice of integers that came in: nil, or a row of 'cap' cells that hold the numbers 'zs' (the first 'len' are its elements). -/
def IsRow (k : IntKind) (w : World) (v : Value) : Prop :=
  v = .slice none 0 0 ∨
  ∃ (x : Addr) (len cap : Nat) (zs : List Int), v = .slice (some x) len cap ∧ (0 < cap → x.block < w.heap.size ∧ x.spot = none) ∧ len ≤ cap ∧ cap ≤ 9223372036854775807 ∧ zs.length = cap ∧ (∀ i, i < zs.length → w.cell? (x.add i) = some (.int k (zs.getD i 0))) ∧ ∀ n ∈ zs, (Lit.int k n).wf = true
theorem mk_row {H : Type} {enc : TypeId × Value → H} {k : IntKind} {e : TypeId} {d : DataW H} {p : List MemPlace} (ht : P.underlying t = some (.slice e)) (he : P.underlying e = some (.int k)) (hc : P.cellsOf e = 1)
    (h : Value.okWide P w r base t v) (hd : DataW.Trod enc P w 0 (fun _ => true) true t v d p) : IsRow k w v := by
  obtain ⟨a, len, cap, rfl⟩ := okWide_slice ht h
  obtain ⟨fuel, hf⟩ := hd
  have hlt := DataW.trod_lt fuel _ _ _ hf
  rcases open_ints ht he hc hf with ⟨hcs, _⟩ | ⟨x, l, c, zs, hcs, _, hl, hm, hz, hx, hcell, hwz⟩
  · simp [Value.cells] at hcs
    obtain ⟨rfl, rfl, rfl⟩ := hcs
    exact .inl rfl
  · simp [Value.cells] at hcs
    obtain ⟨rfl, rfl, rfl⟩ := hcs
    have hzc : zs.length = cap := by simpa using hz
    refine .inr ⟨x, len, cap, zs, rfl, fun h0 => ?_, hl, by unfold maxLen at hm; omega, hzc, hcell, hwz⟩
    have h1 := hcell 0 (by omega)
    have e0 : x.add 0 = x := by simp [Addr.add]
    rw [e0] at h1
    refine ⟨?_, World.cell?_spot h1⟩
    rcases Nat.lt_or_ge x.block w.heap.size with h2 | h2
    · exact h2
    · rw [World.cell?, Array.getElem?_eq_none h2] at h1; simp at h1
end
end Go.Proofs.YtapednkmefbldaaDoor
