/- Rows of records that came in; append of records. -/
import Derived.Test.YtalekcpdkfdmaaaDoorChainO
import Derived.Test.YtalekcpdkfdmaaaDoorGrow
import Derived.Test.YtalekcpdkfdmaaaDoorStep
import Derived.Deep.Slices
import Derived.ChangeSame
namespace Go.Proofs.YtalekcpdkfdmaaaDoor
open Go.RowKit Go.ChangeShapes Go.WideShapes Go.Deep

theorem add_one' (b o i : Nat) : (⟨b, o, none⟩ : Addr).add i = ⟨b, o + i, none⟩ := by unfold Addr.add; split <;> simp_all
theorem add_two (b o i j : Nat) : ((⟨b, o, none⟩ : Addr).add i).add j = ⟨b, o + i + j, none⟩ := by rw [add_one', add_one']
/-- a slice of records that came in -/
def IsRecs (w : World) (v : Value) : Prop := ∃ (A : Option Addr) (n cp : Nat) (rs : List Rec), v = .slice A n cp ∧ n ≤ cp ∧ cp ≤ 9223372036854775807 ∧ rs.length = n ∧ RecRow w A rs ∧ (A = none → cp = 0)
set_option maxRecDepth 100000 in
theorem rec_cells {H : Type} {enc : TypeId × Value → H} {w : World} {n : Nat} {cs : List Value} {x : DataW H × List MemPlace} (h : DataW.trod enc Tryd.prog w 0 (fun _ => true) true n 48 cs = some x) : ∃ r : Rec, cs = r.cells.toList := by
  obtain ⟨xs, m, -, -, hl, hxl, hf⟩ := DataW.trod_struct Tryd.underlying48 h
  rw [show Tryd.prog.cellsOf 48 = 6 by kernel_rfl] at hl
  match cs, hl with
  | [c0, c1, c2, c3, c4, c5], _ =>
    have x0 : ∃ y, xs[0]? = some y := ⟨_, List.getElem?_eq_getElem (by rw [hxl]; decide)⟩
    obtain ⟨y0, hy0⟩ : ∃ y, xs[0]? = some y := ⟨_, List.getElem?_eq_getElem (by rw [hxl]; decide)⟩
    have g0 : DataW.trod enc Tryd.prog w 0 (fun _ => true) true m 3 (([c0, c1, c2, c3, c4, c5].drop 0).take (Tryd.prog.cellsOf 3)) = xs[0]? := hf 0 _ rfl
    rw [hy0] at g0
    rw [show Tryd.prog.cellsOf 3 = 1 by kernel_rfl] at g0
    simp only [List.drop_succ_cons, List.drop_zero, List.take_succ_cons, List.take_zero] at g0
    obtain ⟨b0, e0, -⟩ := DataW.trod_int Tryd.underlying3 g0
    simp only [List.cons.injEq, and_true] at e0
    obtain ⟨y1, hy1⟩ : ∃ y, xs[1]? = some y := ⟨_, List.getElem?_eq_getElem (by rw [hxl]; decide)⟩
    have g1 : DataW.trod enc Tryd.prog w 0 (fun _ => true) true m 3 (([c0, c1, c2, c3, c4, c5].drop 1).take (Tryd.prog.cellsOf 3)) = xs[1]? := hf 1 _ rfl
    rw [hy1] at g1
    rw [show Tryd.prog.cellsOf 3 = 1 by kernel_rfl] at g1
    simp only [List.drop_succ_cons, List.drop_zero, List.take_succ_cons, List.take_zero] at g1
    obtain ⟨b1, e1, -⟩ := DataW.trod_int Tryd.underlying3 g1
    simp only [List.cons.injEq, and_true] at e1
    obtain ⟨y2, hy2⟩ : ∃ y, xs[2]? = some y := ⟨_, List.getElem?_eq_getElem (by rw [hxl]; decide)⟩
    have g2 : DataW.trod enc Tryd.prog w 0 (fun _ => true) true m 3 (([c0, c1, c2, c3, c4, c5].drop 2).take (Tryd.prog.cellsOf 3)) = xs[2]? := hf 2 _ rfl
    rw [hy2] at g2
    rw [show Tryd.prog.cellsOf 3 = 1 by kernel_rfl] at g2
    simp only [List.drop_succ_cons, List.drop_zero, List.take_succ_cons, List.take_zero] at g2
    obtain ⟨b2, e2, -⟩ := DataW.trod_int Tryd.underlying3 g2
    simp only [List.cons.injEq, and_true] at e2
    obtain ⟨y3, hy3⟩ : ∃ y, xs[3]? = some y := ⟨_, List.getElem?_eq_getElem (by rw [hxl]; decide)⟩
    have g3 : DataW.trod enc Tryd.prog w 0 (fun _ => true) true m 3 (([c0, c1, c2, c3, c4, c5].drop 3).take (Tryd.prog.cellsOf 3)) = xs[3]? := hf 3 _ rfl
    rw [hy3] at g3
    rw [show Tryd.prog.cellsOf 3 = 1 by kernel_rfl] at g3
    simp only [List.drop_succ_cons, List.drop_zero, List.take_succ_cons, List.take_zero] at g3
    obtain ⟨b3, e3, -⟩ := DataW.trod_int Tryd.underlying3 g3
    simp only [List.cons.injEq, and_true] at e3
    obtain ⟨y4, hy4⟩ : ∃ y, xs[4]? = some y := ⟨_, List.getElem?_eq_getElem (by rw [hxl]; decide)⟩
    have g4 : DataW.trod enc Tryd.prog w 0 (fun _ => true) true m 46 (([c0, c1, c2, c3, c4, c5].drop 4).take (Tryd.prog.cellsOf 46)) = xs[4]? := hf 4 _ rfl
    rw [hy4] at g4
    rw [show Tryd.prog.cellsOf 46 = 1 by kernel_rfl] at g4
    simp only [List.drop_succ_cons, List.drop_zero, List.take_succ_cons, List.take_zero] at g4
    obtain ⟨b4, e4, -⟩ := DataW.trod_int Tryd.underlying46 g4
    simp only [List.cons.injEq, and_true] at e4
    obtain ⟨y5, hy5⟩ : ∃ y, xs[5]? = some y := ⟨_, List.getElem?_eq_getElem (by rw [hxl]; decide)⟩
    have g5 : DataW.trod enc Tryd.prog w 0 (fun _ => true) true m 3 (([c0, c1, c2, c3, c4, c5].drop 5).take (Tryd.prog.cellsOf 3)) = xs[5]? := hf 5 _ rfl
    rw [hy5] at g5
    rw [show Tryd.prog.cellsOf 3 = 1 by kernel_rfl] at g5
    simp only [List.drop_succ_cons, List.drop_zero, List.take_succ_cons, List.take_zero] at g5
    obtain ⟨b5, e5, -⟩ := DataW.trod_int Tryd.underlying3 g5
    simp only [List.cons.injEq, and_true] at e5
    exact ⟨⟨b0, b1, b2, b3, b4, b5⟩, by rw [e0, e1, e2, e3, e4, e5]; rfl⟩
set_option maxRecDepth 100000 in
theorem mk_sl_api_Record {H : Type} {enc : TypeId × Value → H} {w : World} {r : Reach} {base : Nat} {v : Value} {d : DataW H} {p : List MemPlace}
    (h : Value.okWide Tryd.prog w r base 41 v) (hd : DataW.Trod enc Tryd.prog w 0 (fun _ => true) true 41 v d p) : IsRecs w v := by
  obtain ⟨a, len, cap, rfl⟩ := okWide_slice Tryd.underlying41 h
  obtain ⟨fuel, hf⟩ := hd
  rcases open_slice Tryd.underlying41 hf with ⟨hcs, -⟩ | ⟨x, l, c, m, n, D, Pl, hcs, -, hl, hm, hmm, -, hi⟩
  · simp [Value.cells] at hcs
    obtain ⟨rfl, rfl, rfl⟩ := hcs
    exact ⟨none, 0, 0, [], rfl, by omega, by omega, rfl, .inl rfl, fun _ => rfl⟩
  · simp [Value.cells] at hcs
    obtain ⟨rfl, rfl, rfl⟩ := hcs
    simp only [if_true] at hmm
    subst hmm
    rw [show Tryd.prog.cellsOf 48 = 6 by kernel_rfl] at hi
    have hc : ∀ i, i < len → ∃ r : Rec, ∀ j, j < 6 → w.cell? ((x.add (i * 6)).add j) = r.cells[j]? := by
      intro i hil
      obtain ⟨cs', h1, h2⟩ := hi i (by omega)
      obtain ⟨r, hr⟩ := rec_cells h2
      obtain ⟨-, -, h3⟩ := World.cells?_some h1
      exact ⟨r, fun j hj => by rw [h3 j hj, hr, Array.getElem?_toList]⟩
    have hex : ∃ f : Nat → Rec, ∀ i, i < len → ∀ j, j < 6 → w.cell? ((x.add (i * 6)).add j) = (f i).cells[j]? := by
      refine ⟨fun i => if h : i < len then Classical.choose (hc i h) else ⟨0, 0, 0, 0, 0, 0⟩, fun i hil => ?_⟩
      simp only [hil, dif_pos]
      exact Classical.choose_spec (hc i hil)
    obtain ⟨f, hfc⟩ := hex
    refine ⟨some x, len, m, (List.range len).map f, rfl, hl, by unfold maxLen at hm; omega, by simp, ?_, fun h => by cases h⟩
    by_cases h0 : len = 0
    · subst h0; exact .inl rfl
    · have hlt := DataW.trod_lt fuel _ _ _ hf
      have c0 := hfc 0 (by omega) 0 (by omega)
      have hx : x = ⟨x.block, x.off, none⟩ := by
        cases hs : x.spot with
        | none => cases x; simp_all
        | some y =>
          exfalso
          have e1 : (x.add (0 * 6)).add 0 = x := by simp [Addr.add]
          rw [e1] at c0
          have := World.cell?_spot (c0.trans (show (f 0).cells[0]? = some _ from rfl))
          rw [hs] at this
          cases this
      refine .inr ⟨x.block, x.off, by rw [← hx], fun i hi j hj => ?_⟩
      have hi2 : i < len := by simpa using hi
      have h1 := hfc i hi2 j hj
      rw [hx] at h1
      rw [add_two] at h1
      rw [h1]
      simp
end Go.Proofs.YtalekcpdkfdmaaaDoor
