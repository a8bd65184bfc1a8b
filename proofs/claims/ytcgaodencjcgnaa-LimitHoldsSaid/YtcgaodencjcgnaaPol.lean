/- A policy by value: 56 cells. -/
import Derived.Test.YtcgaodencjcgnaaRow
import Derived.Test.YtcgaodencjcgnaaProg
namespace Go.Proofs.Ytcgaodencjcgnaa
open Go.RowKit Go.WideShapes Go.ChangeShapes

/-! ### a row of n cells told by a function -/
def mkc (n : Nat) (f : Nat → Value) : Array Value := ((List.range n).map f).toArray
def upd (f : Nat → Value) (j : Nat) (v : Value) : Nat → Value := fun x => if x = j then v else f x
@[simp] theorem mkc_size (n : Nat) (f : Nat → Value) : (mkc n f).size = n := by simp [mkc]
theorem mkc_get? (n : Nat) (f : Nat → Value) (i : Nat) : (mkc n f)[i]? = if i < n then some (f i) else none := by
  unfold mkc
  by_cases h : i < n
  · simp [h]
  · simp [h]
theorem mkc_get (n : Nat) (f : Nat → Value) (i : Nat) (h : i < (mkc n f).size) : (mkc n f)[i] = f i := by simp [mkc]
theorem mkc_set (n : Nat) (f : Nat → Value) (j : Nat) (v : Value) : (mkc n f).setIfInBounds j v = mkc n (upd f j v) := by
  apply Array.ext
  · simp [mkc]
  · intro i h1 h2
    have hi : i < n := by simpa [mkc] using h2
    rw [Array.getElem_setIfInBounds (by simpa [mkc] using hi), mkc_get, mkc_get]
    unfold upd
    by_cases e : j = i
    · subst e; simp
    · rw [if_neg e, if_neg (fun h => e h.symm)]
theorem mkc_of (cs : Array Value) (n : Nat) (h : cs.size = n) : cs = mkc n (fun i => cs.getD i undef) := by
  apply Array.ext
  · simp [mkc, h]
  · intro i h1 h2
    rw [mkc_get]; simp [h1]
theorem upd_same (f : Nat → Value) (j : Nat) (v : Value) : upd f j v j = v := by simp [upd]
theorem upd_other (f : Nat → Value) (j : Nat) (v : Value) (x : Nat) (h : x ≠ j) : upd f j v x = f x := by simp [upd, h]
attribute [go_sem] mkc_get? mkc_get mkc_size

def I64 (v : Value) : Prop := v = .int .i64 (intOf v) ∧ -9223372036854775808 ≤ intOf v ∧ intOf v ≤ 9223372036854775807
structure PolOk (w : World) (f : Nat → Value) : Prop where
  int : ∀ i, i < 56 → i < 5 ∨ 8 < i → I64 (f i)
  key : ∀ i, 5 ≤ i → i ≤ 8 → IsBytes w (f i)
def IsPol (w : World) (v : Value) : Prop := ∃ f, v = .agg (mkc 56 f) ∧ PolOk w f

def polTypes : List TypeId := List.replicate 5 3 ++ List.replicate 4 27 ++ List.replicate 47 3
theorem mk_pol {w : World} {r : Reach} {base : Nat} {H : Type} {enc : TypeId × Value → H} {v : Value} {d : DataW H} {p : List MemPlace}
    (hv : Value.okWide Try.prog w r base 32 v) (hd : DataW.Trod enc Try.prog w 0 (fun _ => true) true 32 v d p) : IsPol w v := by
  obtain ⟨cs, rfl, hs, hc⟩ := flat (ts := polTypes) (.inl ⟨_, Try.underlying32⟩) (by kernel_rfl) (by kernel_rfl) hv
  have hs : cs.size = 56 := hs
  have hget : ∀ i, i < 56 → cs[i]? = some (cs.getD i undef) := fun i hi => by simp [show i < cs.size by omega]
  refine ⟨fun i => cs.getD i undef, by rw [← mkc_of cs 56 hs], ⟨fun i hi h => ?_, fun i h1 h2 => ?_⟩⟩
  · have ht : polTypes[i]? = some 3 := by
      have : ∀ i : Fin 56, (i.1 < 5 ∨ 8 < i.1) → polTypes[i.1]? = some 3 := by decide
      exact this ⟨i, hi⟩ h
    obtain ⟨n, hn, b1, b2⟩ := opn_i64 Try.underlying3 (hc i _ _ ht (hget i hi))
    unfold I64
    rw [hn]
    exact ⟨rfl, b1, b2⟩
  · obtain ⟨fuel, hf⟩ := hd
    obtain ⟨xs, n, _, _, _, hl, hg⟩ := DataW.trod_struct Try.underlying32 hf
    have hcl : (Value.agg cs).cells.toList = cs.toList := rfl
    rw [hcl] at hg
    have c3 : Try.prog.cellsOf 28 = 3 := by kernel_rfl
    have c1 : Try.prog.cellsOf 27 = 1 := by kernel_rfl
    have one : ∀ j, j < 56 → (cs.toList.drop j).take 1 = [cs.getD j undef] := by
      intro j hj
      rw [List.drop_eq_getElem_cons (by simp; omega)]
      simp [show j < cs.size by omega]
    rcases Nat.lt_or_ge i 8 with h8 | h8
    · have h : DataW.trod enc Try.prog w 0 (fun _ => true) true n 28 ((cs.toList.drop 5).take (Try.prog.cellsOf 28)) = xs[1]? := hg 1 _ rfl
      rw [c3] at h
      have hx : 1 < xs.length := by rw [hl]; show 1 < 20; omega
      rw [List.getElem?_eq_getElem hx] at h
      obtain ⟨ys, m, _, _, _, _, hj⟩ := DataW.trod_array Try.underlying28 h
      have := hj (i - 5) (by omega)
      rw [c1] at this
      have e : ((List.take 3 (List.drop 5 cs.toList)).drop ((i - 5) * 1)).take 1 = [cs.getD i undef] := by
        rw [Nat.mul_one, List.drop_take, List.drop_drop, List.take_take, show 5 + (i - 5) = i from by omega, show min 1 (3 - (i - 5)) = 1 from by omega]
        exact one i (by omega)
      rw [e] at this
      have hy : i - 5 < ys.length := by omega
      rw [List.getElem?_eq_getElem hy] at this
      exact bytes_of_trod Try.underlying27 Try.underlying5 (by kernel_rfl) this
    · obtain rfl : i = 8 := by omega
      have h : DataW.trod enc Try.prog w 0 (fun _ => true) true n 27 ((cs.toList.drop 8).take (Try.prog.cellsOf 27)) = xs[2]? := hg 2 _ rfl
      rw [c1] at h
      have hx : 2 < xs.length := by rw [hl]; show 2 < 20; omega
      rw [List.getElem?_eq_getElem hx, one 8 (by omega)] at h
      exact bytes_of_trod Try.underlying27 Try.underlying5 (by kernel_rfl) h
end Go.Proofs.Ytcgaodencjcgnaa
