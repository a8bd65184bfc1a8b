/- msg.Put of any message. -/
import Derived.Test.YtakahkpogooepaaMsgR
namespace Go.Proofs.Ytakahkpogooepaa
open Go.RowKit

def z12 (k : Int) : List Int := [k, 0, 0, 0, 0, 0, 0, 0, 0, 0, 0, 0]
def outD (d : FD) (n : Int) : Option (List Int) := if n < d.lo then none else if d.hi < n then none else if d.lo < 0 then some (be (n % 65536) 2) else some (be n d.size.toNat)
def outsD : List FD → List Int → Option (List Int)
  | [], _ => some []
  | d :: ds, l => match outD d (l.getD d.off 0), outsD ds l with
    | some x, some y => some (x ++ y)
    | _, _ => none
def zeroed (ds : List FD) (l : List Int) : List Int := ds.foldl (fun l d => l.set d.off 0) l
/-- the bytes of a message, if it may be -/
def put8 (l : List Int) : Option (List Int) :=
  match fieldsOf (l.getD 0 0) with
  | none => none
  | some ds => match outsD ds l with
    | none => none
    | some ps => if zeroed ds l = z12 (l.getD 0 0) then some (l.getD 0 0 :: ps) else none
structure FD.good (d : FD) : Prop where
  ok : d.ok
  off1 : 1 ≤ d.off
  neg : d.lo < 0 → -32768 ≤ d.lo ∧ d.hi ≤ 32767
  pos : 0 ≤ d.lo → 1 ≤ d.size ∧ d.size ≤ 7 ∧ d.hi < 256 ^ d.size.toNat
theorem good_role : fRole.good := ⟨⟨by decide, by decide, by decide⟩, by decide, by decide, by decide⟩
theorem good_seq : fSeq.good := ⟨⟨by decide, by decide, by decide⟩, by decide, by decide, by decide⟩
theorem good_now : fNow.good := ⟨⟨by decide, by decide, by decide⟩, by decide, by decide, by decide⟩
theorem good_to : fTo.good := ⟨⟨by decide, by decide, by decide⟩, by decide, by decide, by decide⟩
theorem good_epoch : fEpoch.good := ⟨⟨by decide, by decide, by decide⟩, by decide, by decide, by decide⟩
theorem good_mode : fMode.good := ⟨⟨by decide, by decide, by decide⟩, by decide, by decide, by decide⟩
theorem good_class : fClass.good := ⟨⟨by decide, by decide, by decide⟩, by decide, by decide, by decide⟩
theorem good_axis (i : Nat) (h : i < 4) : (fAxis i).good := by
  have h4 : i = 0 ∨ i = 1 ∨ i = 2 ∨ i = 3 := by omega
  rcases h4 with rfl | rfl | rfl | rfl <;> exact ⟨⟨by decide, by decide, by decide⟩, by decide, by decide, by decide⟩
theorem fields_good {k : Int} {ds : List FD} (h : fieldsOf k = some ds) : 1 ≤ k ∧ k ≤ 11 ∧ ds.length ≤ 7 ∧ ∀ d ∈ ds, d.good := by
  have one : ∀ (P : Prop), (P → 1 ≤ k ∧ k ≤ 11 ∧ ds.length ≤ 7 ∧ ∀ d ∈ ds, d.good) → P → 1 ≤ k ∧ k ≤ 11 ∧ ds.length ≤ 7 ∧ ∀ d ∈ ds, d.good := fun _ f p => f p
  unfold fieldsOf at h
  repeat' split at h
  all_goals first
    | (cases h; done)
    | (injection h with h
       subst h
       refine ⟨by omega, by omega, by decide, fun d hd => ?_⟩
       simp only [List.mem_cons, List.not_mem_nil, or_false] at hd)
  · subst hd; exact good_role
  · subst hd; exact good_seq
  · rcases hd with rfl | rfl
    · exact good_seq
    · exact good_now
  · rcases hd with rfl | rfl
    · exact good_seq
    · exact good_to
  · rcases hd with rfl | rfl
    · exact good_seq
    · exact good_epoch
  · rcases hd with rfl | rfl | rfl
    · exact good_seq
    · exact good_epoch
    · exact good_mode
  · rcases hd with rfl | rfl | rfl | rfl | rfl | rfl | rfl
    · exact good_seq
    · exact good_epoch
    · exact good_class
    · exact good_axis 0 (by omega)
    · exact good_axis 1 (by omega)
    · exact good_axis 2 (by omega)
    · exact good_axis 3 (by omega)
/-- a field of a row, as its bytes go -/
def afOf (l : List Int) (p : FD × Nat) : AF := ⟨p.1.size, p.1.lo, p.1.hi, p.1.get, p.1.set, .pointer (some ⟨p.2, 0, none⟩), l.getD p.1.off 0⟩
theorem outs_of (l : List Int) (fs : List (FD × Nat)) : outsA (fs.map (afOf l)) = outsD (fs.map (·.1)) l := by
  induction fs with
  | nil => rfl
  | cons p ps ih =>
    simp only [List.map_cons, outsA, outsD]
    rw [ih]
    rfl
theorem acells_of {w : World} {base gl gm : Nat} {fs : List (FD × Nat)} (l : List Int) (h : FLs w base gl gm fs) : ACells w gl (fs.map (afOf l)) := by
  intro i hi j hj
  rw [List.getElem_map]
  exact h.cells i (by simpa using hi) j hj
theorem gets_of {w : World} {base gl gm : Nat} {fs : List (FD × Nat)} {l : List Int} (h : FLs w base gl gm fs) (hl : IsMsgL l) (hm : Blk w gm (msgV l) 24) (hd : ∀ p ∈ fs, p.1.good) : ∀ a ∈ fs.map (afOf l), a.ok ∧ Gets w a.G a.gp a.n := by
  intro a ha
  obtain ⟨p, hp, rfl⟩ := List.mem_map.1 ha
  have hg := hd p hp
  obtain ⟨i, hi, he⟩ := List.getElem_of_mem hp
  refine ⟨⟨hg.neg, hg.pos⟩, enters_get p.1, fun W hW => ?_⟩
  have hb := (h.2.2 i hi).2
  rw [he] at hb
  exact get_fld p.1 p.2 gm l W hg.ok hl (Blk.below hb hW) (hm.below hW)
theorem own_keep {w w' : World} {base gm cap : Nat} {A : Option Addr} {xs : List Int} (h : Own w base A cap xs) (hg : gm < base) (hk : ∀ k, k ≠ gm → w'.heap[k]? = w.heap[k]?) : Own w' base A cap xs := by
  obtain ⟨⟨h1, h2⟩, h3⟩ := h
  refine ⟨⟨h1, ?_⟩, h3⟩
  rcases h2 with h2 | ⟨g, cap', cur, e, hb, hh, r⟩
  · exact .inl h2
  · exact .inr ⟨g, cap', cur, e, hb, (hk g (by omega)).trans hh, r⟩
theorem zeroed_len (ds : List FD) (l : List Int) : (zeroed ds l).length = l.length := by
  induction ds generalizing l with
  | nil => rfl
  | cons d ds ih => show (zeroed ds (l.set d.off 0)).length = _; rw [ih]; simp
theorem zeroed_get (ds : List FD) (l : List Int) (o : Nat) (ho : ∀ d ∈ ds, d.off ≠ o) : (zeroed ds l).getD o 0 = l.getD o 0 := by
  induction ds generalizing l with
  | nil => rfl
  | cons d ds ih =>
    show (zeroed ds (l.set d.off 0)).getD o 0 = _
    rw [ih _ fun e he => ho e (List.mem_cons_of_mem _ he)]
    simp [List.getD_eq_getElem?_getD, List.getElem?_set_ne (ho d List.mem_cons_self)]
theorem zeroed_at (ds : List FD) (l : List Int) (o : Nat) : (zeroed ds l).getD o 0 = 0 ∨ (zeroed ds l).getD o 0 = l.getD o 0 := by
  induction ds generalizing l with
  | nil => exact .inr rfl
  | cons d ds ih =>
    show (zeroed ds (l.set d.off 0)).getD o 0 = 0 ∨ (zeroed ds (l.set d.off 0)).getD o 0 = _
    rcases ih (l.set d.off 0) with h | h
    · exact .inl h
    · by_cases e : d.off = o
      · left
        rw [h, List.getD_eq_getElem?_getD, e]
        by_cases hl : o < l.length
        · simp [hl]
        · rw [List.getElem?_eq_none (by simp; omega)]; rfl
      · right
        rw [h]
        simp [List.getD_eq_getElem?_getD, List.getElem?_set_ne e]
theorem zeroed_msg (ds : List FD) (l : List Int) (h : IsMsgL l) : IsMsgL (zeroed ds l) := by
  refine ⟨(zeroed_len ds l).trans h.1, ?_⟩
  rcases zeroed_at ds l 7 with h1 | h1
  · exact .inl h1
  · rw [h1]; exact h.2
theorem zeroed_snoc (ds : List FD) (d : FD) (l : List Int) : zeroed (ds ++ [d]) l = (zeroed ds l).set d.off 0 := by
  unfold zeroed; rw [List.foldl_append]; rfl
theorem built_msg (k : Int) : Try.prog.built 24 [(0, .int .i64 k)] = some (msgV (z12 k)) := by kernel_rfl
theorem built_zero : Try.prog.built 24 [] = some (msgV (z12 0)) := by kernel_rfl
set_option maxRecDepth 100000 in
theorem neq_msg (x y : List Int) (hx : IsMsgL x) (hy : IsMsgL y) (W : World) : (binOp .neq 24 (.agg (msgV x)) (.agg (msgV y))).run Try.prog W = .ok (.bool (!decide (x = y))) W := by
  obtain ⟨hx, hx7⟩ := hx
  obtain ⟨hy, hy7⟩ := hy
  match x, hx with
  | [a0, a1, a2, a3, a4, a5, a6, a7, a8, a9, a10, a11], _ =>
    match y, hy with
    | [b0, b1, b2, b3, b4, b5, b6, b7, b8, b9, b10, b11], _ =>
      have h := neq_lit a0 a1 a2 a3 a4 a5 a6 a8 a9 a10 a11 b0 b1 b2 b3 b4 b5 b6 b8 b9 b10 b11 (a7 == 1) (b7 == 1) W
      have e : ((a7 == 1) = (b7 == 1)) ↔ a7 = b7 := by
        have hx7' : a7 = 0 ∨ a7 = 1 := hx7
        have hy7' : b7 = 0 ∨ b7 = 1 := hy7
        rcases hx7' with rfl | rfl <;> rcases hy7' with rfl | rfl <;> decide
      refine h.trans ?_
      congr 3
      rw [decide_eq_decide, e]
      simp
end Go.Proofs.Ytakahkpogooepaa
