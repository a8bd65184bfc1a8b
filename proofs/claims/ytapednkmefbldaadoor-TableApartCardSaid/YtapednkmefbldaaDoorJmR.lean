/- Several texts in one. -/
import Derived.Test.YtapednkmefbldaaDoorJmF
import Derived.Test.YtapednkmefbldaaDoorEqI
import Derived.Test.YtapednkmefbldaaDoorMinMax
import Derived.Test.YtapednkmefbldaaDoorOpen

/- msg.Put. -/
namespace Go.Proofs.YtapednkmefbldaaDoor
open Go.RowKit

set_option maxRecDepth 100000 in
set_option maxHeartbeats 400000 in
theorem fields_none (gm : Nat) (l : List Int) (w : World) (k : Int) (hm : Blk w gm (msgV l) 66) (hk : l.getD 0 0 = k) (hn : fieldsOf k = none) :
    Calls Tryd.prog 61 #[.pointer (some ⟨gm, 0, none⟩)] w fun e w' => e = .returned (.tuple #[.slice none 0 0, .bool false]) ∧ w = w' := by
  have c0 := hm.cell 0
  rw [msgV_get _ _ (by omega), if_neg (by omega), hk] at c0
  have hne : k ≠ 1 ∧ k ≠ 2 ∧ k ≠ 3 ∧ k ≠ 4 ∧ k ≠ 5 ∧ k ≠ 6 ∧ k ≠ 7 ∧ k ≠ 8 ∧ k ≠ 9 ∧ k ≠ 10 ∧ k ≠ 11 := by
    unfold fieldsOf at hn
    repeat' split at hn
    all_goals first | (cases hn; done) | omega
  obtain ⟨n1, n2, n3, n4, n5, n6, n7, n8, n9, n10, n11⟩ := hne
  have q1 : (k == 1) = false := by simp [n1]
  have q2 : (k == 2) = false := by simp [n2]
  have q3 : (k == 3) = false := by simp [n3]
  have q4 : (k == 4) = false := by simp [n4]
  have q5 : (k == 5) = false := by simp [n5]
  have q6 : (k == 6) = false := by simp [n6]
  have q7 : (k == 7) = false := by simp [n7]
  have q8 : (k == 8) = false := by simp [n8]
  have q9 : (k == 9) = false := by simp [n9]
  have q10 : (k == 10) = false := by simp [n10]
  have q11 : (k == 11) = false := by simp [n11]
  clear hm hk hn
  go_enter Tryd.func61, Tryd.ntmps61
  go_wp2_with fail
  go_ret2
  exact ⟨rfl, rfl⟩
/-- what fields tells of any kind -/
def FieldsAny (w : World) (gm : Nat) (k : Int) (e : Ending) (w' : World) : Prop :=
  match fieldsOf k with
  | some ds => FieldsPost w gm ds e w'
  | none => e = .returned (.tuple #[.slice none 0 0, .bool false]) ∧ w = w'
theorem fields_any (gm : Nat) (l : List Int) (w : World) (hm : Blk w gm (msgV l) 66) : Calls Tryd.prog 61 #[.pointer (some ⟨gm, 0, none⟩)] w (FieldsAny w gm (l.getD 0 0)) := by
  generalize hk : l.getD 0 0 = k at *
  by_cases h1 : k = 1
  · subst h1
    exact fields_1 gm l w hm hk
  by_cases h2 : k = 2
  · subst h2
    exact fields_2 gm l w hm hk
  by_cases h3 : k = 3
  · subst h3
    exact fields_3 gm l w hm hk
  by_cases h4 : k = 4
  · subst h4
    exact fields_4 gm l w hm hk
  by_cases h5 : k = 5
  · subst h5
    exact fields_5 gm l w hm hk
  by_cases h6 : k = 6
  · subst h6
    exact fields_6 gm l w hm hk
  by_cases h7 : k = 7
  · subst h7
    exact fields_7 gm l w hm hk
  by_cases h8 : k = 8
  · subst h8
    exact fields_8 gm l w hm hk
  by_cases h9 : k = 9
  · subst h9
    exact fields_9 gm l w hm hk
  by_cases h10 : k = 10
  · subst h10
    exact fields_10 gm l w hm hk
  by_cases h11 : k = 11
  · subst h11
    exact fields_11 gm l w hm hk
  have hn : fieldsOf k = none := by
    unfold fieldsOf
    rw [if_neg (by omega), if_neg (by omega), if_neg (by omega), if_neg (by omega), if_neg (by omega), if_neg (by omega), if_neg (by omega)]
  unfold FieldsAny
  rw [hn]
  exact fields_none gm l w k hm hk hn
set_option maxHeartbeats 4000000 in
theorem neq_lit (a0 a1 a2 a3 a4 a5 a6 a8 a9 a10 a11 b0 b1 b2 b3 b4 b5 b6 b8 b9 b10 b11 : Int) (a7 b7 : Bool) (W : World) :
    (binOp .neq 66 (.agg #[.int .i64 a0, .int .i64 a1, .int .i64 a2, .int .i64 a3, .int .i64 a4, .int .i64 a5, .int .i64 a6, .bool a7, .int .i64 a8, .int .i64 a9, .int .i64 a10, .int .i64 a11]) (.agg #[.int .i64 b0, .int .i64 b1, .int .i64 b2, .int .i64 b3, .int .i64 b4, .int .i64 b5, .int .i64 b6, .bool b7, .int .i64 b8, .int .i64 b9, .int .i64 b10, .int .i64 b11])).run Tryd.prog W = .ok (.bool (!decide (a0 = b0 ∧ a1 = b1 ∧ a2 = b2 ∧ a3 = b3 ∧ a4 = b4 ∧ a5 = b5 ∧ a6 = b6 ∧ a7 = b7 ∧ a8 = b8 ∧ a9 = b9 ∧ a10 = b10 ∧ a11 = b11))) W := by
  have hx : (Op.equalIn 9999 59 (.agg #[.int .i64 a8, .int .i64 a9, .int .i64 a10, .int .i64 a11]) (.agg #[.int .i64 b8, .int .i64 b9, .int .i64 b10, .int .i64 b11])).run Tryd.prog W = .ok (decide (a8 = b8 ∧ a9 = b9 ∧ a10 = b10 ∧ a11 = b11)) W := EqI.run_eq_four _ _ _ _ _ _ _ _ 9997 W
  by_cases e0 : a0 = b0
  · by_cases e1 : a1 = b1
    · by_cases e2 : a2 = b2
      · by_cases e3 : a3 = b3
        · by_cases e4 : a4 = b4
          · by_cases e5 : a5 = b5
            · by_cases e6 : a6 = b6
              · by_cases e7 : a7 = b7
                · by_cases e8 : (a8 = b8 ∧ a9 = b9 ∧ a10 = b10 ∧ a11 = b11)
                  · rw [decide_eq_true e8] at hx
                    obtain ⟨e8, e9, e10, e11⟩ := e8
                    subst e8 e9 e10 e11
                    simp [go_sem, e0, e1, e2, e3, e4, e5, e6, e7, hx]
                  · rw [decide_eq_false e8] at hx
                    have e9 : (!decide (a0 = b0 ∧ a1 = b1 ∧ a2 = b2 ∧ a3 = b3 ∧ a4 = b4 ∧ a5 = b5 ∧ a6 = b6 ∧ a7 = b7 ∧ a8 = b8 ∧ a9 = b9 ∧ a10 = b10 ∧ a11 = b11)) = true := by simp only [Bool.not_eq_true', decide_eq_false_iff_not]; exact fun h => e8 h.2.2.2.2.2.2.2.2
                    rw [e9]
                    simp [go_sem, e0, e1, e2, e3, e4, e5, e6, e7, hx]
                · simp [go_sem, e0, e1, e2, e3, e4, e5, e6, e7]
              · simp [go_sem, e0, e1, e2, e3, e4, e5, e6]
            · simp [go_sem, e0, e1, e2, e3, e4, e5]
          · simp [go_sem, e0, e1, e2, e3, e4]
        · simp [go_sem, e0, e1, e2, e3]
      · simp [go_sem, e0, e1, e2]
    · simp [go_sem, e0, e1]
  · simp [go_sem, e0]
end Go.Proofs.YtapednkmefbldaaDoor

/- msg.Put of any message. -/
namespace Go.Proofs.YtapednkmefbldaaDoor
open Go.RowKit

def z12 (k : Int) : List Int := [k, 0, 0, 0, 0, 0, 0, 0, 0, 0, 0, 0]
def outD (d : FD) (n : Int) : Option (List Int) := if n < d.lo then none else if d.hi < n then none else if d.lo < 0 then some (be (n % 65536) 2) else some (be n d.size.toNat)
def outsD : List FD → List Int → Option (List Int)
  | [], _ => some []
  | d :: ds, l => match outD d (l.getD d.off 0), outsD ds l with
    | some x, some y => some (x ++ y)
    | _, _ => none
def zeroed (ds : List FD) (l : List Int) : List Int := ds.foldl (fun l d => l.set d.off 0) l
/-- the bytes of a message, if it may be -/
def put8 (l : List Int) : Option (List Int) :=
  match fieldsOf (l.getD 0 0) with
  | none => none
  | some ds => match outsD ds l with
    | none => none
    | some ps => if zeroed ds l = z12 (l.getD 0 0) then some (l.getD 0 0 :: ps) else none
structure FD.good (d : FD) : Prop where
  ok : d.ok
  off1 : 1 ≤ d.off
  neg : d.lo < 0 → -32768 ≤ d.lo ∧ d.hi ≤ 32767
  pos : 0 ≤ d.lo → 1 ≤ d.size ∧ d.size ≤ 7 ∧ d.hi < 256 ^ d.size.toNat
theorem good_role : fRole.good := ⟨⟨by decide, by decide, by decide⟩, by decide, by decide, by decide⟩
theorem good_seq : fSeq.good := ⟨⟨by decide, by decide, by decide⟩, by decide, by decide, by decide⟩
theorem good_now : fNow.good := ⟨⟨by decide, by decide, by decide⟩, by decide, by decide, by decide⟩
theorem good_to : fTo.good := ⟨⟨by decide, by decide, by decide⟩, by decide, by decide, by decide⟩
theorem good_epoch : fEpoch.good := ⟨⟨by decide, by decide, by decide⟩, by decide, by decide, by decide⟩
theorem good_mode : fMode.good := ⟨⟨by decide, by decide, by decide⟩, by decide, by decide, by decide⟩
theorem good_class : fClass.good := ⟨⟨by decide, by decide, by decide⟩, by decide, by decide, by decide⟩
theorem good_axis (i : Nat) (h : i < 4) : (fAxis i).good := by
  have h4 : i = 0 ∨ i = 1 ∨ i = 2 ∨ i = 3 := by omega
  rcases h4 with rfl | rfl | rfl | rfl <;> exact ⟨⟨by decide, by decide, by decide⟩, by decide, by decide, by decide⟩
theorem fields_good {k : Int} {ds : List FD} (h : fieldsOf k = some ds) : 1 ≤ k ∧ k ≤ 11 ∧ ds.length ≤ 7 ∧ ∀ d ∈ ds, d.good := by
  have one : ∀ (P : Prop), (P → 1 ≤ k ∧ k ≤ 11 ∧ ds.length ≤ 7 ∧ ∀ d ∈ ds, d.good) → P → 1 ≤ k ∧ k ≤ 11 ∧ ds.length ≤ 7 ∧ ∀ d ∈ ds, d.good := fun _ f p => f p
  unfold fieldsOf at h
  repeat' split at h
  all_goals first
    | (cases h; done)
    | (injection h with h
       subst h
       refine ⟨by omega, by omega, by decide, fun d hd => ?_⟩
       simp only [List.mem_cons, List.not_mem_nil, or_false] at hd)
  · subst hd; exact good_role
  · subst hd; exact good_seq
  · rcases hd with rfl | rfl
    · exact good_seq
    · exact good_now
  · rcases hd with rfl | rfl
    · exact good_seq
    · exact good_to
  · rcases hd with rfl | rfl
    · exact good_seq
    · exact good_epoch
  · rcases hd with rfl | rfl | rfl
    · exact good_seq
    · exact good_epoch
    · exact good_mode
  · rcases hd with rfl | rfl | rfl | rfl | rfl | rfl | rfl
    · exact good_seq
    · exact good_epoch
    · exact good_class
    · exact good_axis 0 (by omega)
    · exact good_axis 1 (by omega)
    · exact good_axis 2 (by omega)
    · exact good_axis 3 (by omega)
/-- a field of a row, as its bytes go -/
def afOf (l : List Int) (p : FD × Nat) : AF := ⟨p.1.size, p.1.lo, p.1.hi, p.1.get, p.1.set, .pointer (some ⟨p.2, 0, none⟩), l.getD p.1.off 0⟩
theorem outs_of (l : List Int) (fs : List (FD × Nat)) : outsA (fs.map (afOf l)) = outsD (fs.map (·.1)) l := by
  induction fs with
  | nil => rfl
  | cons p ps ih =>
    simp only [List.map_cons, outsA, outsD]
    rw [ih]
    rfl
theorem acells_of {w : World} {base gl gm : Nat} {fs : List (FD × Nat)} (l : List Int) (h : FLs w base gl gm fs) : ACells w gl (fs.map (afOf l)) := by
  intro i hi j hj
  rw [List.getElem_map]
  exact h.cells i (by simpa using hi) j hj
theorem gets_of {w : World} {base gl gm : Nat} {fs : List (FD × Nat)} {l : List Int} (h : FLs w base gl gm fs) (hl : IsMsgL l) (hm : Blk w gm (msgV l) 66) (hd : ∀ p ∈ fs, p.1.good) : ∀ a ∈ fs.map (afOf l), a.ok ∧ Gets w a.G a.gp a.n := by
  intro a ha
  obtain ⟨p, hp, rfl⟩ := List.mem_map.1 ha
  have hg := hd p hp
  obtain ⟨i, hi, he⟩ := List.getElem_of_mem hp
  refine ⟨⟨hg.neg, hg.pos⟩, enters_get p.1, fun W hW => ?_⟩
  have hb := (h.2.2 i hi).2
  rw [he] at hb
  exact get_fld p.1 p.2 gm l W hg.ok hl (Blk.below hb hW) (hm.below hW)
theorem own_keep {w w' : World} {base gm cap : Nat} {A : Option Addr} {xs : List Int} (h : Own w base A cap xs) (hg : gm < base) (hk : ∀ k, k ≠ gm → w'.heap[k]? = w.heap[k]?) : Own w' base A cap xs := by
  obtain ⟨⟨h1, h2⟩, h3⟩ := h
  refine ⟨⟨h1, ?_⟩, h3⟩
  rcases h2 with h2 | ⟨g, cap', cur, e, hb, hh, r⟩
  · exact .inl h2
  · exact .inr ⟨g, cap', cur, e, hb, (hk g (by omega)).trans hh, r⟩
theorem zeroed_len (ds : List FD) (l : List Int) : (zeroed ds l).length = l.length := by
  induction ds generalizing l with
  | nil => rfl
  | cons d ds ih => show (zeroed ds (l.set d.off 0)).length = _; rw [ih]; simp
theorem zeroed_get (ds : List FD) (l : List Int) (o : Nat) (ho : ∀ d ∈ ds, d.off ≠ o) : (zeroed ds l).getD o 0 = l.getD o 0 := by
  induction ds generalizing l with
  | nil => rfl
  | cons d ds ih =>
    show (zeroed ds (l.set d.off 0)).getD o 0 = _
    rw [ih _ fun e he => ho e (List.mem_cons_of_mem _ he)]
    simp [List.getD_eq_getElem?_getD, List.getElem?_set_ne (ho d List.mem_cons_self)]
theorem zeroed_at (ds : List FD) (l : List Int) (o : Nat) : (zeroed ds l).getD o 0 = 0 ∨ (zeroed ds l).getD o 0 = l.getD o 0 := by
  induction ds generalizing l with
  | nil => exact .inr rfl
  | cons d ds ih =>
    show (zeroed ds (l.set d.off 0)).getD o 0 = 0 ∨ (zeroed ds (l.set d.off 0)).getD o 0 = _
    rcases ih (l.set d.off 0) with h | h
    · exact .inl h
    · by_cases e : d.off = o
      · left
        rw [h, List.getD_eq_getElem?_getD, e]
        by_cases hl : o < l.length
        · simp [hl]
        · rw [List.getElem?_eq_none (by simp; omega)]; rfl
      · right
        rw [h]
        simp [List.getD_eq_getElem?_getD, List.getElem?_set_ne e]
theorem zeroed_msg (ds : List FD) (l : List Int) (h : IsMsgL l) : IsMsgL (zeroed ds l) := by
  refine ⟨(zeroed_len ds l).trans h.1, ?_⟩
  rcases zeroed_at ds l 7 with h1 | h1
  · exact .inl h1
  · rw [h1]; exact h.2
theorem zeroed_snoc (ds : List FD) (d : FD) (l : List Int) : zeroed (ds ++ [d]) l = (zeroed ds l).set d.off 0 := by
  unfold zeroed; rw [List.foldl_append]; rfl
theorem built_msg (k : Int) : Tryd.prog.built 66 [(0, .int .i64 k)] = some (msgV (z12 k)) := by kernel_rfl
theorem built_zero : Tryd.prog.built 66 [] = some (msgV (z12 0)) := by kernel_rfl
set_option maxRecDepth 100000 in
theorem neq_msg (x y : List Int) (hx : IsMsgL x) (hy : IsMsgL y) (W : World) : (binOp .neq 66 (.agg (msgV x)) (.agg (msgV y))).run Tryd.prog W = .ok (.bool (!decide (x = y))) W := by
  obtain ⟨hx, hx7⟩ := hx
  obtain ⟨hy, hy7⟩ := hy
  match x, hx with
  | [a0, a1, a2, a3, a4, a5, a6, a7, a8, a9, a10, a11], _ =>
    match y, hy with
    | [b0, b1, b2, b3, b4, b5, b6, b7, b8, b9, b10, b11], _ =>
      have h := neq_lit a0 a1 a2 a3 a4 a5 a6 a8 a9 a10 a11 b0 b1 b2 b3 b4 b5 b6 b8 b9 b10 b11 (a7 == 1) (b7 == 1) W
      have e : ((a7 == 1) = (b7 == 1)) ↔ a7 = b7 := by
        have hx7' : a7 = 0 ∨ a7 = 1 := hx7
        have hy7' : b7 = 0 ∨ b7 = 1 := hy7
        rcases hx7' with rfl | rfl <;> rcases hy7' with rfl | rfl <;> decide
      refine h.trans ?_
      congr 3
      rw [decide_eq_decide, e]
      simp
end Go.Proofs.YtapednkmefbldaaDoor

/- The plain law of messages' bytes. -/
namespace Go.Proofs.YtapednkmefbldaaDoor
open Go.RowKit

def wd (d : FD) : Nat := if d.lo < 0 then 2 else d.size.toNat
theorem outD_len {d : FD} {n : Int} {bs : List Int} (h : outD d n = some bs) : bs.length = wd d := by
  unfold outD at h
  unfold wd
  split at h
  · cases h
  split at h
  · cases h
  split at h <;> rename_i h3
  · injection h with h; subst h; rw [if_pos h3, be_len]
  · injection h with h; subst h; rw [if_neg h3, be_len]
theorem outD_inj {d : FD} (hd : d.good) {m n : Int} {bs : List Int} (h : outD d m = some bs) (h' : outD d n = some bs) : m = n := by
  unfold outD at h h'
  split at h
  · cases h
  split at h
  · cases h
  split at h'
  · cases h'
  split at h'
  · cases h'
  rename_i a1 a2 a3 a4
  split at h <;> rename_i h3
  · rw [if_pos h3] at h'
    injection h with h
    injection h' with h'
    have hn := hd.neg h3
    have e := (be_inj 2 (m % 65536) (n % 65536) (by omega) (by omega) (by omega) (by omega)).1 (h.trans h'.symm)
    omega
  · rw [if_neg h3] at h'
    injection h with h
    injection h' with h'
    have hp := hd.pos (by omega)
    exact (be_inj d.size.toNat m n (by omega) (by omega) (by omega) (by omega)).1 (h.trans h'.symm)
theorem outD_some {d : FD} {n : Int} (h1 : d.lo ≤ n) (h2 : n ≤ d.hi) : ∃ bs, outD d n = some bs := by
  unfold outD
  rw [if_neg (by omega), if_neg (by omega)]
  split
  · exact ⟨_, rfl⟩
  · exact ⟨_, rfl⟩
theorem outsD_cons {d : FD} {ds : List FD} {l p : List Int} (h : outsD (d :: ds) l = some p) : ∃ x y, outD d (l.getD d.off 0) = some x ∧ outsD ds l = some y ∧ p = x ++ y := by
  simp only [outsD] at h
  cases h1 : outD d (l.getD d.off 0) with
  | none => rw [h1] at h; cases h
  | some x =>
    cases h2 : outsD ds l with
    | none => rw [h1, h2] at h; cases h
    | some y =>
      rw [h1, h2] at h
      injection h with h
      exact ⟨x, y, rfl, rfl, h.symm⟩
theorem outsD_len {ds : List FD} {l p : List Int} (h : outsD ds l = some p) : p.length = (ds.map wd).sum := by
  induction ds generalizing p with
  | nil => injection h with h; subst h; rfl
  | cons d ds ih =>
    obtain ⟨x, y, h1, h2, rfl⟩ := outsD_cons h
    rw [List.length_append, outD_len h1, ih h2]
    simp
theorem outsD_inj {ds : List FD} (hg : ∀ d ∈ ds, d.good) {x y p : List Int} (h : outsD ds x = some p) (h' : outsD ds y = some p) : ∀ d ∈ ds, x.getD d.off 0 = y.getD d.off 0 := by
  induction ds generalizing p with
  | nil => intro d hd; cases hd
  | cons e ds ih =>
    obtain ⟨a, b, h1, h2, rfl⟩ := outsD_cons h
    obtain ⟨a', b', h1', h2', e'⟩ := outsD_cons h'
    obtain ⟨ea, eb⟩ := List.append_inj e' (by rw [outD_len h1, outD_len h1'])
    subst ea eb
    intro d hd
    rcases List.mem_cons.1 hd with rfl | hd
    · exact outD_inj (hg d List.mem_cons_self) h1 h1'
    · exact ih (fun d h => hg d (List.mem_cons_of_mem _ h)) h2 h2' d hd
theorem outsD_some {ds : List FD} {l : List Int} (h : ∀ d ∈ ds, d.lo ≤ l.getD d.off 0 ∧ l.getD d.off 0 ≤ d.hi) : ∃ p, outsD ds l = some p := by
  induction ds with
  | nil => exact ⟨[], rfl⟩
  | cons d ds ih =>
    obtain ⟨x, hx⟩ := outD_some (h d List.mem_cons_self).1 (h d List.mem_cons_self).2
    obtain ⟨y, hy⟩ := ih fun e he => h e (List.mem_cons_of_mem _ he)
    exact ⟨x ++ y, by simp only [outsD, hx, hy]⟩
theorem outsD_none {ds : List FD} {l : List Int} (d : FD) (hd : d ∈ ds) (h : outD d (l.getD d.off 0) = none) : outsD ds l = none := by
  cases hc : outsD ds l with
  | none => rfl
  | some p =>
    exfalso
    induction ds generalizing p with
    | nil => cases hd
    | cons e ds ih =>
      obtain ⟨x, y, h1, h2, -⟩ := outsD_cons hc
      rcases List.mem_cons.1 hd with rfl | hd
      · rw [h] at h1; cases h1
      · exact ih hd y h2
theorem put8_some {l bs : List Int} (h : put8 l = some bs) : ∃ ds ps, fieldsOf (l.getD 0 0) = some ds ∧ outsD ds l = some ps ∧ zeroed ds l = z12 (l.getD 0 0) ∧ bs = l.getD 0 0 :: ps := by
  unfold put8 at h
  cases h1 : fieldsOf (l.getD 0 0) with
  | none => rw [h1] at h; cases h
  | some ds =>
    rw [h1] at h
    simp only at h
    cases h2 : outsD ds l with
    | none => rw [h2] at h; cases h
    | some ps =>
      rw [h2] at h
      simp only at h
      split at h
      · rename_i hz
        injection h with h
        exact ⟨ds, ps, rfl, h2, hz, h.symm⟩
      · cases h
theorem list12 {x y : List Int} (hx : x.length = 12) (hy : y.length = 12) (h : ∀ o, o < 12 → x.getD o 0 = y.getD o 0) : x = y := by
  apply List.ext_getElem (by omega)
  intro i h1 h2
  have := h i (by omega)
  simpa [List.getD_eq_getElem?_getD, h1, h2] using this
theorem put8_inj {x y p : List Int} (hx : x.length = 12) (hy : y.length = 12) (h : put8 x = some p) (h' : put8 y = some p) : x = y := by
  obtain ⟨ds, ps, f1, o1, z1, rfl⟩ := put8_some h
  obtain ⟨ds', ps', f2, o2, z2, e⟩ := put8_some h'
  injection e with e1 e2
  rw [← e1] at f2
  rw [f1] at f2
  injection f2 with f2
  subst f2 e2
  obtain ⟨-, -, -, hg⟩ := fields_good f1
  have hin := outsD_inj hg o1 o2
  apply list12 hx hy
  intro o ho
  by_cases hd : ∃ d ∈ ds, d.off = o
  · obtain ⟨d, hd, rfl⟩ := hd
    exact hin d hd
  · have hn : ∀ d ∈ ds, d.off ≠ o := fun d h e => hd ⟨d, h, e⟩
    rw [← zeroed_get ds x o hn, ← zeroed_get ds y o hn, z1, z2, e1]
def szOf (k : Int) : Nat := if k = 1 ∨ k = 2 then 2 else if k = 3 ∨ k = 4 ∨ k = 8 ∨ k = 9 then 5 else if k = 5 ∨ k = 6 then 6 else if k = 7 then 7 else if k = 10 then 8 else 16
theorem fields_size {k : Int} {ds : List FD} (h : fieldsOf k = some ds) : 1 + (ds.map wd).sum = szOf k := by
  unfold fieldsOf at h
  unfold szOf
  repeat' split at h
  all_goals first
    | (cases h; done)
    | (injection h with h
       subst h
       repeat' split
       all_goals first | (exfalso; omega) | rfl | decide)
theorem put8_len {l bs : List Int} (h : put8 l = some bs) : bs.length = szOf (l.getD 0 0) := by
  obtain ⟨ds, ps, f1, o1, z1, rfl⟩ := put8_some h
  rw [List.length_cons, outsD_len o1, ← fields_size f1]
  omega
theorem put8_kind {l bs : List Int} (h : put8 l = some bs) : bs.take 1 = [l.getD 0 0] ∧ 1 ≤ l.getD 0 0 ∧ l.getD 0 0 ≤ 11 := by
  obtain ⟨ds, ps, f1, o1, z1, rfl⟩ := put8_some h
  obtain ⟨h1, h2, -, -⟩ := fields_good f1
  exact ⟨rfl, h1, h2⟩
/-- the greatest number of a field, by where it lies -/
def hi12 : List Int := [0, 4294967295, 3, 4, 65535, 4, 3, 1, 32767, 32767, 32767, 32767]
theorem fields_hi {k : Int} {ds : List FD} (h : fieldsOf k = some ds) : ∀ d ∈ ds, d.hi = hi12.getD d.off 0 := by
  unfold fieldsOf at h
  repeat' split at h
  all_goals first
    | (cases h; done)
    | (injection h with h
       subst h
       intro d hd
       simp only [List.mem_cons, List.not_mem_nil, or_false] at hd
       first
         | (subst hd; decide)
         | (rcases hd with rfl | rfl <;> decide)
         | (rcases hd with rfl | rfl | rfl <;> decide)
         | (rcases hd with rfl | rfl | rfl | rfl | rfl | rfl | rfl <;> decide))
theorem put8_bad (l : List Int) (hl : l.length = 12) (o : Nat) (h1 : 1 ≤ o) (h2 : o < 12) (v : Int) (hv : v ≠ 0) (hb : ∀ ds, fieldsOf (l.getD 0 0) = some ds → ∀ d ∈ ds, d.off = o → d.hi < v) : put8 (l.set o v) = none := by
  cases hp : put8 (l.set o v) with
  | none => rfl
  | some bs =>
    exfalso
    obtain ⟨ds, ps, f1, o1, z1, -⟩ := put8_some hp
    have e0 : (l.set o v).getD 0 0 = l.getD 0 0 := by simp [List.getD_eq_getElem?_getD, List.getElem?_set_ne (show o ≠ 0 by omega)]
    have eo : (l.set o v).getD o 0 = v := by simp [List.getD_eq_getElem?_getD, hl, h2]
    rw [e0] at f1
    by_cases hd : ∃ d ∈ ds, d.off = o
    · obtain ⟨d, hd, rfl⟩ := hd
      have hlt := hb ds f1 d hd rfl
      have : outsD ds (l.set d.off v) = none := outsD_none d hd (by
        rw [eo]
        unfold outD
        by_cases hh : v < d.lo
        · rw [if_pos hh]
        · rw [if_neg hh, if_pos hlt])
      rw [this] at o1
      cases o1
    · have hn : ∀ d ∈ ds, d.off ≠ o := fun d h e => hd ⟨d, h, e⟩
      have := zeroed_get ds (l.set o v) o hn
      rw [z1, eo] at this
      have hz : (z12 ((l.set o v).getD 0 0)).getD o 0 = 0 := by
        have ho : o = 1 ∨ o = 2 ∨ o = 3 ∨ o = 4 ∨ o = 5 ∨ o = 6 ∨ o = 7 ∨ o = 8 ∨ o = 9 ∨ o = 10 ∨ o = 11 := by omega
        rcases ho with rfl | rfl | rfl | rfl | rfl | rfl | rfl | rfl | rfl | rfl | rfl <;> rfl
      omega
theorem put8_great (l : List Int) (hl : l.length = 12) (o : Nat) (h1 : 1 ≤ o) (h2 : o < 12) (v : Int) (hv : v ≠ 0) (hb : hi12.getD o 0 < v) : put8 (l.set o v) = none :=
  put8_bad l hl o h1 h2 v hv fun ds hf d hd e => by rw [fields_hi hf d hd, e]; exact hb
theorem fields_off {k : Int} {ds : List FD} (h : fieldsOf k = some ds) : ∀ d ∈ ds, (k = 1 ∨ k = 2 → d.off ≠ 1) ∧ (¬ (k = 1 ∨ k = 2) → d.off ≠ 2) := by
  unfold fieldsOf at h
  repeat' split at h
  all_goals first
    | (cases h; done)
    | (rename_i hk
       injection h with h
       subst h
       intro d hd
       simp only [List.mem_cons, List.not_mem_nil, or_false] at hd
       refine ⟨fun hk2 => ?_, fun hk2 => ?_⟩
       all_goals first
         | (exfalso; omega)
         | (subst hd; decide)
         | (rcases hd with rfl | rfl <;> decide)
         | (rcases hd with rfl | rfl | rfl <;> decide)
         | (rcases hd with rfl | rfl | rfl | rfl | rfl | rfl | rfl <;> decide))
theorem put8_seq (l : List Int) (hl : l.length = 12) (hk : l.getD 0 0 = 1 ∨ l.getD 0 0 = 2) : put8 (l.set 1 1) = none :=
  put8_bad l hl 1 (by omega) (by omega) 1 (by omega) fun ds hf d hd e => absurd e ((fields_off hf d hd).1 hk)
theorem put8_role (l : List Int) (hl : l.length = 12) (hk : ¬ (l.getD 0 0 = 1 ∨ l.getD 0 0 = 2)) : put8 (l.set 2 1) = none :=
  put8_bad l hl 2 (by omega) (by omega) 1 (by omega) fun ds hf d hd e => absurd e ((fields_off hf d hd).2 hk)
end Go.Proofs.YtapednkmefbldaaDoor

/- '==' of messages; the walk of MsgSizes: parts. -/
namespace Go.Proofs.YtapednkmefbldaaDoor
open Go.RowKit

set_option maxHeartbeats 4000000 in
theorem eql_lit (a0 a1 a2 a3 a4 a5 a6 a8 a9 a10 a11 b0 b1 b2 b3 b4 b5 b6 b8 b9 b10 b11 : Int) (a7 b7 : Bool) (W : World) :
    (binOp .eql 66 (.agg #[.int .i64 a0, .int .i64 a1, .int .i64 a2, .int .i64 a3, .int .i64 a4, .int .i64 a5, .int .i64 a6, .bool a7, .int .i64 a8, .int .i64 a9, .int .i64 a10, .int .i64 a11]) (.agg #[.int .i64 b0, .int .i64 b1, .int .i64 b2, .int .i64 b3, .int .i64 b4, .int .i64 b5, .int .i64 b6, .bool b7, .int .i64 b8, .int .i64 b9, .int .i64 b10, .int .i64 b11])).run Tryd.prog W = .ok (.bool (decide (a0 = b0 ∧ a1 = b1 ∧ a2 = b2 ∧ a3 = b3 ∧ a4 = b4 ∧ a5 = b5 ∧ a6 = b6 ∧ a7 = b7 ∧ a8 = b8 ∧ a9 = b9 ∧ a10 = b10 ∧ a11 = b11))) W := by
  have hx : (Op.equalIn 9999 59 (.agg #[.int .i64 a8, .int .i64 a9, .int .i64 a10, .int .i64 a11]) (.agg #[.int .i64 b8, .int .i64 b9, .int .i64 b10, .int .i64 b11])).run Tryd.prog W = .ok (decide (a8 = b8 ∧ a9 = b9 ∧ a10 = b10 ∧ a11 = b11)) W := EqI.run_eq_four _ _ _ _ _ _ _ _ 9997 W
  by_cases e0 : a0 = b0
  · by_cases e1 : a1 = b1
    · by_cases e2 : a2 = b2
      · by_cases e3 : a3 = b3
        · by_cases e4 : a4 = b4
          · by_cases e5 : a5 = b5
            · by_cases e6 : a6 = b6
              · by_cases e7 : a7 = b7
                · by_cases e8 : (a8 = b8 ∧ a9 = b9 ∧ a10 = b10 ∧ a11 = b11)
                  · rw [decide_eq_true e8] at hx
                    obtain ⟨e8, e9, e10, e11⟩ := e8
                    subst e8 e9 e10 e11
                    simp [go_sem, e0, e1, e2, e3, e4, e5, e6, e7, hx]
                  · rw [decide_eq_false e8] at hx
                    have e9 : decide (a0 = b0 ∧ a1 = b1 ∧ a2 = b2 ∧ a3 = b3 ∧ a4 = b4 ∧ a5 = b5 ∧ a6 = b6 ∧ a7 = b7 ∧ a8 = b8 ∧ a9 = b9 ∧ a10 = b10 ∧ a11 = b11) = false := by simp only [decide_eq_false_iff_not]; exact fun h => e8 h.2.2.2.2.2.2.2.2
                    rw [e9]
                    simp [go_sem, e0, e1, e2, e3, e4, e5, e6, e7, hx]
                · simp [go_sem, e0, e1, e2, e3, e4, e5, e6, e7]
              · simp [go_sem, e0, e1, e2, e3, e4, e5, e6]
            · simp [go_sem, e0, e1, e2, e3, e4, e5]
          · simp [go_sem, e0, e1, e2, e3, e4]
        · simp [go_sem, e0, e1, e2, e3]
      · simp [go_sem, e0, e1, e2]
    · simp [go_sem, e0, e1]
  · simp [go_sem, e0]
set_option maxRecDepth 100000 in
theorem eql_msg (x y : List Int) (hx : IsMsgL x) (hy : IsMsgL y) (W : World) : (binOp .eql 66 (.agg (msgV x)) (.agg (msgV y))).run Tryd.prog W = .ok (.bool (decide (x = y))) W := by
  obtain ⟨hx, hx7⟩ := hx
  obtain ⟨hy, hy7⟩ := hy
  match x, hx with
  | [a0, a1, a2, a3, a4, a5, a6, a7, a8, a9, a10, a11], _ =>
    match y, hy with
    | [b0, b1, b2, b3, b4, b5, b6, b7, b8, b9, b10, b11], _ =>
      have h := eql_lit a0 a1 a2 a3 a4 a5 a6 a8 a9 a10 a11 b0 b1 b2 b3 b4 b5 b6 b8 b9 b10 b11 (a7 == 1) (b7 == 1) W
      have e : ((a7 == 1) = (b7 == 1)) ↔ a7 = b7 := by
        have hx7' : a7 = 0 ∨ a7 = 1 := hx7
        have hy7' : b7 = 0 ∨ b7 = 1 := hy7
        rcases hx7' with rfl | rfl <;> rcases hy7' with rfl | rfl <;> decide
      refine h.trans ?_
      congr 2
      rw [decide_eq_decide, e]
      simp
theorem sz_bound (k : Int) : 2 ≤ szOf k ∧ szOf k ≤ 16 := by
  unfold szOf
  repeat' split
  all_goals omega
theorem sizes_plain {x y p q : List Int} (hx : x.length = 12) (hy : y.length = 12) (hp : put8 x = some p) (hq : put8 y = some q) : p.take (min p.length q.length) = q.take (min p.length q.length) ↔ x = y := by
  constructor
  · intro h
    have l1 := put8_len hp
    have l2 := put8_len hq
    have b1 := (sz_bound (x.getD 0 0)).1
    have b2 := (sz_bound (y.getD 0 0)).1
    have h1 : p.take 1 = q.take 1 := by
      have := congrArg (List.take 1) h
      rwa [List.take_take, List.take_take, Nat.min_eq_left (by omega)] at this
    rw [(put8_kind hp).1, (put8_kind hq).1] at h1
    injection h1 with h1
    rw [h1] at l1
    rw [l1, l2, Nat.min_self, List.take_of_length_le (by omega), List.take_of_length_le (by omega)] at h
    subst h
    exact put8_inj hx hy hp hq
  · rintro rfl
    rw [hp] at hq
    injection hq with hq
    rw [hq]
theorem own_cap8 {w : World} {base c : Nat} {A : Option Addr} {xs : List Int} (h : Own w base A c xs) : xs.length ≤ c ∧ c ≤ 9223372036854775807 := by
  obtain ⟨A', ys, cap, e, h1, h2, -⟩ := h.isBytes
  injection e with e1 e2 e3
  omega
theorem quiet_load_blk {P : Program} {a : Act} {o : Oper} {W : World} {K : Act → Prop} {T : TypeId} {g n : Nat} {cs : Array Value} (hT : AggT P T n) (x : Operand) (ho : o.op = .load T x) (hx : a.eval x = .pointer (some ⟨g, 0, none⟩)) (hg : Hid (Blk W g cs T)) (hn : cs.size = n)
    (hk : K (a.put o.dst (.agg cs))) : o.quiet P a (fun w' => ∃ x, w' = exw W x) K := by
  obtain ⟨⟨d, hu, hd⟩, hi⟩ := hT
  refine ⟨_, fun w hw => ?_, hk⟩
  obtain ⟨y, rfl⟩ := hw
  have hrun : (loadVar T ⟨g, 0, none⟩).run P (exw W y) = .ok (.agg cs) (exw W y) := by
    cases d <;> first | (cases hd; done) | exact run_loadVar_row _ g T T cs (0, 0) _ (hg.out.below (exw_bel y)) hu rfl (by rw [hi, hn])
  unfold Oper.quietAt execOp
  simp only [ho, hx, Instr.loadAt, Instr.sureAddr, Sem.run_bind, Sem.run_pure, Result.andThen_ok, hrun]
  exact ⟨rfl, rfl⟩
def sizes12 : Array Value := #[.int .i64 0, .int .i64 2, .int .i64 2, .int .i64 5, .int .i64 5, .int .i64 6, .int .i64 6, .int .i64 7, .int .i64 5, .int .i64 5, .int .i64 8, .int .i64 16]
theorem sizes12_get (k : Nat) (h1 : 1 ≤ k) (h2 : k ≤ 11) : sizes12[k]? = some (.int .i64 (szOf (k : Int))) := by
  have h : k = 1 ∨ k = 2 ∨ k = 3 ∨ k = 4 ∨ k = 5 ∨ k = 6 ∨ k = 7 ∨ k = 8 ∨ k = 9 ∨ k = 10 ∨ k = 11 := by omega
  rcases h with rfl | rfl | rfl | rfl | rfl | rfl | rfl | rfl | rfl | rfl | rfl <;> rfl
end Go.Proofs.YtapednkmefbldaaDoor

/- A message that was handed in. -/
namespace Go.Proofs.YtapednkmefbldaaDoor
open Go.RowKit Go.WideShapes Go.ChangeShapes

set_option maxRecDepth 100000 in
theorem flat_msg (v : Value) (w : World) (base : Nat) (h : Value.okWide Tryd.prog w .any base 66 v) : ∃ (n0 : Int) (n1 : Int) (n2 : Int) (n3 : Int) (n4 : Int) (n5 : Int) (n6 : Int) (n7 : Bool) (n8 : Int) (n9 : Int) (n10 : Int) (n11 : Int), v = .agg #[.int .i64 n0, .int .i64 n1, .int .i64 n2, .int .i64 n3, .int .i64 n4, .int .i64 n5, .int .i64 n6, .bool n7, .int .i64 n8, .int .i64 n9, .int .i64 n10, .int .i64 n11] ∧ (-9223372036854775808 ≤ n0 ∧ n0 ≤ 9223372036854775807) ∧ (-9223372036854775808 ≤ n1 ∧ n1 ≤ 9223372036854775807) ∧ (-9223372036854775808 ≤ n2 ∧ n2 ≤ 9223372036854775807) ∧ (-9223372036854775808 ≤ n3 ∧ n3 ≤ 9223372036854775807) ∧ (-9223372036854775808 ≤ n4 ∧ n4 ≤ 9223372036854775807) ∧ (-9223372036854775808 ≤ n5 ∧ n5 ≤ 9223372036854775807) ∧ (-9223372036854775808 ≤ n6 ∧ n6 ≤ 9223372036854775807) ∧ (-9223372036854775808 ≤ n8 ∧ n8 ≤ 9223372036854775807) ∧ (-9223372036854775808 ≤ n9 ∧ n9 ≤ 9223372036854775807) ∧ (-9223372036854775808 ≤ n10 ∧ n10 ≤ 9223372036854775807) ∧ (-9223372036854775808 ≤ n11 ∧ n11 ≤ 9223372036854775807) := by
  obtain ⟨cs, rfl, hs, hc⟩ := flat (ts := [3, 3, 3, 3, 3, 3, 3, 4, 3, 3, 3, 3]) (.inl ⟨_, Tryd.underlying66⟩) (by kernel_rfl) (by kernel_rfl) h
  obtain ⟨l⟩ := cs
  match l, hs with
  | [x0, x1, x2, x3, x4, x5, x6, x7, x8, x9, x10, x11], _ =>
    obtain ⟨n0, rfl, a0, b0⟩ := opn_i64 Tryd.underlying3 (hc 0 _ x0 rfl rfl)
    obtain ⟨n1, rfl, a1, b1⟩ := opn_i64 Tryd.underlying3 (hc 1 _ x1 rfl rfl)
    obtain ⟨n2, rfl, a2, b2⟩ := opn_i64 Tryd.underlying3 (hc 2 _ x2 rfl rfl)
    obtain ⟨n3, rfl, a3, b3⟩ := opn_i64 Tryd.underlying3 (hc 3 _ x3 rfl rfl)
    obtain ⟨n4, rfl, a4, b4⟩ := opn_i64 Tryd.underlying3 (hc 4 _ x4 rfl rfl)
    obtain ⟨n5, rfl, a5, b5⟩ := opn_i64 Tryd.underlying3 (hc 5 _ x5 rfl rfl)
    obtain ⟨n6, rfl, a6, b6⟩ := opn_i64 Tryd.underlying3 (hc 6 _ x6 rfl rfl)
    obtain ⟨n7, rfl⟩ := cell_bool Tryd.underlying4 (hc 7 _ x7 rfl rfl)
    obtain ⟨n8, rfl, a8, b8⟩ := opn_i64 Tryd.underlying3 (hc 8 _ x8 rfl rfl)
    obtain ⟨n9, rfl, a9, b9⟩ := opn_i64 Tryd.underlying3 (hc 9 _ x9 rfl rfl)
    obtain ⟨n10, rfl, a10, b10⟩ := opn_i64 Tryd.underlying3 (hc 10 _ x10 rfl rfl)
    obtain ⟨n11, rfl, a11, b11⟩ := opn_i64 Tryd.underlying3 (hc 11 _ x11 rfl rfl)
    exact ⟨n0, n1, n2, n3, n4, n5, n6, n7, n8, n9, n10, n11, rfl, ⟨a0, b0⟩, ⟨a1, b1⟩, ⟨a2, b2⟩, ⟨a3, b3⟩, ⟨a4, b4⟩, ⟨a5, b5⟩, ⟨a6, b6⟩, ⟨a8, b8⟩, ⟨a9, b9⟩, ⟨a10, b10⟩, ⟨a11, b11⟩⟩

set_option maxRecDepth 100000 in
theorem msg_of (v : Value) (w : World) (base : Nat) (h : Value.okWide Tryd.prog w .any base 66 v) : ∃ l, IsMsgL l ∧ v = .agg (msgV l) := by
  obtain ⟨n0, n1, n2, n3, n4, n5, n6, n7, n8, n9, n10, n11, rfl, -⟩ := flat_msg v w base h
  refine ⟨[n0, n1, n2, n3, n4, n5, n6, if n7 then 1 else 0, n8, n9, n10, n11], ⟨rfl, ?_⟩, ?_⟩
  · cases n7
    · exact .inl rfl
    · exact .inr rfl
  · cases n7 <;> rfl
set_option maxRecDepth 100000 in
theorem zeroT_msgy : ZeroT Tryd.prog 66 (msgV (z12 0)) := zeroT_msg
theorem row_take8 {w : World} {A : Option Addr} {xs : List Int} (h : Row w A xs) (m : Nat) : Row w A (xs.take m) := by
  obtain ⟨h1, h2⟩ := h
  refine ⟨?_, fun z hz => h2 z (List.mem_of_mem_take hz)⟩
  rcases h1 with h1 | ⟨b, off, e, hc⟩
  · subst h1; exact .inl (by simp)
  · refine .inr ⟨b, off, e, fun i hi => ?_⟩
    have hi2 : i < xs.length := by simp at hi; omega
    rw [hc i hi2]
    simp
end Go.Proofs.YtapednkmefbldaaDoor

/- msg.take: the fields of a row set to what bytes are. -/
namespace Go.Proofs.YtapednkmefbldaaDoor
open Go.RowKit

def valD (d : FD) (xs : List Int) : Int := if d.lo < 0 then sig xs else num xs
def takeD : List FD → List Int → List Int → Option (List Int)
  | [], l, xs => if xs.length = 0 then some l else none
  | d :: ds, l, xs => if xs.length < wd d then none else if valD d (xs.take (wd d)) < d.lo then none else if d.hi < valD d (xs.take (wd d)) then none else takeD ds (l.set d.off (valD d (xs.take (wd d)))) (xs.drop (wd d))
structure FD.fine (d : FD) : Prop where
  good : d.good
  neg : d.lo < 0 → d.lo = -32768 ∧ d.hi = 32767
  size : d.size = (wd d : Int)
  one : 1 ≤ wd d ∧ wd d ≤ 7
  now : d.off = 7 → d.lo = 0 ∧ d.hi = 1
theorem fields_fine {k : Int} {ds : List FD} (h : fieldsOf k = some ds) : ∀ d ∈ ds, d.fine := by
  intro d hd
  have hg := (fields_good h).2.2.2 d hd
  have : (d.lo < 0 → d.lo = -32768 ∧ d.hi = 32767) ∧ d.size = (wd d : Int) ∧ (1 ≤ wd d ∧ wd d ≤ 7) ∧ (d.off = 7 → d.lo = 0 ∧ d.hi = 1) := by
    unfold fieldsOf at h
    repeat' split at h
    all_goals first
      | (cases h; done)
      | (injection h with h
         subst h
         simp only [List.mem_cons, List.not_mem_nil, or_false] at hd
         first
           | (subst hd; decide)
           | (rcases hd with rfl | rfl <;> decide)
           | (rcases hd with rfl | rfl | rfl <;> decide)
           | (rcases hd with rfl | rfl | rfl | rfl | rfl | rfl | rfl <;> decide))
  exact ⟨hg, this.1, this.2.1, this.2.2.1, this.2.2.2⟩
theorem sig_range {xs : List Int} (h : ∀ x ∈ xs, 0 ≤ x ∧ x ≤ 255) (hl : xs.length = 2) : -32768 ≤ sig xs ∧ sig xs ≤ 32767 := by
  have hb := num_bd xs h 2 (by omega)
  rw [List.take_of_length_le (by omega)] at hb
  have h2 : num xs < 65536 := hb.2
  unfold sig
  split <;> omega
/-- what a set leaves -/
def SetQ (gm : Nat) (l : List Int) (W w' : World) : Prop := Blk w' gm (msgV l) 66 ∧ (∀ k, k ≠ gm → w'.heap[k]? = W.heap[k]?) ∧ w'.heap.size = W.heap.size ∧ Below gm W w'
def TakeF (d : FD) (gm : Nat) (l xs : List Int) (w : World) (e : Ending) (w' : World) : Prop :=
  if valD d xs < d.lo then e = .returned (.bool false) ∧ Below w.heap.size w w'
  else if d.hi < valD d xs then e = .returned (.bool false) ∧ Below w.heap.size w w'
  else e = .returned (.bool true) ∧ ∃ W, Below w.heap.size w W ∧ SetQ gm (l.set d.off (valD d xs)) W w'
theorem take_fld (d : FD) (hd : d.fine) (gb gm : Nat) (l xs : List Int) (hl : IsMsgL l) (B : Option Addr) (c k : Nat) (hk : wd d = k) (w : World) (hr : Row w B xs) (hx : xs.length = k) (hb : Box w d gm gb) (hm : Blk w gm (msgV l) 66) :
    Calls Tryd.prog 76 #[.agg (fldV d gb), .slice B k c] w (TakeF d gm l xs w) := by
  have hs : ∀ v, Sets w d.set (.pointer (some ⟨gb, 0, none⟩)) v (SetQ gm (l.set d.off v)) := fun v => ⟨enters_set d, fun W hW => (set_fld d gb gm l v W hd.good.ok hl (Blk.below hb hW) (hm.below hW)).mono fun e w' ⟨he, h1, h2, h3, h4⟩ => ⟨he, h1, h2, h3, h4⟩⟩
  have hk7 := hd.one
  unfold TakeF fldV
  by_cases h0 : d.lo < 0
  · have e2 : k = 2 := by rw [← hk]; unfold wd; rw [if_pos h0]
    subst e2
    have hv : valD d xs = sig xs := by unfold valD; rw [if_pos h0]
    have hr2 := sig_range hr.2 hx
    have hn := hd.neg h0
    have g1 : ¬ sig xs < d.lo := by omega
    have g2 : ¬ d.hi < sig xs := by omega
    rw [hv]
    simp only [if_neg g1, if_neg g2]
    exact take_neg _ _ _ _ _ _ xs B c (sig xs) _ w hr hx rfl h0 (by omega) (by omega) (hs _)
  · have hv : valD d xs = num xs := by unfold valD; rw [if_neg h0]
    have hb2 := num_bd xs hr.2 k (by omega)
    rw [List.take_of_length_le (by omega)] at hb2
    have h256 : (256 : Int) ^ k ≤ 72057594037927936 := by
      have h6 : k = 0 ∨ k = 1 ∨ k = 2 ∨ k = 3 ∨ k = 4 ∨ k = 5 ∨ k = 6 ∨ k = 7 := by omega
      rcases h6 with rfl | rfl | rfl | rfl | rfl | rfl | rfl | rfl <;> decide
    have hhi : d.hi < 256 ^ k := by
      have := (hd.good.pos (by omega)).2.2
      rw [hd.size, hk, Int.toNat_natCast] at this
      exact this
    rw [hv]
    by_cases h1 : num xs < d.lo
    · simp only [if_pos h1]
      exact take_low _ _ _ _ _ _ xs B k c (num xs) w hr hx (by omega) rfl (by omega) (by omega) (by omega) h1
    by_cases h2 : d.hi < num xs
    · simp only [if_neg h1, if_pos h2]
      exact take_high _ _ _ _ _ _ xs B k c (num xs) w hr hx (by omega) rfl (by omega) (by omega) (by omega) (by omega) h2
    · simp only [if_neg h1, if_neg h2]
      exact take_pos _ _ _ _ _ _ xs B k c (num xs) _ w hr hx (by omega) rfl (by omega) (by omega) (by omega) (by omega) (hs _)
theorem row_under {w w' : World} {B : Option Addr} {xs : List Int} {gm : Nat} (h : Row w B xs) (hB : ∀ a, B = some a → a.block < gm) (hb : Below gm w w') : Row w' B xs := by
  obtain ⟨h1, h2⟩ := h
  refine ⟨?_, h2⟩
  rcases h1 with h1 | ⟨b, off, e, hc⟩
  · exact .inl h1
  · refine .inr ⟨b, off, e, fun i hi => ?_⟩
    have h3 := hb.cell (p := ⟨b, off + i, none⟩) (show b < gm from hB ⟨b, off, none⟩ e)
    rw [h3]
    exact hc i hi
theorem row_drop8 {w : World} {b off : Nat} {xs : List Int} (h : Row w (some ⟨b, off, none⟩) xs) (m : Nat) : Row w (some ⟨b, off + m, none⟩) (xs.drop m) := by
  obtain ⟨h1, h2⟩ := h
  refine ⟨?_, fun z hz => h2 z (List.mem_of_mem_drop hz)⟩
  rcases h1 with h1 | ⟨b', off', e, hc⟩
  · subst h1; exact .inl (by simp)
  · injection e with e
    injection e with e1 e2
    subst e1 e2
    refine .inr ⟨b, off + m, rfl, fun i hi => ?_⟩
    have hi2 : m + i < xs.length := by simp at hi; omega
    have := hc (m + i) hi2
    rw [← Nat.add_assoc] at this
    rw [this]
    simp
theorem set_isMsg {l : List Int} (h : IsMsgL l) (o : Nat) (v : Int) (hv : o = 7 → v = 0 ∨ v = 1) : IsMsgL (l.set o v) := by
  refine ⟨by rw [List.length_set]; exact h.1, ?_⟩
  by_cases e : o = 7
  · subst e
    have hl := h.1
    have : (l.set 7 v).getD 7 0 = v := by simp [List.getD_eq_getElem?_getD, hl]
    rw [this]
    exact hv rfl
  · have e2 : (l.set o v).getD 7 0 = l.getD 7 0 := by simp [List.getD_eq_getElem?_getD, List.getElem?_set_ne e]
    rw [e2]
    exact h.2

def TakeP (R : Option (List Int)) (gm : Nat) (w : World) (e : Ending) (w' : World) : Prop :=
  Below gm w w' ∧ match R with
   | none => e = .returned (.bool false)
   | some l' => e = .returned (.bool true) ∧ Blk w' gm (msgV l') 66
set_option maxRecDepth 100000 in
set_option maxHeartbeats 3200000 in
theorem take_any (fs : List (FD × Nat)) (ds : List FD) (hds : fs.map (·.1) = ds) (hf : ∀ d ∈ ds, d.fine) (n : Nat) (hn : fs.length = n) (hn9 : n ≤ 100) (gl cp gm base : Nat) (l : List Int) (hl : IsMsgL l) (xs : List Int) (B : Option Addr) (m c : Nat) (hm : xs.length = m) (hmc : m ≤ c) (hc : c ≤ 9223372036854775807)
    (w : World) (hr : Row w B xs) (hB : ∀ a, B = some a → a.block < gm) (hfl : FLs w base gl gm fs) (hgb : gm < base) (hgw : base ≤ w.heap.size) (hk : Blk w gm (msgV l) 66) :
    Calls Tryd.prog 62 #[.slice B m c, .slice (some ⟨gl, 0, none⟩) n cp] w (TakeP (takeD ds l xs) gm w) := by
  have HDS := Lib.hid hds
  have HF := Lib.hid hf
  have HN := Lib.hid hn
  obtain ⟨R, hR⟩ : ∃ R, R = takeD ds l xs := ⟨_, rfl⟩
  rw [← hR]
  have HR0 := Lib.hid hR
  have HM := Lib.hid hm
  have HRW := Lib.hid hr
  have HBB := Lib.hid hB
  have HFL := Lib.hid hfl
  have HK := Lib.hid hk
  have HL := Lib.hid hl
  clear hds hf hn hR hm hr hB hfl hk hl
  go_enter Tryd.func62, Tryd.ntmps62
  go_wp2_with fail
  go_loopw [0, 9] (fun x y wr => ∃ (i : Nat) (A : Option Addr) (k e : Nat) (li rs : List Int), i ≤ n ∧ y = .int .i64 i ∧ x = .slice A k e ∧ rs.length = k ∧ k ≤ e ∧ e ≤ 9223372036854775807 ∧ Row wr A rs ∧ (∀ a, A = some a → a.block < gm) ∧ IsMsgL li ∧ Blk wr gm (msgV li) 66 ∧ FLs wr base gl gm fs ∧ base ≤ wr.heap.size ∧ takeD (ds.drop i) li rs = R ∧ Below gm w wr) (fun _ y _ => n - (intOf y).toNat)
  case atStart => exact ⟨0, B, m, c, l, xs, by omega, rfl, rfl, HM.out, hmc, hc, HRW.out, HBB.out, HL.out, HK.out, HFL.out, hgw, by rw [HR0.out]; rfl, Below.refl _ _⟩
  case round =>
    obtain ⟨i, A, k, e, li, rs, hi, rfl, rfl, hrs, hke, he, hrw, hA, hli, hkm, hfl, hbw, hR, hbb⟩ := hrel
    have HRS := Lib.hid hrs
    have RW := Lib.hid hrw
    have HA := Lib.hid hA
    have HLI := Lib.hid hli
    have KM := Lib.hid hkm
    have FL := Lib.hid hfl
    have HR := Lib.hid hR
    have BB := Lib.hid hbb
    have lm := hkm.lt
    clear hrs hrw hA hli hkm hfl hR hbb HRW HFL HK HL HR0 HBB
    by_cases hin : i < n
    · have hil : i < fs.length := by rw [HN.out]; exact hin
      have hcell := fun j hj => FL.out.cells i hil j hj
      have hbox := (FL.out.2.2 i hil).2
      have e1 : ds[i]? = some (fs[i]'hil).1 := by rw [← HDS.out, List.getElem?_map, List.getElem?_eq_getElem hil]; rfl
      have hmem : (fs[i]'hil).1 ∈ ds := List.mem_of_getElem? e1
      have hdf := HF.out _ hmem
      have hdr : ds.drop i = (fs[i]'hil).1 :: ds.drop (i + 1) := by
        obtain ⟨h1, h2⟩ := List.getElem?_eq_some_iff.1 e1
        rw [← h2]
        exact List.drop_eq_getElem_cons h1
      generalize fs[i]'hil = p at *
      obtain ⟨d, gb⟩ := p
      simp only at hcell hbox hdf hdr
      have hRR := HR.out
      rw [hdr] at hRR
      simp only [takeD] at hRR
      replace hRR := Lib.hid hRR
      have HBX := Lib.hid hbox
      have HD := Lib.hid hdf
      have c0 := hcell 0 (by omega)
      have c1 := hcell 1 (by omega)
      have c2 := hcell 2 (by omega)
      have c3 := hcell 3 (by omega)
      have c4 := hcell 4 (by omega)
      simp only [fldV, Nat.add_zero] at c0 c1 c2 c3 c4
      clear hcell hbox e1 hmem hdf hdr
      have hone2 := Lib.hid (fldV_one d gb)
      have hsz2 : Hid ((fldV d gb).size = 5) := Lib.hid rfl
      have t1 : decide ((i : Int) < (n : Int)) = true := decide_eq_true (by omega)
      go_wp2_with ((with_reducible show wpList _ _ _ (⟨_, .alloc 130, _, _, _, none⟩ :: _) _ _); (with_reducible refine wpRow_alloc zeroT_fld ?_ ?_ ?_); (· exact wanted0 rfl); (· rfl); refine Marker.mk ?_)
      refine Marker.in ?_
      clear c0 c1 c2 c3 c4 t1
      have K5 := Lib.hid (Blk.new wr zfld 130)
      have b5 := Lib.hid (below_alloc1 wr (.cells zfld 130))
      generalize wr.alloc (.cells zfld 130) = w4 at *
      go_wp2_with ((with_reducible show wpList _ _ _ (⟨_, .store 130 _ _, _, _, _, none⟩ :: _) _ _); (with_reducible refine wpBlk_store (g := wr.heap.size) (cs := (fldV d gb)) agg_fld ?_ ?_ K5 ?_ ?_ ?_ ?_); (· exact wanted0 rfl); (· exact ⟨rfl, rfl, rfl⟩); (· rfl); (· exact hsz2.out); (· exact hone2.out); refine Marker.mk ?_)
      refine Marker.in ?_
      replace K5 := Lib.hid (K5.out.setRow (fldV d gb))
      replace b5 := Lib.hid (below_setRow (g := wr.heap.size) b5.out (by omega) (fldV d gb))
      generalize w4.setRow wr.heap.size (fldV d gb) = w5 at *
      replace KM := Lib.hid (KM.out.below b5.out)
      replace FL := Lib.hid (FL.out.below b5.out)
      replace RW := Lib.hid (row_below RW.out b5.out)
      replace BB := Lib.hid (BB.out.trans (b5.out.mono (by omega)))
      have HBX5 : Hid (Box w5 d gm gb) := Lib.hid (Blk.below HBX.out b5.out)
      have l5 := b5.out.size
      clear b5 HBX
      obtain ⟨z, hz⟩ : ∃ z, z = wd d := ⟨_, rfl⟩
      have hzs : d.size = (z : Int) := by rw [hz]; exact HD.out.size
      have hz1 : 1 ≤ z := by rw [hz]; exact HD.out.one.1
      have hz7 : z ≤ 7 := by rw [hz]; exact HD.out.one.2
      have HZ := Lib.hid hz
      have ZS := Lib.hid hzs
      have c0 : ∀ y : Ext w5, (exw w5 y).cell? ⟨wr.heap.size, 0, none⟩ = some (.int .i64 z) := fun y => by
        rw [(K5.out.below (exw_bel y)).cell 0, ← ZS.out]; rfl
      clear hz hzs
      go_wp2_with fail
      by_cases hkz : k < z
      · have t2 : decide ((k : Int) < (z : Int)) = true := decide_eq_true (by omega)
        refine wp_region_ext (by kernel_rfl) (by kernel_rfl) ?_
        repeat (first
              | go_big_quiet_skip
              | (go_big_quiet_want
                 first
                   | (refine quiet_load_blk (T := 130) (g := wr.heap.size) agg_fld _ rfl rfl K5 ?_ ?_; (· exact hsz2.out); go_simp; go_big_quiet_on)
                   | (go_big_quiet_op
                      first
                        | go_big_quiet_on
                        | go_big_quiet_call ((fail)))))
        refine wpQuiet_nil ?_
        intro _ hw'
        obtain ⟨y9, rfl⟩ := hw'
        replace BB := Lib.hid (BB.out.trans ((exw_bel y9).mono (by omega)))
        generalize exw w5 y9 = w6 at *
        go_wp2_with fail
        go_ret
        refine ⟨BB.out, ?_⟩
        rw [← hRR.out, if_pos (by rw [HRS.out, ← HZ.out]; exact hkz)]
        rfl
      · have t2 : decide ((k : Int) < (z : Int)) = false := decide_eq_false (by omega)
        have q1 : z ≤ k := by omega
        have q2 : z ≤ e := by omega
        obtain ⟨b0, off, hAe⟩ : ∃ b off, A = some ⟨b, off, none⟩ := by
          obtain ⟨h | ⟨b, off, h, -⟩, -⟩ := RW.out
          · have := HRS.out; rw [h] at this; simp at this; omega
          · exact ⟨b, off, h⟩
        subst hAe
        refine wp_region_qx 11 (by kernel_rfl) (by kernel_rfl) ?_
        simp only [List.take_succ_cons, List.take_zero, List.drop_succ_cons, List.drop_zero]
        repeat (first
              | go_big_quiet_skip
              | (go_big_quiet_want
                 first
                   | (refine quiet_load_blk (T := 130) (g := wr.heap.size) agg_fld _ rfl rfl K5 ?_ ?_; (· exact hsz2.out); go_simp; go_big_quiet_on)
                   | (go_big_quiet_op
                      first
                        | go_big_quiet_on
                        | go_big_quiet_call ((fail)))))
        refine wpQuiet_nil ?_
        intro _ hw'
        obtain ⟨y9, rfl⟩ := hw'
        have by_ := exw_bel y9
        replace K5 := Lib.hid (K5.out.below by_)
        replace KM := Lib.hid (KM.out.below by_)
        replace FL := Lib.hid (FL.out.below by_)
        replace RW := Lib.hid (row_below RW.out by_)
        have HBX6 : Hid (Box (exw w5 y9) d gm gb) := Lib.hid (Blk.below HBX5.out by_)
        replace BB := Lib.hid (BB.out.trans (by_.mono (by omega)))
        have l6 := by_.size
        clear by_ c0 HBX5
        generalize exw w5 y9 = w6 at *
        have hlt : (rs.take z).length = z := by rw [List.length_take, HRS.out]; omega
        have CT := Lib.hid (take_fld d HD.out gb gm li (rs.take z) HLI.out (some ⟨b0, off, none⟩) e z HZ.out.symm w6 (row_take8 RW.out z) hlt HBX6.out KM.out)
        clear hlt HBX6
        go_wp2_with fail
        ((with_reducible refine (CT.out).mono ?_))
        rintro e' w7 ht
        unfold TakeF at ht
        have hif : ¬ rs.length < wd d := by rw [HRS.out, ← HZ.out]; omega
        have hRR2 := hRR.out
        rw [if_neg hif, ← HZ.out] at hRR2
        replace hRR2 := Lib.hid hRR2
        clear hif CT hRR
        by_cases hlow : valD d (rs.take z) < d.lo
        · rw [if_pos hlow] at ht
          obtain ⟨rfl, b7⟩ := ht
          have hRR3 := hRR2.out
          rw [if_pos hlow] at hRR3
          replace hRR3 := Lib.hid hRR3
          replace BB := Lib.hid (BB.out.trans (b7.mono (by omega)))
          clear hlow b7 hRR2
          go_wp2_with fail
          go_ret
          refine ⟨BB.out, ?_⟩
          rw [← hRR3.out]
          rfl
        by_cases hhigh : d.hi < valD d (rs.take z)
        · rw [if_neg hlow, if_pos hhigh] at ht
          obtain ⟨rfl, b7⟩ := ht
          have hRR3 := hRR2.out
          rw [if_neg hlow, if_pos hhigh] at hRR3
          replace hRR3 := Lib.hid hRR3
          replace BB := Lib.hid (BB.out.trans (b7.mono (by omega)))
          clear hlow hhigh b7 hRR2
          go_wp2_with fail
          go_ret
          refine ⟨BB.out, ?_⟩
          rw [← hRR3.out]
          rfl
        · rw [if_neg hlow, if_neg hhigh] at ht
          obtain ⟨rfl, W, bW, hq1, hq2, hq3, hq4⟩ := ht
          have hRR3 := hRR2.out
          rw [if_neg hlow, if_neg hhigh] at hRR3
          have hmsg : IsMsgL (li.set d.off (valD d (rs.take z))) := set_isMsg HLI.out _ _ (fun h7 => by have := HD.out.now h7; omega)
          have HMSG := Lib.hid hmsg
          replace hRR3 := Lib.hid hRR3
          have lW := bW.size
          have b07 : b0 < gm := HA.out _ rfl
          have c0 : w7.cell? ⟨wr.heap.size, 0, none⟩ = some (.int .i64 z) := by
            rw [World.cell?_of_block (w := W) (hq2 wr.heap.size (by omega)), (K5.out.below bW).cell 0, ← ZS.out]; rfl
          replace BB := Lib.hid ((BB.out.trans (bW.mono (by omega))).trans hq4)
          replace FL := Lib.hid ((FL.out.below bW).keep hgb hq2)
          have RW7 := Lib.hid (row_under (row_drop8 (row_below RW.out bW) z) (fun a ha => by injection ha with ha; subst ha; exact b07) hq4)
          have KM7 := Lib.hid hq1
          have l7 : base ≤ w7.heap.size := by omega
          generalize valD d (rs.take z) = vv at *
          clear hlow hhigh hmsg bW hq1 hq2 hq4 hRR2 KM RW K5
          go_wp2_with fail
          refine ⟨⟨i + 1, _, k - z, e - z, li.set d.off vv, rs.drop z, by omega, by simp, rfl, by rw [List.length_drop, HRS.out], by omega, by omega, ?_, ?_, HMSG.out, KM7.out, FL.out, l7, hRR3.out, BB.out⟩, by simp [intOf]; omega⟩
          · split
            · have h0 : rs.drop z = [] := List.drop_eq_nil_of_le (by rw [HRS.out]; omega)
              rw [h0]
              exact ⟨.inl rfl, fun x hx => by cases hx⟩
            · exact RW7.out
          · intro a ha
            split at ha
            · injection ha with ha; subst ha; exact b07
            · injection ha with ha; subst ha; exact b07
    · obtain rfl : i = n := by omega
      have hdrop : ds.drop i = [] := List.drop_eq_nil_of_le (by rw [← HDS.out, List.length_map, HN.out]; omega)
      have hR := HR.out
      rw [hdrop] at hR
      simp only [takeD] at hR
      replace hR := Lib.hid hR
      have t1 : decide ((i : Int) < (i : Int)) = false := decide_eq_false (by omega)
      clear hdrop
      by_cases hk0 : k = 0
      · subst hk0
        go_wp2_with fail
        go_ret
        refine ⟨BB.out, ?_⟩
        rw [← hR.out, if_pos HRS.out]
        exact ⟨rfl, KM.out⟩
      · have t2 : ((k : Int) == 0) = false := by simp; omega
        go_wp2_with fail
        go_ret
        refine ⟨BB.out, ?_⟩
        rw [← hR.out, if_neg (by rw [HRS.out]; exact hk0)]
        rfl
end Go.Proofs.YtapednkmefbldaaDoor

/- msg.Take. -/
namespace Go.Proofs.YtapednkmefbldaaDoor
open Go.RowKit

section
variable {P : Program}
theorem run_load_blk {T : TypeId} {n g : Nat} {cs : Array Value} {w : World} (hA : AggT P T n) (hg : Blk w g cs T) (hn : cs.size = n) : (loadVar T ⟨g, 0, none⟩).run P w = .ok (.agg cs) w := by
  obtain ⟨⟨d, hu, hd⟩, hi⟩ := hA
  cases d <;> first | (cases hd; done) | exact run_loadVar_row w g T T cs (0, 0) _ hg hu rfl (by rw [hi, hn])
theorem results_ct {fn : Func} {p q : Tmp} {T : TypeId} {n : Nat} (hT : AggT P T n) (h : fn.results = #[.cell p T, .tmp q]) (tmps : Array Value) (w : World) (g : Nat) (cs : Array Value) (v : Value)
    (hp : tmps.getD p undef = .pointer (some ⟨g, 0, none⟩)) (hq : tmps.getD q undef = v) (hg : Blk w g cs T) (hn : cs.size = n) : (results fn tmps).run P w = .ok (.tuple #[.agg cs, v]) w := by
  have hp' : tmps[p]?.getD undef = .pointer (some ⟨g, 0, none⟩) := by simpa using hp
  have hq' : tmps[q]?.getD undef = v := by simpa using hq
  simp [results, h, hp', hq', asAddr, run_load_blk hT hg hn]
end
def take8 (bs : List Int) : Option (List Int) := match bs with
  | [] => none
  | k :: xs => match fieldsOf k with
    | none => none
    | some ds => takeD ds (z12 k) xs
def TakeR (bs : List Int) (w : World) (e : Ending) (w' : World) : Prop :=
  (match take8 bs with
   | none => e = .returned (.tuple #[.agg (msgV (z12 0)), .int .i64 13])
   | some l => e = .returned (.tuple #[.agg (msgV l), .int .i64 0])) ∧ Below w.heap.size w w'
set_option maxRecDepth 100000 in
set_option maxHeartbeats 3200000 in
theorem take_msg (bs : List Int) (B : Option Addr) (m c : Nat) (hm : bs.length = m) (hmc : m ≤ c) (hc : c ≤ 9223372036854775807) (w : World) (hr : Row w B bs) : Calls Tryd.prog 50 #[.slice B m c] w (TakeR bs w) := by
  cases bs with
  | nil =>
    obtain rfl : m = 0 := by rw [← hm]; rfl
    clear hr
    go_enter Tryd.func50, Tryd.ntmps50
    go_wp2_with ((with_reducible show wpList _ _ _ (⟨_, .alloc 66, _, _, _, none⟩ :: _) _ _); (with_reducible refine wpRow_alloc zeroT_msgy ?_ ?_ ?_); (· exact wanted0 rfl); (· rfl); refine Marker.mk ?_)
    refine Marker.in ?_
    have K2 := Lib.hid (Blk.new w (msgV (z12 0)) 66)
    have BB := Lib.hid (below_alloc1 w (.cells (msgV (z12 0)) 66))
    generalize w.alloc (.cells (msgV (z12 0)) 66) = w1 at *
    go_wp2_with (first | ((with_reducible show wpList _ _ _ (⟨some 10, _, _, _, _, _⟩ :: _) _ _); refine wpList_build' rfl 66 _ rfl (msgV (z12 0)) built_zero ?_) | ((with_reducible show wpList _ _ _ (⟨_, .store 66 _ _, _, _, _, none⟩ :: _) _ _); (with_reducible refine wpBlk_store (g := w.heap.size) (cs := (msgV (z12 0))) agg_msg ?_ ?_ K2 ?_ ?_ ?_ ?_); (· exact wanted0 rfl); (· exact ⟨rfl, rfl, rfl⟩); (· exact msgV_size _); (· exact msgV_size _); (· exact msgV_one _)))
    refine bodyPost_ret (v := .tuple #[.agg (msgV (z12 0)), .int .i64 13]) (results_ct agg_msg rfl _ _ w.heap.size _ _ rfl rfl (K2.out.setRow _) (msgV_size _)) rfl ⟨?_, below_setRow BB.out (by omega) _⟩
    rfl
  | cons k xs =>
    obtain ⟨b0, off, rfl, hc0⟩ : ∃ b off, B = some ⟨b, off, none⟩ ∧ w.cell? ⟨b, off, none⟩ = some (.int .u8 k) := by
      obtain ⟨h | ⟨b, off, h, hcc⟩, -⟩ := hr
      · cases h
      · exact ⟨b, off, h, hcc 0 (by simp)⟩
    have hb0 : b0 < w.heap.size := World.block_lt_of_cell? _ _ hc0
    have hkb := hr.2 k List.mem_cons_self
    obtain ⟨k0, k9⟩ := hkb
    have HR := Lib.hid hr
    have m1 : 1 ≤ m := by rw [← hm]; simp
    have HM := Lib.hid hm
    have t1 : ((m : Int) == 0) = false := by simp; omega
    clear hr hm
    go_enter Tryd.func50, Tryd.ntmps50
    go_wp2_with ((with_reducible show wpList _ _ _ (⟨_, .alloc 66, _, _, _, none⟩ :: _) _ _); (with_reducible refine wpRow_alloc zeroT_msgy ?_ ?_ ?_); (· exact wanted0 rfl); (· rfl); refine Marker.mk ?_)
    refine Marker.in ?_
    have K2 := Lib.hid (Blk.new w (msgV (z12 0)) 66)
    have BB := Lib.hid (below_alloc1 w (.cells (msgV (z12 0)) 66))
    replace HR := Lib.hid (row_below HR.out BB.out)
    have c1 : (w.alloc (.cells (msgV (z12 0)) 66)).cell? ⟨b0, off, none⟩ = some (.int .u8 k) := by rw [BB.out.cell hb0]; exact hc0
    generalize w.alloc (.cells (msgV (z12 0)) 66) = w1 at *
    clear hc0
    go_wp2_with (first | ((with_reducible show wpList _ _ _ (⟨some 15, _, _, _, _, _⟩ :: _) _ _); refine wpList_build' rfl 66 _ rfl (msgV (z12 k)) (built_msg k) ?_) | ((with_reducible show wpList _ _ _ (⟨_, .alloc 66, _, _, _, none⟩ :: _) _ _); (with_reducible refine wpRow_alloc zeroT_msgy ?_ ?_ ?_); (· exact wanted0 rfl); (· rfl); refine Marker.mk ?_))
    refine Marker.in ?_
    have l1 := K2.out.lt
    have bel := below_alloc1 w1 (.cells (msgV (z12 0)) 66)
    have K4 := Lib.hid (Blk.new w1 (msgV (z12 0)) 66)
    replace K2 := Lib.hid (K2.out.below bel)
    replace HR := Lib.hid (row_below HR.out bel)
    replace BB := Lib.hid (bt BB.out bel)
    clear bel c1
    generalize w1.alloc (.cells (msgV (z12 0)) 66) = w2 at *
    have lw := BB.out.size
    generalize hg4 : w1.heap.size = g4 at *
    clear hg4
    go_wp2_with ((with_reducible show wpList _ _ _ (⟨_, .store 66 _ _, _, _, _, none⟩ :: _) _ _); (with_reducible refine wpBlk_store (g := g4) (cs := (msgV (z12 k))) agg_msg ?_ ?_ K4 ?_ ?_ ?_ ?_); (· exact wanted0 rfl); (· exact ⟨rfl, rfl, rfl⟩); (· exact msgV_size _); (· exact msgV_size _); (· exact msgV_one _); refine Marker.mk ?_)
    refine Marker.in ?_
    have bs3 := below_setRow (g := g4) (Below.refl g4 w2) (Nat.le_refl _) (msgV (z12 k))
    replace K2 := Lib.hid (K2.out.setRow_other g4 (msgV (z12 k)) (by omega))
    replace K4 := Lib.hid (K4.out.setRow (msgV (z12 k)))
    replace BB := Lib.hid (below_setRow (g := g4) BB.out (by omega) (msgV (z12 k)))
    replace HR := Lib.hid (row_under HR.out (fun a ha => by injection ha with ha; subst ha; show b0 < g4; omega) bs3)
    clear bs3
    generalize w2.setRow g4 (msgV (z12 k)) = w3 at *
    have l3 := K4.out.lt
    go_wp2_with fail
    ((with_reducible refine (fields_any g4 (z12 k) w3 K4.out).mono ?_))
    rintro e w4 hf
    unfold FieldsAny at hf
    have hkk : (z12 k).getD 0 0 = k := rfl
    rw [hkk] at hf
    cases hfo : fieldsOf k with
    | none =>
      rw [hfo] at hf
      obtain ⟨rfl, rfl⟩ := hf
      have hp : take8 (k :: xs) = none := by unfold take8; simp only [hfo]
      replace hp := Lib.hid hp
      clear hfo hkk
      go_wp2_with (first | ((with_reducible show wpList _ _ _ (⟨some 29, _, _, _, _, _⟩ :: _) _ _); refine wpList_build' rfl 66 _ rfl (msgV (z12 0)) built_zero ?_) | ((with_reducible show wpList _ _ _ (⟨_, .store 66 _ _, _, _, _, none⟩ :: _) _ _); (with_reducible refine wpBlk_store (g := w.heap.size) (cs := (msgV (z12 0))) agg_msg ?_ ?_ K2 ?_ ?_ ?_ ?_); (· exact wanted0 rfl); (· exact ⟨rfl, rfl, rfl⟩); (· exact msgV_size _); (· exact msgV_size _); (· exact msgV_one _)))
      refine bodyPost_ret (v := .tuple #[.agg (msgV (z12 0)), .int .i64 13]) (results_ct agg_msg rfl _ _ w.heap.size _ _ rfl rfl (K2.out.setRow _) (msgV_size _)) rfl ⟨?_, below_setRow BB.out (by omega) _⟩
      rw [hp.out]
    | some ds =>
      rw [hfo] at hf
      obtain ⟨gl, cp, fs, rfl, hds, hfl, b4⟩ := hf
      have hff := fields_fine hfo
      have hd7 := (fields_good hfo).2.2.1
      have hp : take8 (k :: xs) = takeD ds (z12 k) xs := by unfold take8; simp only [hfo]
      have HP := Lib.hid hp
      have l4 := b4.size
      replace K2 := Lib.hid (K2.out.below b4)
      replace K4 := Lib.hid (K4.out.below b4)
      replace HR := Lib.hid (row_below HR.out b4)
      replace BB := Lib.hid (bt BB.out b4)
      obtain ⟨A2, hA2⟩ : ∃ A : Option Addr, A = if c = 1 then some ⟨b0, off, none⟩ else some ⟨b0, off + 1, none⟩ := ⟨_, rfl⟩
      have hx : xs.length = m - 1 := by have := HM.out; rw [List.length_cons] at this; omega
      have hrow : Row w4 A2 xs := by
        rw [hA2]
        split
        · have h0 : xs = [] := List.eq_nil_of_length_eq_zero (by omega)
          rw [h0]
          exact ⟨.inl rfl, fun x hx => by cases hx⟩
        · exact row_drop8 HR.out 1
      have hA3 : ∀ a, A2 = some a → a.block < g4 := by
        intro a ha
        rw [hA2] at ha
        split at ha
        · injection ha with ha; subst ha; show b0 < g4; omega
        · injection ha with ha; subst ha; show b0 < g4; omega
      have CT := Lib.hid (take_any fs ds hds hff ds.length (by rw [← hds, List.length_map]) (by omega) gl cp g4 w3.heap.size (z12 k) ⟨rfl, .inl rfl⟩ xs A2 (m - 1) (c - 1) hx (by omega) (by omega) w4 hrow hA3 hfl l3 l4 K4.out)
      generalize ds.length = n at *
      clear hds hfl hff hfo hkk b4 hx hrow hA3 hp
      have hA2' := hA2.symm
      replace hA2 := Lib.hid hA2
      go_wp2_with fail
      ((with_reducible refine (CT.out).mono ?_))
      rintro e' w5 ⟨b5, hpost⟩
      have k2 : Blk w5 w.heap.size (msgV (z12 0)) 66 := (b5.block _ (by omega)).trans K2.out
      replace K2 := Lib.hid k2
      replace BB := Lib.hid (BB.out.trans (b5.mono (by omega)))
      clear k2 b5 K4 CT
      cases hR : takeD ds (z12 k) xs with
      | none =>
        rw [hR] at hpost
        obtain rfl := hpost
        have HRR := Lib.hid hR
        clear hR
        go_wp2_with (first | ((with_reducible show wpList _ _ _ (⟨some 29, _, _, _, _, _⟩ :: _) _ _); refine wpList_build' rfl 66 _ rfl (msgV (z12 0)) built_zero ?_) | ((with_reducible show wpList _ _ _ (⟨_, .store 66 _ _, _, _, _, none⟩ :: _) _ _); (with_reducible refine wpBlk_store (g := w.heap.size) (cs := (msgV (z12 0))) agg_msg ?_ ?_ K2 ?_ ?_ ?_ ?_); (· exact wanted0 rfl); (· exact ⟨rfl, rfl, rfl⟩); (· exact msgV_size _); (· exact msgV_size _); (· exact msgV_one _)))
        refine bodyPost_ret (v := .tuple #[.agg (msgV (z12 0)), .int .i64 13]) (results_ct agg_msg rfl _ _ w.heap.size _ _ rfl rfl (K2.out.setRow _) (msgV_size _)) rfl ⟨?_, below_setRow BB.out (by omega) _⟩
        rw [HP.out, HRR.out]
      | some l' =>
        rw [hR] at hpost
        obtain ⟨rfl, hk4⟩ := hpost
        have HRR := Lib.hid hR
        have K4 := Lib.hid hk4
        clear hR hk4
        go_wp2_with (first | ((with_reducible show wpList _ _ _ (⟨_, .load 66 _, _, _, _, none⟩ :: _) _ _); (with_reducible refine wpBlk_load (g := g4) agg_msg ?_ ?_ K4 ?_ ?_); (· exact wanted0 rfl); (· exact ⟨rfl, rfl⟩); (· exact msgV_size _)) | ((with_reducible show wpList _ _ _ (⟨_, .store 66 _ _, _, _, _, none⟩ :: _) _ _); (with_reducible refine wpBlk_store (g := w.heap.size) (cs := (msgV l')) agg_msg ?_ ?_ K2 ?_ ?_ ?_ ?_); (· exact wanted0 rfl); (· exact ⟨rfl, rfl, rfl⟩); (· exact msgV_size _); (· exact msgV_size _); (· exact msgV_one _)))
        refine bodyPost_ret (v := .tuple #[.agg (msgV l'), .int .i64 0]) (results_ct agg_msg rfl _ _ w.heap.size _ _ rfl rfl (K2.out.setRow _) (msgV_size _)) rfl ⟨?_, below_setRow BB.out (by omega) _⟩
        rw [HP.out, HRR.out]
end Go.Proofs.YtapednkmefbldaaDoor

/- The plain law of messages put and taken. -/
namespace Go.Proofs.YtapednkmefbldaaDoor
open Go.RowKit

def refill (ds : List FD) (x l : List Int) : List Int := ds.foldl (fun l d => l.set d.off (x.getD d.off 0)) l
theorem num_be8 (n : Int) (k : Nat) (h0 : 0 ≤ n) (h1 : n < 256 ^ k) : num (be n k) = n := by
  have hb := num_bd (be n k) (be_bytes n k) k (by rw [be_len]; omega)
  rw [List.take_of_length_le (by rw [be_len]; omega)] at hb
  have e := be_num (be n k) (be_bytes n k)
  rw [be_len] at e
  exact (be_inj k _ _ hb.1 h0 hb.2 h1).1 e
theorem val_out {d : FD} (hd : d.fine) {n : Int} {bs : List Int} (h : outD d n = some bs) : valD d bs = n ∧ d.lo ≤ n ∧ n ≤ d.hi := by
  unfold outD at h
  split at h
  · cases h
  split at h
  · cases h
  rename_i h1 h2
  refine ⟨?_, by omega, by omega⟩
  unfold valD
  split at h <;> rename_i h3
  · injection h with h
    subst h
    have hn := hd.neg h3
    rw [if_pos h3]
    unfold sig
    have e := num_be8 (n % 65536) 2 (by omega) (by omega)
    rw [e]
    split <;> omega
  · injection h with h
    subst h
    rw [if_neg h3]
    have hp := hd.good.pos (by omega)
    exact num_be8 n _ (by omega) (by omega)
theorem takeD_out {ds : List FD} (hf : ∀ d ∈ ds, d.fine) {x ps : List Int} (h : outsD ds x = some ps) (l suf : List Int) : takeD ds l (ps ++ suf) = if suf.length = 0 then some (refill ds x l) else none := by
  induction ds generalizing ps l with
  | nil => injection h with h; subst h; rfl
  | cons d ds ih =>
    obtain ⟨a, b, h1, h2, rfl⟩ := outsD_cons h
    have hl := outD_len h1
    obtain ⟨v1, v2, v3⟩ := val_out (hf d List.mem_cons_self) h1
    rw [List.append_assoc]
    have et : (a ++ (b ++ suf)).take (wd d) = a := by rw [← hl]; exact List.take_left
    have ed : (a ++ (b ++ suf)).drop (wd d) = b ++ suf := by rw [← hl]; exact List.drop_left
    simp only [takeD]
    rw [if_neg (by rw [List.length_append]; omega), et, ed, v1, if_neg (by omega), if_neg (by omega)]
    exact ih (fun d h => hf d (List.mem_cons_of_mem _ h)) h2 _
theorem refill_get (ds : List FD) (x l : List Int) (hl : l.length = 12) (hd : ∀ d ∈ ds, d.off < 12) (o : Nat) : (refill ds x l).getD o 0 = if (∃ d ∈ ds, d.off = o) then x.getD o 0 else l.getD o 0 := by
  induction ds generalizing l with
  | nil => simp [refill]
  | cons d ds ih =>
    show (refill ds x (l.set d.off (x.getD d.off 0))).getD o 0 = _
    rw [ih _ (by rw [List.length_set]; exact hl) (fun d h => hd d (List.mem_cons_of_mem _ h))]
    have h12 := hd d List.mem_cons_self
    by_cases h1 : ∃ e ∈ ds, e.off = o
    · rw [if_pos h1, if_pos (by obtain ⟨e, he, hh⟩ := h1; exact ⟨e, List.mem_cons_of_mem _ he, hh⟩)]
    · rw [if_neg h1]
      by_cases h2 : d.off = o
      · subst h2
        rw [if_pos ⟨d, List.mem_cons_self, rfl⟩]
        simp [List.getD_eq_getElem?_getD, hl, h12]
      · rw [if_neg]
        · simp [List.getD_eq_getElem?_getD, List.getElem?_set_ne h2]
        · rintro ⟨e, he, hh⟩
          rcases List.mem_cons.1 he with rfl | he
          · exact h2 hh
          · exact h1 ⟨e, he, hh⟩
theorem refill_len (ds : List FD) (x l : List Int) : (refill ds x l).length = l.length := by
  induction ds generalizing l with
  | nil => rfl
  | cons d ds ih => show (refill ds x (l.set d.off _)).length = _; rw [ih]; simp
theorem refill_back {ds : List FD} (x : List Int) (hx : x.length = 12) (hd : ∀ d ∈ ds, d.off < 12) : refill ds x (zeroed ds x) = x := by
  apply list12 (by rw [refill_len, zeroed_len]; exact hx) hx
  intro o ho
  rw [refill_get ds x _ (by rw [zeroed_len]; exact hx) hd]
  by_cases h : ∃ d ∈ ds, d.off = o
  · rw [if_pos h]
  · rw [if_neg h]
    exact zeroed_get ds x o fun d hd e => h ⟨d, hd, e⟩
theorem take8_put {x p : List Int} (hx : x.length = 12) (h : put8 x = some p) : take8 p = some x := by
  obtain ⟨ds, ps, f1, o1, z1, rfl⟩ := put8_some h
  have hf := fields_fine f1
  unfold take8
  simp only [f1]
  have := takeD_out hf o1 (z12 (x.getD 0 0)) []
  rw [List.append_nil] at this
  rw [this, if_pos (show ([] : List Int).length = 0 from rfl), ← z1, refill_back x hx fun d hd => (hf d hd).good.ok.1]
theorem take8_more {x p : List Int} (h : put8 x = some p) : take8 (p ++ [0]) = none := by
  obtain ⟨ds, ps, f1, o1, z1, rfl⟩ := put8_some h
  have hf := fields_fine f1
  show take8 (x.getD 0 0 :: (ps ++ [0])) = none
  unfold take8
  simp only [f1]
  rw [takeD_out hf o1 (z12 (x.getD 0 0)) [0], if_neg (by simp)]
theorem out_val {d : FD} (hd : d.fine) {bs : List Int} (hb : ∀ x ∈ bs, 0 ≤ x ∧ x ≤ 255) (hl : bs.length = wd d) (h1 : ¬ valD d bs < d.lo) (h2 : ¬ d.hi < valD d bs) : outD d (valD d bs) = some bs := by
  unfold outD
  rw [if_neg h1, if_neg h2]
  have e := be_num bs hb
  have hn := num_bd bs hb bs.length (by omega)
  rw [List.take_length] at hn
  by_cases h3 : d.lo < 0
  · rw [if_pos h3]
    have h2' : bs.length = 2 := by rw [hl]; unfold wd; rw [if_pos h3]
    unfold valD
    rw [if_pos h3]
    rw [h2'] at e hn
    have h65 : num bs < 65536 := hn.2
    have : sig bs % 65536 = num bs := by unfold sig; split <;> omega
    rw [this, e]
  · rw [if_neg h3]
    have hk : d.size.toNat = bs.length := by rw [hl, hd.size]; simp
    unfold valD
    rw [if_neg h3, hk, e]
theorem zeroed_zero (ds : List FD) (l : List Int) (hl : l.length = 12) (hd : ∀ d ∈ ds, d.off < 12) (o : Nat) (h : ∃ d ∈ ds, d.off = o) : (zeroed ds l).getD o 0 = 0 := by
  induction ds generalizing l with
  | nil => obtain ⟨d, hd, _⟩ := h; cases hd
  | cons d ds ih =>
    show (zeroed ds (l.set d.off 0)).getD o 0 = 0
    by_cases hex : ∃ e ∈ ds, e.off = o
    · exact ih _ (by rw [List.length_set]; exact hl) (fun d h => hd d (List.mem_cons_of_mem _ h)) hex
    · rw [zeroed_get ds _ o (fun e he hh => hex ⟨e, he, hh⟩)]
      obtain ⟨e, he, heo⟩ := h
      rcases List.mem_cons.1 he with rfl | he
      · subst heo
        have h12 := hd e List.mem_cons_self
        simp [List.getD_eq_getElem?_getD, hl, h12]
      · exact absurd ⟨e, he, heo⟩ hex
theorem outsD_in {ds : List FD} {l p : List Int} (h : outsD ds l = some p) : ∀ d ∈ ds, d.lo ≤ l.getD d.off 0 ∧ l.getD d.off 0 ≤ d.hi := by
  induction ds generalizing p with
  | nil => intro d hd; cases hd
  | cons e ds ih =>
    obtain ⟨a, b, h1, h2, rfl⟩ := outsD_cons h
    intro d hd
    rcases List.mem_cons.1 hd with rfl | hd
    · unfold outD at h1
      split at h1
      · cases h1
      split at h1
      · cases h1
      omega
    · exact ih h2 d hd
theorem takeD_some {ds : List FD} (hf : ∀ d ∈ ds, d.fine) (hnd : (ds.map (·.off)).Nodup) {l xs z : List Int} (hl : l.length = 12) (hb : ∀ x ∈ xs, 0 ≤ x ∧ x ≤ 255) (h : takeD ds l xs = some z) :
    outsD ds z = some xs ∧ zeroed ds z = zeroed ds l ∧ z.length = 12 ∧ (∀ o, (∀ d ∈ ds, d.off ≠ o) → z.getD o 0 = l.getD o 0) := by
  induction ds generalizing l xs with
  | nil =>
    simp only [takeD] at h
    split at h
    · rename_i h0
      injection h with h
      subst h
      refine ⟨?_, rfl, hl, fun _ _ => rfl⟩
      rw [List.eq_nil_of_length_eq_zero h0]
      rfl
    · cases h
  | cons d ds ih =>
    simp only [takeD] at h
    split at h
    · cases h
    split at h
    · cases h
    split at h
    · cases h
    rename_i g1 g2 g3
    rw [List.map_cons, List.nodup_cons] at hnd
    have hd := hf d List.mem_cons_self
    have h12 := hd.good.ok.1
    obtain ⟨r1, r2, r3, r4⟩ := ih (fun d h => hf d (List.mem_cons_of_mem _ h)) hnd.2 (by rw [List.length_set]; exact hl) (fun x hx => hb x (List.mem_of_mem_drop hx)) h
    have hno : ∀ e ∈ ds, e.off ≠ d.off := fun e he hh => hnd.1 (by rw [← hh]; exact List.mem_map_of_mem he)
    have hz := r4 d.off hno
    have hset : (l.set d.off (valD d (xs.take (wd d)))).getD d.off 0 = valD d (xs.take (wd d)) := by simp [List.getD_eq_getElem?_getD, hl, h12]
    rw [hset] at hz
    have ho := out_val hd (fun x hx => hb x (List.mem_of_mem_take hx)) (by rw [List.length_take]; omega) g2 g3
    refine ⟨?_, ?_, r3, fun o ho' => ?_⟩
    · simp only [outsD]
      rw [hz, ho, r1]
      simp only [List.take_append_drop]
    · apply list12 (by rw [zeroed_len]; exact r3) (by rw [zeroed_len]; exact hl)
      intro o ho12
      by_cases hh : ∃ e ∈ d :: ds, e.off = o
      · have zz : ∀ l' : List Int, l'.length = 12 → (zeroed (d :: ds) l').getD o 0 = 0 := by
          intro l' hl'
          show (zeroed ds (l'.set d.off 0)).getD o 0 = 0
          obtain ⟨e, he, heo⟩ := hh
          by_cases hex : ∃ e ∈ ds, e.off = o
          · have := zeroed_zero ds (l'.set d.off 0) (by rw [List.length_set]; exact hl') (fun d h => (hf d (List.mem_cons_of_mem _ h)).good.ok.1) o hex
            exact this
          · rw [zeroed_get ds _ o (fun e he hh => hex ⟨e, he, hh⟩)]
            rcases List.mem_cons.1 he with rfl | he
            · subst heo
              simp [List.getD_eq_getElem?_getD, hl', h12]
            · exact absurd ⟨e, he, heo⟩ hex
        rw [zz z r3, zz l hl]
      · have hn : ∀ e ∈ d :: ds, e.off ≠ o := fun e he hh' => hh ⟨e, he, hh'⟩
        rw [zeroed_get _ _ o hn, zeroed_get _ _ o hn, r4 o fun e he => hn e (List.mem_cons_of_mem _ he)]
        simp [List.getD_eq_getElem?_getD, List.getElem?_set_ne (hn d List.mem_cons_self)]
    · rw [r4 o fun e he => ho' e (List.mem_cons_of_mem _ he)]
      simp [List.getD_eq_getElem?_getD, List.getElem?_set_ne (ho' d List.mem_cons_self)]
theorem fields_nodup {k : Int} {ds : List FD} (h : fieldsOf k = some ds) : (ds.map (·.off)).Nodup := by
  unfold fieldsOf at h
  repeat' split at h
  all_goals first
    | (cases h; done)
    | (injection h with h
       subst h
       decide)
theorem put8_take {bs z : List Int} (hb : ∀ x ∈ bs, 0 ≤ x ∧ x ≤ 255) (h : take8 bs = some z) : put8 z = some bs ∧ IsMsgL z := by
  unfold take8 at h
  cases bs with
  | nil => cases h
  | cons k xs =>
    simp only at h
    cases hf : fieldsOf k with
    | none => rw [hf] at h; cases h
    | some ds =>
      rw [hf] at h
      simp only at h
      have hfine := fields_fine hf
      obtain ⟨r1, r2, r3, r4⟩ := takeD_some hfine (fields_nodup hf) (show (z12 k).length = 12 from rfl) (fun x hx => hb x (List.mem_cons_of_mem _ hx)) h
      have h0 : z.getD 0 0 = k := (r4 0 fun d hd => by have := (hfine d hd).good.off1; omega).trans rfl
      have hzz : zeroed ds (z12 k) = z12 k := by
        apply list12 (by rw [zeroed_len]; rfl) rfl
        intro o ho
        by_cases hh : ∃ e ∈ ds, e.off = o
        · rw [zeroed_zero ds (z12 k) rfl (fun d h => (hfine d h).good.ok.1) o hh]
          obtain ⟨e, he, rfl⟩ := hh
          have h1 := (hfine e he).good.off1
          have ho' : e.off = 1 ∨ e.off = 2 ∨ e.off = 3 ∨ e.off = 4 ∨ e.off = 5 ∨ e.off = 6 ∨ e.off = 7 ∨ e.off = 8 ∨ e.off = 9 ∨ e.off = 10 ∨ e.off = 11 := by omega
          rcases ho' with h | h | h | h | h | h | h | h | h | h | h <;> rw [h] <;> rfl
        · exact zeroed_get ds _ o fun e he hh' => hh ⟨e, he, hh'⟩
      refine ⟨?_, r3, ?_⟩
      · unfold put8
        rw [h0, hf]
        simp only [r1]
        rw [if_pos (r2.trans hzz)]
      · by_cases hh : ∃ d ∈ ds, d.off = 7
        · obtain ⟨d, hd, h7⟩ := hh
          have hfd := hfine d hd
          have hin := outsD_in r1 d hd
          have := hfd.now h7
          rw [h7] at hin
          omega
        · left
          rw [r4 7 fun d hd e => hh ⟨d, hd, e⟩]
          rfl
end Go.Proofs.YtapednkmefbldaaDoor
