/- The plain law of messages' bytes. -/
import Derived.Test.YtakahkpogooepaaMsgS
namespace Go.Proofs.Ytakahkpogooepaa
open Go.RowKit

def wd (d : FD) : Nat := if d.lo < 0 then 2 else d.size.toNat
theorem outD_len {d : FD} {n : Int} {bs : List Int} (h : outD d n = some bs) : bs.length = wd d := by
  unfold outD at h
  unfold wd
  split at h
  · cases h
  split at h
  · cases h
  split at h <;> rename_i h3
  · injection h with h; subst h; rw [if_pos h3, be_len]
  · injection h with h; subst h; rw [if_neg h3, be_len]
theorem outD_inj {d : FD} (hd : d.good) {m n : Int} {bs : List Int} (h : outD d m = some bs) (h' : outD d n = some bs) : m = n := by
  unfold outD at h h'
  split at h
  · cases h
  split at h
  · cases h
  split at h'
  · cases h'
  split at h'
  · cases h'
  rename_i a1 a2 a3 a4
  split at h <;> rename_i h3
  · rw [if_pos h3] at h'
    injection h with h
    injection h' with h'
    have hn := hd.neg h3
    have e := (be_inj 2 (m % 65536) (n % 65536) (by omega) (by omega) (by omega) (by omega)).1 (h.trans h'.symm)
    omega
  · rw [if_neg h3] at h'
    injection h with h
    injection h' with h'
    have hp := hd.pos (by omega)
    exact (be_inj d.size.toNat m n (by omega) (by omega) (by omega) (by omega)).1 (h.trans h'.symm)
theorem outD_some {d : FD} {n : Int} (h1 : d.lo ≤ n) (h2 : n ≤ d.hi) : ∃ bs, outD d n = some bs := by
  unfold outD
  rw [if_neg (by omega), if_neg (by omega)]
  split
  · exact ⟨_, rfl⟩
  · exact ⟨_, rfl⟩
theorem outsD_cons {d : FD} {ds : List FD} {l p : List Int} (h : outsD (d :: ds) l = some p) : ∃ x y, outD d (l.getD d.off 0) = some x ∧ outsD ds l = some y ∧ p = x ++ y := by
  simp only [outsD] at h
  cases h1 : outD d (l.getD d.off 0) with
  | none => rw [h1] at h; cases h
  | some x =>
    cases h2 : outsD ds l with
    | none => rw [h1, h2] at h; cases h
    | some y =>
      rw [h1, h2] at h
      injection h with h
      exact ⟨x, y, rfl, rfl, h.symm⟩
theorem outsD_len {ds : List FD} {l p : List Int} (h : outsD ds l = some p) : p.length = (ds.map wd).sum := by
  induction ds generalizing p with
  | nil => injection h with h; subst h; rfl
  | cons d ds ih =>
    obtain ⟨x, y, h1, h2, rfl⟩ := outsD_cons h
    rw [List.length_append, outD_len h1, ih h2]
    simp
theorem outsD_inj {ds : List FD} (hg : ∀ d ∈ ds, d.good) {x y p : List Int} (h : outsD ds x = some p) (h' : outsD ds y = some p) : ∀ d ∈ ds, x.getD d.off 0 = y.getD d.off 0 := by
  induction ds generalizing p with
  | nil => intro d hd; cases hd
  | cons e ds ih =>
    obtain ⟨a, b, h1, h2, rfl⟩ := outsD_cons h
    obtain ⟨a', b', h1', h2', e'⟩ := outsD_cons h'
    obtain ⟨ea, eb⟩ := List.append_inj e' (by rw [outD_len h1, outD_len h1'])
    subst ea eb
    intro d hd
    rcases List.mem_cons.1 hd with rfl | hd
    · exact outD_inj (hg d List.mem_cons_self) h1 h1'
    · exact ih (fun d h => hg d (List.mem_cons_of_mem _ h)) h2 h2' d hd
theorem outsD_some {ds : List FD} {l : List Int} (h : ∀ d ∈ ds, d.lo ≤ l.getD d.off 0 ∧ l.getD d.off 0 ≤ d.hi) : ∃ p, outsD ds l = some p := by
  induction ds with
  | nil => exact ⟨[], rfl⟩
  | cons d ds ih =>
    obtain ⟨x, hx⟩ := outD_some (h d List.mem_cons_self).1 (h d List.mem_cons_self).2
    obtain ⟨y, hy⟩ := ih fun e he => h e (List.mem_cons_of_mem _ he)
    exact ⟨x ++ y, by simp only [outsD, hx, hy]⟩
theorem outsD_none {ds : List FD} {l : List Int} (d : FD) (hd : d ∈ ds) (h : outD d (l.getD d.off 0) = none) : outsD ds l = none := by
  cases hc : outsD ds l with
  | none => rfl
  | some p =>
    exfalso
    induction ds generalizing p with
    | nil => cases hd
    | cons e ds ih =>
      obtain ⟨x, y, h1, h2, -⟩ := outsD_cons hc
      rcases List.mem_cons.1 hd with rfl | hd
      · rw [h] at h1; cases h1
      · exact ih hd y h2
theorem put8_some {l bs : List Int} (h : put8 l = some bs) : ∃ ds ps, fieldsOf (l.getD 0 0) = some ds ∧ outsD ds l = some ps ∧ zeroed ds l = z12 (l.getD 0 0) ∧ bs = l.getD 0 0 :: ps := by
  unfold put8 at h
  cases h1 : fieldsOf (l.getD 0 0) with
  | none => rw [h1] at h; cases h
  | some ds =>
    rw [h1] at h
    simp only at h
    cases h2 : outsD ds l with
    | none => rw [h2] at h; cases h
    | some ps =>
      rw [h2] at h
      simp only at h
      split at h
      · rename_i hz
        injection h with h
        exact ⟨ds, ps, rfl, h2, hz, h.symm⟩
      · cases h
theorem list12 {x y : List Int} (hx : x.length = 12) (hy : y.length = 12) (h : ∀ o, o < 12 → x.getD o 0 = y.getD o 0) : x = y := by
  apply List.ext_getElem (by omega)
  intro i h1 h2
  have := h i (by omega)
  simpa [List.getD_eq_getElem?_getD, h1, h2] using this
theorem put8_inj {x y p : List Int} (hx : x.length = 12) (hy : y.length = 12) (h : put8 x = some p) (h' : put8 y = some p) : x = y := by
  obtain ⟨ds, ps, f1, o1, z1, rfl⟩ := put8_some h
  obtain ⟨ds', ps', f2, o2, z2, e⟩ := put8_some h'
  injection e with e1 e2
  rw [← e1] at f2
  rw [f1] at f2
  injection f2 with f2
  subst f2 e2
  obtain ⟨-, -, -, hg⟩ := fields_good f1
  have hin := outsD_inj hg o1 o2
  apply list12 hx hy
  intro o ho
  by_cases hd : ∃ d ∈ ds, d.off = o
  · obtain ⟨d, hd, rfl⟩ := hd
    exact hin d hd
  · have hn : ∀ d ∈ ds, d.off ≠ o := fun d h e => hd ⟨d, h, e⟩
    rw [← zeroed_get ds x o hn, ← zeroed_get ds y o hn, z1, z2, e1]
def szOf (k : Int) : Nat := if k = 1 ∨ k = 2 then 2 else if k = 3 ∨ k = 4 ∨ k = 8 ∨ k = 9 then 5 else if k = 5 ∨ k = 6 then 6 else if k = 7 then 7 else if k = 10 then 8 else 16
theorem fields_size {k : Int} {ds : List FD} (h : fieldsOf k = some ds) : 1 + (ds.map wd).sum = szOf k := by
  unfold fieldsOf at h
  unfold szOf
  repeat' split at h
  all_goals first
    | (cases h; done)
    | (injection h with h
       subst h
       repeat' split
       all_goals first | (exfalso; omega) | rfl | decide)
theorem put8_len {l bs : List Int} (h : put8 l = some bs) : bs.length = szOf (l.getD 0 0) := by
  obtain ⟨ds, ps, f1, o1, z1, rfl⟩ := put8_some h
  rw [List.length_cons, outsD_len o1, ← fields_size f1]
  omega
theorem put8_kind {l bs : List Int} (h : put8 l = some bs) : bs.take 1 = [l.getD 0 0] ∧ 1 ≤ l.getD 0 0 ∧ l.getD 0 0 ≤ 11 := by
  obtain ⟨ds, ps, f1, o1, z1, rfl⟩ := put8_some h
  obtain ⟨h1, h2, -, -⟩ := fields_good f1
  exact ⟨rfl, h1, h2⟩
/-- the greatest number of a field, by where it lies -/
def hi12 : List Int := [0, 4294967295, 3, 4, 65535, 4, 3, 1, 32767, 32767, 32767, 32767]
theorem fields_hi {k : Int} {ds : List FD} (h : fieldsOf k = some ds) : ∀ d ∈ ds, d.hi = hi12.getD d.off 0 := by
  unfold fieldsOf at h
  repeat' split at h
  all_goals first
    | (cases h; done)
    | (injection h with h
       subst h
       intro d hd
       simp only [List.mem_cons, List.not_mem_nil, or_false] at hd
       first
         | (subst hd; decide)
         | (rcases hd with rfl | rfl <;> decide)
         | (rcases hd with rfl | rfl | rfl <;> decide)
         | (rcases hd with rfl | rfl | rfl | rfl | rfl | rfl | rfl <;> decide))
theorem put8_bad (l : List Int) (hl : l.length = 12) (o : Nat) (h1 : 1 ≤ o) (h2 : o < 12) (v : Int) (hv : v ≠ 0) (hb : ∀ ds, fieldsOf (l.getD 0 0) = some ds → ∀ d ∈ ds, d.off = o → d.hi < v) : put8 (l.set o v) = none := by
  cases hp : put8 (l.set o v) with
  | none => rfl
  | some bs =>
    exfalso
    obtain ⟨ds, ps, f1, o1, z1, -⟩ := put8_some hp
    have e0 : (l.set o v).getD 0 0 = l.getD 0 0 := by simp [List.getD_eq_getElem?_getD, List.getElem?_set_ne (show o ≠ 0 by omega)]
    have eo : (l.set o v).getD o 0 = v := by simp [List.getD_eq_getElem?_getD, hl, h2]
    rw [e0] at f1
    by_cases hd : ∃ d ∈ ds, d.off = o
    · obtain ⟨d, hd, rfl⟩ := hd
      have hlt := hb ds f1 d hd rfl
      have : outsD ds (l.set d.off v) = none := outsD_none d hd (by
        rw [eo]
        unfold outD
        by_cases hh : v < d.lo
        · rw [if_pos hh]
        · rw [if_neg hh, if_pos hlt])
      rw [this] at o1
      cases o1
    · have hn : ∀ d ∈ ds, d.off ≠ o := fun d h e => hd ⟨d, h, e⟩
      have := zeroed_get ds (l.set o v) o hn
      rw [z1, eo] at this
      have hz : (z12 ((l.set o v).getD 0 0)).getD o 0 = 0 := by
        have ho : o = 1 ∨ o = 2 ∨ o = 3 ∨ o = 4 ∨ o = 5 ∨ o = 6 ∨ o = 7 ∨ o = 8 ∨ o = 9 ∨ o = 10 ∨ o = 11 := by omega
        rcases ho with rfl | rfl | rfl | rfl | rfl | rfl | rfl | rfl | rfl | rfl | rfl <;> rfl
      omega
theorem put8_great (l : List Int) (hl : l.length = 12) (o : Nat) (h1 : 1 ≤ o) (h2 : o < 12) (v : Int) (hv : v ≠ 0) (hb : hi12.getD o 0 < v) : put8 (l.set o v) = none :=
  put8_bad l hl o h1 h2 v hv fun ds hf d hd e => by rw [fields_hi hf d hd, e]; exact hb
theorem fields_off {k : Int} {ds : List FD} (h : fieldsOf k = some ds) : ∀ d ∈ ds, (k = 1 ∨ k = 2 → d.off ≠ 1) ∧ (¬ (k = 1 ∨ k = 2) → d.off ≠ 2) := by
  unfold fieldsOf at h
  repeat' split at h
  all_goals first
    | (cases h; done)
    | (rename_i hk
       injection h with h
       subst h
       intro d hd
       simp only [List.mem_cons, List.not_mem_nil, or_false] at hd
       refine ⟨fun hk2 => ?_, fun hk2 => ?_⟩
       all_goals first
         | (exfalso; omega)
         | (subst hd; decide)
         | (rcases hd with rfl | rfl <;> decide)
         | (rcases hd with rfl | rfl | rfl <;> decide)
         | (rcases hd with rfl | rfl | rfl | rfl | rfl | rfl | rfl <;> decide))
theorem put8_seq (l : List Int) (hl : l.length = 12) (hk : l.getD 0 0 = 1 ∨ l.getD 0 0 = 2) : put8 (l.set 1 1) = none :=
  put8_bad l hl 1 (by omega) (by omega) 1 (by omega) fun ds hf d hd e => absurd e ((fields_off hf d hd).1 hk)
theorem put8_role (l : List Int) (hl : l.length = 12) (hk : ¬ (l.getD 0 0 = 1 ∨ l.getD 0 0 = 2)) : put8 (l.set 2 1) = none :=
  put8_bad l hl 2 (by omega) (by omega) 1 (by omega) fun ds hf d hd e => absurd e ((fields_off hf d hd).2 hk)
end Go.Proofs.Ytakahkpogooepaa
