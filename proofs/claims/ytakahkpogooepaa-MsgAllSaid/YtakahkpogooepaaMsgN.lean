/- The plain law of messages put and taken. -/
import Derived.Test.YtakahkpogooepaaMsgM
namespace Go.Proofs.Ytakahkpogooepaa
open Go.RowKit

def refill (ds : List FD) (x l : List Int) : List Int := ds.foldl (fun l d => l.set d.off (x.getD d.off 0)) l
theorem num_be8 (n : Int) (k : Nat) (h0 : 0 ≤ n) (h1 : n < 256 ^ k) : num (be n k) = n := by
  have hb := num_bd (be n k) (be_bytes n k) k (by rw [be_len]; omega)
  rw [List.take_of_length_le (by rw [be_len]; omega)] at hb
  have e := be_num (be n k) (be_bytes n k)
  rw [be_len] at e
  exact (be_inj k _ _ hb.1 h0 hb.2 h1).1 e
theorem val_out {d : FD} (hd : d.fine) {n : Int} {bs : List Int} (h : outD d n = some bs) : valD d bs = n ∧ d.lo ≤ n ∧ n ≤ d.hi := by
  unfold outD at h
  split at h
  · cases h
  split at h
  · cases h
  rename_i h1 h2
  refine ⟨?_, by omega, by omega⟩
  unfold valD
  split at h <;> rename_i h3
  · injection h with h
    subst h
    have hn := hd.neg h3
    rw [if_pos h3]
    unfold sig
    have e := num_be8 (n % 65536) 2 (by omega) (by omega)
    rw [e]
    split <;> omega
  · injection h with h
    subst h
    rw [if_neg h3]
    have hp := hd.good.pos (by omega)
    exact num_be8 n _ (by omega) (by omega)
theorem takeD_out {ds : List FD} (hf : ∀ d ∈ ds, d.fine) {x ps : List Int} (h : outsD ds x = some ps) (l suf : List Int) : takeD ds l (ps ++ suf) = if suf.length = 0 then some (refill ds x l) else none := by
  induction ds generalizing ps l with
  | nil => injection h with h; subst h; rfl
  | cons d ds ih =>
    obtain ⟨a, b, h1, h2, rfl⟩ := outsD_cons h
    have hl := outD_len h1
    obtain ⟨v1, v2, v3⟩ := val_out (hf d List.mem_cons_self) h1
    rw [List.append_assoc]
    have et : (a ++ (b ++ suf)).take (wd d) = a := by rw [← hl]; exact List.take_left
    have ed : (a ++ (b ++ suf)).drop (wd d) = b ++ suf := by rw [← hl]; exact List.drop_left
    simp only [takeD]
    rw [if_neg (by rw [List.length_append]; omega), et, ed, v1, if_neg (by omega), if_neg (by omega)]
    exact ih (fun d h => hf d (List.mem_cons_of_mem _ h)) h2 _
theorem refill_get (ds : List FD) (x l : List Int) (hl : l.length = 12) (hd : ∀ d ∈ ds, d.off < 12) (o : Nat) : (refill ds x l).getD o 0 = if (∃ d ∈ ds, d.off = o) then x.getD o 0 else l.getD o 0 := by
  induction ds generalizing l with
  | nil => simp [refill]
  | cons d ds ih =>
    show (refill ds x (l.set d.off (x.getD d.off 0))).getD o 0 = _
    rw [ih _ (by rw [List.length_set]; exact hl) (fun d h => hd d (List.mem_cons_of_mem _ h))]
    have h12 := hd d List.mem_cons_self
    by_cases h1 : ∃ e ∈ ds, e.off = o
    · rw [if_pos h1, if_pos (by obtain ⟨e, he, hh⟩ := h1; exact ⟨e, List.mem_cons_of_mem _ he, hh⟩)]
    · rw [if_neg h1]
      by_cases h2 : d.off = o
      · subst h2
        rw [if_pos ⟨d, List.mem_cons_self, rfl⟩]
        simp [List.getD_eq_getElem?_getD, hl, h12]
      · rw [if_neg]
        · simp [List.getD_eq_getElem?_getD, List.getElem?_set_ne h2]
        · rintro ⟨e, he, hh⟩
          rcases List.mem_cons.1 he with rfl | he
          · exact h2 hh
          · exact h1 ⟨e, he, hh⟩
theorem refill_len (ds : List FD) (x l : List Int) : (refill ds x l).length = l.length := by
  induction ds generalizing l with
  | nil => rfl
  | cons d ds ih => show (refill ds x (l.set d.off _)).length = _; rw [ih]; simp
theorem refill_back {ds : List FD} (x : List Int) (hx : x.length = 12) (hd : ∀ d ∈ ds, d.off < 12) : refill ds x (zeroed ds x) = x := by
  apply list12 (by rw [refill_len, zeroed_len]; exact hx) hx
  intro o ho
  rw [refill_get ds x _ (by rw [zeroed_len]; exact hx) hd]
  by_cases h : ∃ d ∈ ds, d.off = o
  · rw [if_pos h]
  · rw [if_neg h]
    exact zeroed_get ds x o fun d hd e => h ⟨d, hd, e⟩
theorem take8_put {x p : List Int} (hx : x.length = 12) (h : put8 x = some p) : take8 p = some x := by
  obtain ⟨ds, ps, f1, o1, z1, rfl⟩ := put8_some h
  have hf := fields_fine f1
  unfold take8
  simp only [f1]
  have := takeD_out hf o1 (z12 (x.getD 0 0)) []
  rw [List.append_nil] at this
  rw [this, if_pos (show ([] : List Int).length = 0 from rfl), ← z1, refill_back x hx fun d hd => (hf d hd).good.ok.1]
theorem take8_more {x p : List Int} (h : put8 x = some p) : take8 (p ++ [0]) = none := by
  obtain ⟨ds, ps, f1, o1, z1, rfl⟩ := put8_some h
  have hf := fields_fine f1
  show take8 (x.getD 0 0 :: (ps ++ [0])) = none
  unfold take8
  simp only [f1]
  rw [takeD_out hf o1 (z12 (x.getD 0 0)) [0], if_neg (by simp)]
theorem out_val {d : FD} (hd : d.fine) {bs : List Int} (hb : ∀ x ∈ bs, 0 ≤ x ∧ x ≤ 255) (hl : bs.length = wd d) (h1 : ¬ valD d bs < d.lo) (h2 : ¬ d.hi < valD d bs) : outD d (valD d bs) = some bs := by
  unfold outD
  rw [if_neg h1, if_neg h2]
  have e := be_num bs hb
  have hn := num_bd bs hb bs.length (by omega)
  rw [List.take_length] at hn
  by_cases h3 : d.lo < 0
  · rw [if_pos h3]
    have h2' : bs.length = 2 := by rw [hl]; unfold wd; rw [if_pos h3]
    unfold valD
    rw [if_pos h3]
    rw [h2'] at e hn
    have h65 : num bs < 65536 := hn.2
    have : sig bs % 65536 = num bs := by unfold sig; split <;> omega
    rw [this, e]
  · rw [if_neg h3]
    have hk : d.size.toNat = bs.length := by rw [hl, hd.size]; simp
    unfold valD
    rw [if_neg h3, hk, e]
theorem zeroed_zero (ds : List FD) (l : List Int) (hl : l.length = 12) (hd : ∀ d ∈ ds, d.off < 12) (o : Nat) (h : ∃ d ∈ ds, d.off = o) : (zeroed ds l).getD o 0 = 0 := by
  induction ds generalizing l with
  | nil => obtain ⟨d, hd, _⟩ := h; cases hd
  | cons d ds ih =>
    show (zeroed ds (l.set d.off 0)).getD o 0 = 0
    by_cases hex : ∃ e ∈ ds, e.off = o
    · exact ih _ (by rw [List.length_set]; exact hl) (fun d h => hd d (List.mem_cons_of_mem _ h)) hex
    · rw [zeroed_get ds _ o (fun e he hh => hex ⟨e, he, hh⟩)]
      obtain ⟨e, he, heo⟩ := h
      rcases List.mem_cons.1 he with rfl | he
      · subst heo
        have h12 := hd e List.mem_cons_self
        simp [List.getD_eq_getElem?_getD, hl, h12]
      · exact absurd ⟨e, he, heo⟩ hex
theorem outsD_in {ds : List FD} {l p : List Int} (h : outsD ds l = some p) : ∀ d ∈ ds, d.lo ≤ l.getD d.off 0 ∧ l.getD d.off 0 ≤ d.hi := by
  induction ds generalizing p with
  | nil => intro d hd; cases hd
  | cons e ds ih =>
    obtain ⟨a, b, h1, h2, rfl⟩ := outsD_cons h
    intro d hd
    rcases List.mem_cons.1 hd with rfl | hd
    · unfold outD at h1
      split at h1
      · cases h1
      split at h1
      · cases h1
      omega
    · exact ih h2 d hd
theorem takeD_some {ds : List FD} (hf : ∀ d ∈ ds, d.fine) (hnd : (ds.map (·.off)).Nodup) {l xs z : List Int} (hl : l.length = 12) (hb : ∀ x ∈ xs, 0 ≤ x ∧ x ≤ 255) (h : takeD ds l xs = some z) :
    outsD ds z = some xs ∧ zeroed ds z = zeroed ds l ∧ z.length = 12 ∧ (∀ o, (∀ d ∈ ds, d.off ≠ o) → z.getD o 0 = l.getD o 0) := by
  induction ds generalizing l xs with
  | nil =>
    simp only [takeD] at h
    split at h
    · rename_i h0
      injection h with h
      subst h
      refine ⟨?_, rfl, hl, fun _ _ => rfl⟩
      rw [List.eq_nil_of_length_eq_zero h0]
      rfl
    · cases h
  | cons d ds ih =>
    simp only [takeD] at h
    split at h
    · cases h
    split at h
    · cases h
    split at h
    · cases h
    rename_i g1 g2 g3
    rw [List.map_cons, List.nodup_cons] at hnd
    have hd := hf d List.mem_cons_self
    have h12 := hd.good.ok.1
    obtain ⟨r1, r2, r3, r4⟩ := ih (fun d h => hf d (List.mem_cons_of_mem _ h)) hnd.2 (by rw [List.length_set]; exact hl) (fun x hx => hb x (List.mem_of_mem_drop hx)) h
    have hno : ∀ e ∈ ds, e.off ≠ d.off := fun e he hh => hnd.1 (by rw [← hh]; exact List.mem_map_of_mem he)
    have hz := r4 d.off hno
    have hset : (l.set d.off (valD d (xs.take (wd d)))).getD d.off 0 = valD d (xs.take (wd d)) := by simp [List.getD_eq_getElem?_getD, hl, h12]
    rw [hset] at hz
    have ho := out_val hd (fun x hx => hb x (List.mem_of_mem_take hx)) (by rw [List.length_take]; omega) g2 g3
    refine ⟨?_, ?_, r3, fun o ho' => ?_⟩
    · simp only [outsD]
      rw [hz, ho, r1]
      simp only [List.take_append_drop]
    · apply list12 (by rw [zeroed_len]; exact r3) (by rw [zeroed_len]; exact hl)
      intro o ho12
      by_cases hh : ∃ e ∈ d :: ds, e.off = o
      · have zz : ∀ l' : List Int, l'.length = 12 → (zeroed (d :: ds) l').getD o 0 = 0 := by
          intro l' hl'
          show (zeroed ds (l'.set d.off 0)).getD o 0 = 0
          obtain ⟨e, he, heo⟩ := hh
          by_cases hex : ∃ e ∈ ds, e.off = o
          · have := zeroed_zero ds (l'.set d.off 0) (by rw [List.length_set]; exact hl') (fun d h => (hf d (List.mem_cons_of_mem _ h)).good.ok.1) o hex
            exact this
          · rw [zeroed_get ds _ o (fun e he hh => hex ⟨e, he, hh⟩)]
            rcases List.mem_cons.1 he with rfl | he
            · subst heo
              simp [List.getD_eq_getElem?_getD, hl', h12]
            · exact absurd ⟨e, he, heo⟩ hex
        rw [zz z r3, zz l hl]
      · have hn : ∀ e ∈ d :: ds, e.off ≠ o := fun e he hh' => hh ⟨e, he, hh'⟩
        rw [zeroed_get _ _ o hn, zeroed_get _ _ o hn, r4 o fun e he => hn e (List.mem_cons_of_mem _ he)]
        simp [List.getD_eq_getElem?_getD, List.getElem?_set_ne (hn d List.mem_cons_self)]
    · rw [r4 o fun e he => ho' e (List.mem_cons_of_mem _ he)]
      simp [List.getD_eq_getElem?_getD, List.getElem?_set_ne (ho' d List.mem_cons_self)]
theorem fields_nodup {k : Int} {ds : List FD} (h : fieldsOf k = some ds) : (ds.map (·.off)).Nodup := by
  unfold fieldsOf at h
  repeat' split at h
  all_goals first
    | (cases h; done)
    | (injection h with h
       subst h
       decide)
theorem put8_take {bs z : List Int} (hb : ∀ x ∈ bs, 0 ≤ x ∧ x ≤ 255) (h : take8 bs = some z) : put8 z = some bs ∧ IsMsgL z := by
  unfold take8 at h
  cases bs with
  | nil => cases h
  | cons k xs =>
    simp only at h
    cases hf : fieldsOf k with
    | none => rw [hf] at h; cases h
    | some ds =>
      rw [hf] at h
      simp only at h
      have hfine := fields_fine hf
      obtain ⟨r1, r2, r3, r4⟩ := takeD_some hfine (fields_nodup hf) (show (z12 k).length = 12 from rfl) (fun x hx => hb x (List.mem_cons_of_mem _ hx)) h
      have h0 : z.getD 0 0 = k := (r4 0 fun d hd => by have := (hfine d hd).good.off1; omega).trans rfl
      have hzz : zeroed ds (z12 k) = z12 k := by
        apply list12 (by rw [zeroed_len]; rfl) rfl
        intro o ho
        by_cases hh : ∃ e ∈ ds, e.off = o
        · rw [zeroed_zero ds (z12 k) rfl (fun d h => (hfine d h).good.ok.1) o hh]
          obtain ⟨e, he, rfl⟩ := hh
          have h1 := (hfine e he).good.off1
          have ho' : e.off = 1 ∨ e.off = 2 ∨ e.off = 3 ∨ e.off = 4 ∨ e.off = 5 ∨ e.off = 6 ∨ e.off = 7 ∨ e.off = 8 ∨ e.off = 9 ∨ e.off = 10 ∨ e.off = 11 := by omega
          rcases ho' with h | h | h | h | h | h | h | h | h | h | h <;> rw [h] <;> rfl
        · exact zeroed_get ds _ o fun e he hh' => hh ⟨e, he, hh'⟩
      refine ⟨?_, r3, ?_⟩
      · unfold put8
        rw [h0, hf]
        simp only [r1]
        rw [if_pos (r2.trans hzz)]
      · by_cases hh : ∃ d ∈ ds, d.off = 7
        · obtain ⟨d, hd, h7⟩ := hh
          have hfd := hfine d hd
          have hin := outsD_in r1 d hd
          have := hfd.now h7
          rw [h7] at hin
          omega
        · left
          rw [r4 7 fun d hd e => hh ⟨d, hd, e⟩]
          rfl
end Go.Proofs.Ytakahkpogooepaa
