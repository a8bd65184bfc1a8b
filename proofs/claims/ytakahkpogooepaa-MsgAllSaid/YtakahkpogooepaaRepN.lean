/- The plain law of replies put and taken. -/
import Derived.Test.YtakahkpogooepaaRepM
import Derived.Test.YtakahkpogooepaaMsgN
namespace Go.Proofs.Ytakahkpogooepaa
open Go.RowKit

theorem val_outR {d : FD} (hd : d.fineR) {n : Int} {bs : List Int} (h : outD d n = some bs) : valD d bs = n ∧ d.lo ≤ n ∧ n ≤ d.hi := by
  unfold outD at h
  split at h
  · cases h
  split at h
  · cases h
  rename_i h1 h2
  refine ⟨?_, by omega, by omega⟩
  unfold valD
  split at h <;> rename_i h3
  · injection h with h
    subst h
    have hn := hd.neg h3
    rw [if_pos h3]
    unfold sig
    have e := num_be8 (n % 65536) 2 (by omega) (by omega)
    rw [e]
    split <;> omega
  · injection h with h
    subst h
    rw [if_neg h3]
    have hp := hd.good.pos (by omega)
    exact num_be8 n _ (by omega) (by omega)
theorem takeD_outR {ds : List FD} (hf : ∀ d ∈ ds, d.fineR) {x ps : List Int} (h : outsD ds x = some ps) (l suf : List Int) : takeD ds l (ps ++ suf) = if suf.length = 0 then some (refill ds x l) else none := by
  induction ds generalizing ps l with
  | nil => injection h with h; subst h; rfl
  | cons d ds ih =>
    obtain ⟨a, b, h1, h2, rfl⟩ := outsD_cons h
    have hl := outD_len h1
    obtain ⟨v1, v2, v3⟩ := val_outR (hf d List.mem_cons_self) h1
    rw [List.append_assoc]
    have et : (a ++ (b ++ suf)).take (wd d) = a := by rw [← hl]; exact List.take_left
    have ed : (a ++ (b ++ suf)).drop (wd d) = b ++ suf := by rw [← hl]; exact List.drop_left
    simp only [takeD]
    rw [if_neg (by rw [List.length_append]; omega), et, ed, v1, if_neg (by omega), if_neg (by omega)]
    exact ih (fun d h => hf d (List.mem_cons_of_mem _ h)) h2 _
theorem refill_getR (ds : List FD) (x l : List Int) (hl : l.length = 14) (hd : ∀ d ∈ ds, d.off < 14) (o : Nat) : (refill ds x l).getD o 0 = if (∃ d ∈ ds, d.off = o) then x.getD o 0 else l.getD o 0 := by
  induction ds generalizing l with
  | nil => simp [refill]
  | cons d ds ih =>
    show (refill ds x (l.set d.off (x.getD d.off 0))).getD o 0 = _
    rw [ih _ (by rw [List.length_set]; exact hl) (fun d h => hd d (List.mem_cons_of_mem _ h))]
    have h12 := hd d List.mem_cons_self
    by_cases h1 : ∃ e ∈ ds, e.off = o
    · rw [if_pos h1, if_pos (by obtain ⟨e, he, hh⟩ := h1; exact ⟨e, List.mem_cons_of_mem _ he, hh⟩)]
    · rw [if_neg h1]
      by_cases h2 : d.off = o
      · subst h2
        rw [if_pos ⟨d, List.mem_cons_self, rfl⟩]
        simp [List.getD_eq_getElem?_getD, hl, h12]
      · rw [if_neg]
        · simp [List.getD_eq_getElem?_getD, List.getElem?_set_ne h2]
        · rintro ⟨e, he, hh⟩
          rcases List.mem_cons.1 he with rfl | he
          · exact h2 hh
          · exact h1 ⟨e, he, hh⟩
theorem refill_backR {ds : List FD} (x : List Int) (hx : x.length = 14) (hd : ∀ d ∈ ds, d.off < 14) : refill ds x (zeroed ds x) = x := by
  apply list14 (by rw [refill_len, zeroed_len]; exact hx) hx
  intro o ho
  rw [refill_getR ds x _ (by rw [zeroed_len]; exact hx) hd]
  by_cases h : ∃ d ∈ ds, d.off = o
  · rw [if_pos h]
  · rw [if_neg h]
    exact zeroed_get ds x o fun d hd e => h ⟨d, hd, e⟩
theorem takeR8_put {x p : List Int} (hx : x.length = 14) (h : putR8 x = some p) : takeR8 p = some x := by
  obtain ⟨ds, ps, f1, o1, z1, rfl⟩ := putR8_some h
  have hf := replied_fine f1
  unfold takeR8
  simp only [f1]
  have := takeD_outR hf o1 (z14 (x.getD 0 0)) []
  rw [List.append_nil] at this
  rw [this, if_pos (show ([] : List Int).length = 0 from rfl), ← z1, refill_backR x hx fun d hd => (hf d hd).good.ok.1]
theorem takeD_len {ds : List FD} {l xs l' : List Int} (h : takeD ds l xs = some l') : xs.length = (ds.map wd).sum := by
  induction ds generalizing l xs with
  | nil =>
    simp only [takeD] at h
    split at h
    · rename_i h0; rw [h0]; rfl
    · cases h
  | cons d ds ih =>
    simp only [takeD] at h
    split at h
    · cases h
    split at h
    · cases h
    split at h
    · cases h
    rename_i h1 _ _
    have := ih h
    rw [List.length_drop] at this
    rw [List.map_cons, List.sum_cons]
    omega
/-- bytes of a message, or a reply, of which some are missing at the end, are none -/
theorem take8_cut {x p : List Int} (h : put8 x = some p) (m : Nat) (hm : m < p.length) : take8 (p.take m) = none := by
  obtain ⟨ds, ps, f1, o1, z1, rfl⟩ := put8_some h
  cases m with
  | zero => rfl
  | succ m =>
    rw [List.take_succ_cons]
    unfold take8
    simp only [f1]
    cases hc : takeD ds (z12 (x.getD 0 0)) (ps.take m) with
    | none => rfl
    | some l' =>
      have h1 := takeD_len hc
      rw [← outsD_len o1, List.length_take] at h1
      simp at hm
      omega
theorem takeR8_cut {x p : List Int} (h : putR8 x = some p) (m : Nat) (hm : m < p.length) : takeR8 (p.take m) = none := by
  obtain ⟨ds, ps, f1, o1, z1, rfl⟩ := putR8_some h
  cases m with
  | zero => rfl
  | succ m =>
    rw [List.take_succ_cons]
    unfold takeR8
    simp only [f1]
    cases hc : takeD ds (z14 (x.getD 0 0)) (ps.take m) with
    | none => rfl
    | some l' =>
      have h1 := takeD_len hc
      rw [← outsD_len o1, List.length_take] at h1
      simp at hm
      omega
theorem takeR8_msg {x p : List Int} (h : put8 x = some p) : takeR8 p = none := by
  obtain ⟨ds, ps, f1, o1, z1, rfl⟩ := put8_some h
  obtain ⟨h1, h2, -, -⟩ := fields_good f1
  have : repliedOf (x.getD 0 0) = none := by
    unfold repliedOf
    repeat' rw [if_neg (by omega)]
  unfold takeR8
  simp only [this]
theorem take8_rep {x p : List Int} (h : putR8 x = some p) : take8 p = none := by
  obtain ⟨ds, ps, f1, o1, z1, rfl⟩ := putR8_some h
  obtain ⟨h1, h2, -, -⟩ := replied_good f1
  have : fieldsOf (x.getD 0 0) = none := by
    unfold fieldsOf
    repeat' rw [if_neg (by omega)]
  unfold take8
  simp only [this]
theorem szR_bound (k : Int) : 3 ≤ szR k ∧ szR k ≤ 9 := by
  unfold szR
  repeat' split
  all_goals omega
theorem out_valR {d : FD} (hd : d.fineR) {bs : List Int} (hb : ∀ x ∈ bs, 0 ≤ x ∧ x ≤ 255) (hl : bs.length = wd d) (h1 : ¬ valD d bs < d.lo) (h2 : ¬ d.hi < valD d bs) : outD d (valD d bs) = some bs := by
  unfold outD
  rw [if_neg h1, if_neg h2]
  have e := be_num bs hb
  have hn := num_bd bs hb bs.length (by omega)
  rw [List.take_length] at hn
  by_cases h3 : d.lo < 0
  · rw [if_pos h3]
    have h2' : bs.length = 2 := by rw [hl]; unfold wd; rw [if_pos h3]
    unfold valD
    rw [if_pos h3]
    rw [h2'] at e hn
    have h65 : num bs < 65536 := hn.2
    have : sig bs % 65536 = num bs := by unfold sig; split <;> omega
    rw [this, e]
  · rw [if_neg h3]
    have hk : d.size.toNat = bs.length := by rw [hl, hd.size]; simp
    unfold valD
    rw [if_neg h3, hk, e]
theorem zeroed_zeroR (ds : List FD) (l : List Int) (hl : l.length = 14) (hd : ∀ d ∈ ds, d.off < 14) (o : Nat) (h : ∃ d ∈ ds, d.off = o) : (zeroed ds l).getD o 0 = 0 := by
  induction ds generalizing l with
  | nil => obtain ⟨d, hd, _⟩ := h; cases hd
  | cons d ds ih =>
    show (zeroed ds (l.set d.off 0)).getD o 0 = 0
    by_cases hex : ∃ e ∈ ds, e.off = o
    · exact ih _ (by rw [List.length_set]; exact hl) (fun d h => hd d (List.mem_cons_of_mem _ h)) hex
    · rw [zeroed_get ds _ o (fun e he hh => hex ⟨e, he, hh⟩)]
      obtain ⟨e, he, heo⟩ := h
      rcases List.mem_cons.1 he with rfl | he
      · subst heo
        have h12 := hd e List.mem_cons_self
        simp [List.getD_eq_getElem?_getD, hl, h12]
      · exact absurd ⟨e, he, heo⟩ hex
theorem outsD_inR {ds : List FD} {l p : List Int} (h : outsD ds l = some p) : ∀ d ∈ ds, d.lo ≤ l.getD d.off 0 ∧ l.getD d.off 0 ≤ d.hi := by
  induction ds generalizing p with
  | nil => intro d hd; cases hd
  | cons e ds ih =>
    obtain ⟨a, b, h1, h2, rfl⟩ := outsD_cons h
    intro d hd
    rcases List.mem_cons.1 hd with rfl | hd
    · unfold outD at h1
      split at h1
      · cases h1
      split at h1
      · cases h1
      omega
    · exact ih h2 d hd
theorem takeD_someR {ds : List FD} (hf : ∀ d ∈ ds, d.fineR) (hnd : (ds.map (·.off)).Nodup) {l xs z : List Int} (hl : l.length = 14) (hb : ∀ x ∈ xs, 0 ≤ x ∧ x ≤ 255) (h : takeD ds l xs = some z) :
    outsD ds z = some xs ∧ zeroed ds z = zeroed ds l ∧ z.length = 14 ∧ (∀ o, (∀ d ∈ ds, d.off ≠ o) → z.getD o 0 = l.getD o 0) := by
  induction ds generalizing l xs with
  | nil =>
    simp only [takeD] at h
    split at h
    · rename_i h0
      injection h with h
      subst h
      refine ⟨?_, rfl, hl, fun _ _ => rfl⟩
      rw [List.eq_nil_of_length_eq_zero h0]
      rfl
    · cases h
  | cons d ds ih =>
    simp only [takeD] at h
    split at h
    · cases h
    split at h
    · cases h
    split at h
    · cases h
    rename_i g1 g2 g3
    rw [List.map_cons, List.nodup_cons] at hnd
    have hd := hf d List.mem_cons_self
    have h12 := hd.good.ok.1
    obtain ⟨r1, r2, r3, r4⟩ := ih (fun d h => hf d (List.mem_cons_of_mem _ h)) hnd.2 (by rw [List.length_set]; exact hl) (fun x hx => hb x (List.mem_of_mem_drop hx)) h
    have hno : ∀ e ∈ ds, e.off ≠ d.off := fun e he hh => hnd.1 (by rw [← hh]; exact List.mem_map_of_mem he)
    have hz := r4 d.off hno
    have hset : (l.set d.off (valD d (xs.take (wd d)))).getD d.off 0 = valD d (xs.take (wd d)) := by simp [List.getD_eq_getElem?_getD, hl, h12]
    rw [hset] at hz
    have ho := out_valR hd (fun x hx => hb x (List.mem_of_mem_take hx)) (by rw [List.length_take]; omega) g2 g3
    refine ⟨?_, ?_, r3, fun o ho' => ?_⟩
    · simp only [outsD]
      rw [hz, ho, r1]
      simp only [List.take_append_drop]
    · apply list14 (by rw [zeroed_len]; exact r3) (by rw [zeroed_len]; exact hl)
      intro o ho12
      by_cases hh : ∃ e ∈ d :: ds, e.off = o
      · have zz : ∀ l' : List Int, l'.length = 14 → (zeroed (d :: ds) l').getD o 0 = 0 := by
          intro l' hl'
          show (zeroed ds (l'.set d.off 0)).getD o 0 = 0
          obtain ⟨e, he, heo⟩ := hh
          by_cases hex : ∃ e ∈ ds, e.off = o
          · have := zeroed_zeroR ds (l'.set d.off 0) (by rw [List.length_set]; exact hl') (fun d h => (hf d (List.mem_cons_of_mem _ h)).good.ok.1) o hex
            exact this
          · rw [zeroed_get ds _ o (fun e he hh => hex ⟨e, he, hh⟩)]
            rcases List.mem_cons.1 he with rfl | he
            · subst heo
              simp [List.getD_eq_getElem?_getD, hl', h12]
            · exact absurd ⟨e, he, heo⟩ hex
        rw [zz z r3, zz l hl]
      · have hn : ∀ e ∈ d :: ds, e.off ≠ o := fun e he hh' => hh ⟨e, he, hh'⟩
        rw [zeroed_get _ _ o hn, zeroed_get _ _ o hn, r4 o fun e he => hn e (List.mem_cons_of_mem _ he)]
        simp [List.getD_eq_getElem?_getD, List.getElem?_set_ne (hn d List.mem_cons_self)]
    · rw [r4 o fun e he => ho' e (List.mem_cons_of_mem _ he)]
      simp [List.getD_eq_getElem?_getD, List.getElem?_set_ne (ho' d List.mem_cons_self)]
theorem replied_nodup {k : Int} {ds : List FD} (h : repliedOf k = some ds) : (ds.map (·.off)).Nodup := by
  unfold repliedOf at h
  repeat' split at h
  all_goals first
    | (cases h; done)
    | (injection h with h
       subst h
       decide)
theorem putR8_take {bs z : List Int} (hb : ∀ x ∈ bs, 0 ≤ x ∧ x ≤ 255) (h : takeR8 bs = some z) : putR8 z = some bs ∧ IsRepL z := by
  unfold takeR8 at h
  cases bs with
  | nil => cases h
  | cons k xs =>
    simp only at h
    cases hf : repliedOf k with
    | none => rw [hf] at h; cases h
    | some ds =>
      rw [hf] at h
      simp only at h
      have hfine := replied_fine hf
      obtain ⟨r1, r2, r3, r4⟩ := takeD_someR hfine (replied_nodup hf) (show (z14 k).length = 14 from rfl) (fun x hx => hb x (List.mem_cons_of_mem _ hx)) h
      have h0 : z.getD 0 0 = k := (r4 0 fun d hd => by have := (hfine d hd).good.off1; omega).trans rfl
      have hzz : zeroed ds (z14 k) = z14 k := by
        apply list14 (by rw [zeroed_len]; rfl) rfl
        intro o ho
        by_cases hh : ∃ e ∈ ds, e.off = o
        · rw [zeroed_zeroR ds (z14 k) rfl (fun d h => (hfine d h).good.ok.1) o hh]
          obtain ⟨e, he, rfl⟩ := hh
          have h1 := (hfine e he).good.off1
          have ho' : e.off = 1 ∨ e.off = 2 ∨ e.off = 3 ∨ e.off = 4 ∨ e.off = 5 ∨ e.off = 6 ∨ e.off = 7 ∨ e.off = 8 ∨ e.off = 9 ∨ e.off = 10 ∨ e.off = 11 ∨ e.off = 12 ∨ e.off = 13 := by omega
          rcases ho' with h | h | h | h | h | h | h | h | h | h | h | h | h <;> rw [h] <;> rfl
        · exact zeroed_get ds _ o fun e he hh' => hh ⟨e, he, hh'⟩
      refine ⟨?_, r3, ?_⟩
      · unfold putR8
        rw [h0, hf]
        simp only [r1]
        rw [if_pos (r2.trans hzz)]
      · intro i h6 h14
        by_cases hh : ∃ d ∈ ds, d.off = i
        · obtain ⟨d, hd, rfl⟩ := hh
          have hfd := hfine d hd
          have hin := outsD_inR r1 d hd
          have := hfd.oct (hfd.good.ok.2.2.2 h6)
          omega
        · have h1 := r4 i fun d hd e => hh ⟨d, hd, e⟩
          rw [h1]
          exact (isRep_z14 k).2 i h6 h14
end Go.Proofs.Ytakahkpogooepaa
