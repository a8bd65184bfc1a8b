/- The plain law of replies' bytes. -/
import Derived.Test.YtakahkpogooepaaRepV
import Derived.Test.YtakahkpogooepaaMsgX
namespace Go.Proofs.Ytakahkpogooepaa
open Go.RowKit

theorem outD_injR {d : FD} (hd : d.goodR) {m n : Int} {bs : List Int} (h : outD d m = some bs) (h' : outD d n = some bs) : m = n := by
  unfold outD at h h'
  split at h
  · cases h
  split at h
  · cases h
  split at h'
  · cases h'
  split at h'
  · cases h'
  rename_i a1 a2 a3 a4
  split at h <;> rename_i h3
  · rw [if_pos h3] at h'
    injection h with h
    injection h' with h'
    have hn := hd.neg h3
    have e := (be_inj 2 (m % 65536) (n % 65536) (by omega) (by omega) (by omega) (by omega)).1 (h.trans h'.symm)
    omega
  · rw [if_neg h3] at h'
    injection h with h
    injection h' with h'
    have hp := hd.pos (by omega)
    exact (be_inj d.size.toNat m n (by omega) (by omega) (by omega) (by omega)).1 (h.trans h'.symm)
theorem outsD_injR {ds : List FD} (hg : ∀ d ∈ ds, d.goodR) {x y p : List Int} (h : outsD ds x = some p) (h' : outsD ds y = some p) : ∀ d ∈ ds, x.getD d.off 0 = y.getD d.off 0 := by
  induction ds generalizing p with
  | nil => intro d hd; cases hd
  | cons e ds ih =>
    obtain ⟨a, b, h1, h2, rfl⟩ := outsD_cons h
    obtain ⟨a', b', h1', h2', e'⟩ := outsD_cons h'
    obtain ⟨ea, eb⟩ := List.append_inj e' (by rw [outD_len h1, outD_len h1'])
    subst ea eb
    intro d hd
    rcases List.mem_cons.1 hd with rfl | hd
    · exact outD_injR (hg d List.mem_cons_self) h1 h1'
    · exact ih (fun d h => hg d (List.mem_cons_of_mem _ h)) h2 h2' d hd
theorem putR8_some {l bs : List Int} (h : putR8 l = some bs) : ∃ ds ps, repliedOf (l.getD 0 0) = some ds ∧ outsD ds l = some ps ∧ zeroed ds l = z14 (l.getD 0 0) ∧ bs = l.getD 0 0 :: ps := by
  unfold putR8 at h
  cases h1 : repliedOf (l.getD 0 0) with
  | none => rw [h1] at h; cases h
  | some ds =>
    rw [h1] at h
    simp only at h
    cases h2 : outsD ds l with
    | none => rw [h2] at h; cases h
    | some ps =>
      rw [h2] at h
      simp only at h
      split at h
      · rename_i hz
        injection h with h
        exact ⟨ds, ps, rfl, h2, hz, h.symm⟩
      · cases h
theorem list14 {x y : List Int} (hx : x.length = 14) (hy : y.length = 14) (h : ∀ o, o < 14 → x.getD o 0 = y.getD o 0) : x = y := by
  apply List.ext_getElem (by omega)
  intro i h1 h2
  have := h i (by omega)
  simpa [List.getD_eq_getElem?_getD, h1, h2] using this
theorem putR8_inj {x y p : List Int} (hx : x.length = 14) (hy : y.length = 14) (h : putR8 x = some p) (h' : putR8 y = some p) : x = y := by
  obtain ⟨ds, ps, f1, o1, z1, rfl⟩ := putR8_some h
  obtain ⟨ds', ps', f2, o2, z2, e⟩ := putR8_some h'
  injection e with e1 e2
  rw [← e1] at f2
  rw [f1] at f2
  injection f2 with f2
  subst f2 e2
  obtain ⟨-, -, -, hg⟩ := replied_good f1
  have hin := outsD_injR hg o1 o2
  apply list14 hx hy
  intro o ho
  by_cases hd : ∃ d ∈ ds, d.off = o
  · obtain ⟨d, hd, rfl⟩ := hd
    exact hin d hd
  · have hn : ∀ d ∈ ds, d.off ≠ o := fun d h e => hd ⟨d, h, e⟩
    rw [← zeroed_get ds x o hn, ← zeroed_get ds y o hn, z1, z2, e1]
def szR (k : Int) : Nat := if k = 129 then 9 else if k = 130 then 5 else if k = 131 then 5 else if k = 132 then 6 else if k = 133 then 3 else if k = 134 ∨ k = 135 then 4 else 3
theorem replied_size {k : Int} {ds : List FD} (h : repliedOf k = some ds) : 1 + (ds.map wd).sum = szR k := by
  unfold repliedOf at h
  unfold szR
  repeat' split at h
  all_goals first
    | (cases h; done)
    | (injection h with h
       subst h
       repeat' split
       all_goals first | (exfalso; omega) | rfl | decide)
theorem putR8_len {l bs : List Int} (h : putR8 l = some bs) : bs.length = szR (l.getD 0 0) := by
  obtain ⟨ds, ps, f1, o1, z1, rfl⟩ := putR8_some h
  rw [List.length_cons, outsD_len o1, ← replied_size f1]
  omega
theorem putR8_kind {l bs : List Int} (h : putR8 l = some bs) : bs.take 1 = [l.getD 0 0] ∧ 129 ≤ l.getD 0 0 ∧ l.getD 0 0 ≤ 136 := by
  obtain ⟨ds, ps, f1, o1, z1, rfl⟩ := putR8_some h
  obtain ⟨h1, h2, -, -⟩ := replied_good f1
  exact ⟨rfl, h1, h2⟩
theorem putR8_replies (k s r t e c n0 n1 n2 n3 n4 n5 n6 n7 : Int) (hk : 129 ≤ k ∧ k ≤ 136) (hs : 0 ≤ s ∧ s ≤ 4294967295) (hr : 0 ≤ r ∧ r ≤ 3) (ht : 0 ≤ t ∧ t ≤ 4) (he : 0 ≤ e ∧ e ≤ 65535) (hc : 0 ≤ c ∧ c ≤ 255) (h0 : 0 ≤ n0 ∧ n0 ≤ 255) (h1 : 0 ≤ n1 ∧ n1 ≤ 255) (h2 : 0 ≤ n2 ∧ n2 ≤ 255) (h3 : 0 ≤ n3 ∧ n3 ≤ 255) (h4 : 0 ≤ n4 ∧ n4 ≤ 255) (h5 : 0 ≤ n5 ∧ n5 ≤ 255) (h6 : 0 ≤ n6 ∧ n6 ≤ 255) (h7 : 0 ≤ n7 ∧ n7 ≤ 255) :
    (∃ bs, putR8 (replies14 k s r t e c n0 n1 n2 n3 n4 n5 n6 n7) = some bs) ∧ (replies14 k s r t e c n0 n1 n2 n3 n4 n5 n6 n7).getD 0 0 = k := by
  have fin : ∀ (k : Int) (ds : List FD) (l : List Int), repliedOf k = some ds → l.getD 0 0 = k → zeroed ds l = z14 k → (∀ d ∈ ds, d.lo ≤ l.getD d.off 0 ∧ l.getD d.off 0 ≤ d.hi) → (∃ bs, putR8 l = some bs) ∧ l.getD 0 0 = k := by
    intro k ds l hf hk hz hb
    obtain ⟨p, hp⟩ := outsD_some hb
    refine ⟨⟨k :: p, ?_⟩, hk⟩
    unfold putR8
    rw [hk, hf]
    simp only [hp]
    rw [if_pos hz]
  have h : k = 129 ∨ k = 130 ∨ k = 131 ∨ k = 132 ∨ k = 133 ∨ k = 134 ∨ k = 135 ∨ k = 136 := by omega
  rcases h with rfl | rfl | rfl | rfl | rfl | rfl | rfl | rfl
  · refine fin 129 _ _ rfl rfl rfl ?_
    intro d hd
    simp only [List.mem_cons, List.not_mem_nil, or_false] at hd
    rcases hd with rfl | rfl | rfl | rfl | rfl | rfl | rfl | rfl
    · exact h0
    · exact h1
    · exact h2
    · exact h3
    · exact h4
    · exact h5
    · exact h6
    · exact h7
  · refine fin 130 _ _ rfl rfl rfl ?_
    intro d hd
    simp only [List.mem_cons, List.not_mem_nil, or_false] at hd
    rcases hd with rfl | rfl | rfl
    · exact hr
    · exact ht
    · exact he
  · refine fin 131 _ _ rfl rfl rfl ?_
    intro d hd
    simp only [List.mem_cons, List.not_mem_nil, or_false] at hd
    subst hd
    · exact hs
  · refine fin 132 _ _ rfl rfl rfl ?_
    intro d hd
    simp only [List.mem_cons, List.not_mem_nil, or_false] at hd
    rcases hd with rfl | rfl
    · exact hs
    · exact hc
  · refine fin 133 _ _ rfl rfl rfl ?_
    intro d hd
    simp only [List.mem_cons, List.not_mem_nil, or_false] at hd
    subst hd
    · exact he
  · refine fin 134 _ _ rfl rfl rfl ?_
    intro d hd
    simp only [List.mem_cons, List.not_mem_nil, or_false] at hd
    rcases hd with rfl | rfl
    · exact ht
    · exact he
  · refine fin 135 _ _ rfl rfl rfl ?_
    intro d hd
    simp only [List.mem_cons, List.not_mem_nil, or_false] at hd
    rcases hd with rfl | rfl
    · exact ht
    · exact he
  · refine fin 136 _ _ rfl rfl rfl ?_
    intro d hd
    simp only [List.mem_cons, List.not_mem_nil, or_false] at hd
    rcases hd with rfl | rfl
    · exact ht
    · exact hc
theorem fitR_ok (l : List Int) (hl : IsRepL l) : (∃ bs, putR8 (fitR l) = some bs) ∧ IsRepL (fitR l) := by
  have h1 := hl.1
  match l, h1 with
  | [a0, a1, a2, a3, a4, a5, a6, a7, a8, a9, a10, a11, a12, a13], _ =>
    have b := hl.2
    have hb : ∀ i, 6 ≤ i → i < 14 → ∀ x, [a0, a1, a2, a3, a4, a5, a6, a7, a8, a9, a10, a11, a12, a13][i]? = some x → 0 ≤ x ∧ x ≤ 255 := fun i h6 h14 x hx => by
      have := b i h6 h14
      rw [List.getD_eq_getElem?_getD, hx] at this
      exact this
    have b6 := hb 6 (by omega) (by omega) a6 rfl
    have b7 := hb 7 (by omega) (by omega) a7 rfl
    have b8 := hb 8 (by omega) (by omega) a8 rfl
    have b9 := hb 9 (by omega) (by omega) a9 rfl
    have b10 := hb 10 (by omega) (by omega) a10 rfl
    have b11 := hb 11 (by omega) (by omega) a11 rfl
    have b12 := hb 12 (by omega) (by omega) a12 rfl
    have b13 := hb 13 (by omega) (by omega) a13 rfl
    have h := putR8_replies (129 + a0 % 8) (a1 % 4294967296) (a2 % 4) (a3 % 5) (a4 % 65536) (a5 % 256) a6 a7 a8 a9 a10 a11 a12 a13 (by omega) (by omega) (by omega) (by omega) (by omega) (by omega) b6 b7 b8 b9 b10 b11 b12 b13
    exact ⟨h.1, isRep_replies (129 + a0 % 8) (a1 % 4294967296) (a2 % 4) (a3 % 5) (a4 % 65536) (a5 % 256) a6 a7 a8 a9 a10 a11 a12 a13 ⟨rfl, fun i h6 h14 => by
      have hi : i = 6 ∨ i = 7 ∨ i = 8 ∨ i = 9 ∨ i = 10 ∨ i = 11 ∨ i = 12 ∨ i = 13 := by omega
      rcases hi with rfl | rfl | rfl | rfl | rfl | rfl | rfl | rfl
      · exact b6
      · exact b7
      · exact b8
      · exact b9
      · exact b10
      · exact b11
      · exact b12
      · exact b13⟩ (by omega) (by omega)⟩
end Go.Proofs.Ytakahkpogooepaa
