/- The plain law of messages made fit. -/
import Derived.Test.YtakahkpogooepaaMsgV
import Derived.Test.YtakahkpogooepaaMsgB
namespace Go.Proofs.Ytakahkpogooepaa
open Go.RowKit

theorem put8_named (k s r t e m c n x0 x1 x2 x3 : Int) (hk : 1 ≤ k ∧ k ≤ 11) (hs : 0 ≤ s ∧ s ≤ 4294967295) (hr : 0 ≤ r ∧ r ≤ 3) (ht : 0 ≤ t ∧ t ≤ 4) (he : 0 ≤ e ∧ e ≤ 65535) (hm : 0 ≤ m ∧ m ≤ 4) (hc : 1 ≤ c ∧ c ≤ 3) (hn : n = 0 ∨ n = 1)
    (h0 : -32768 ≤ x0 ∧ x0 ≤ 32767) (h1 : -32768 ≤ x1 ∧ x1 ≤ 32767) (h2 : -32768 ≤ x2 ∧ x2 ≤ 32767) (h3 : -32768 ≤ x3 ∧ x3 ≤ 32767) :
    (∃ bs, put8 (named12 k s r t e m c n x0 x1 x2 x3) = some bs) ∧ IsMsgL (named12 k s r t e m c n x0 x1 x2 x3) ∧ (named12 k s r t e m c n x0 x1 x2 x3).getD 0 0 = k := by
  have fin : ∀ (k : Int) (ds : List FD) (l : List Int), fieldsOf k = some ds → l.length = 12 → l.getD 0 0 = k → (l.getD 7 0 = 0 ∨ l.getD 7 0 = 1) → zeroed ds l = z12 k → (∀ d ∈ ds, d.lo ≤ l.getD d.off 0 ∧ l.getD d.off 0 ≤ d.hi) → (∃ bs, put8 l = some bs) ∧ IsMsgL l ∧ l.getD 0 0 = k := by
    intro k ds l hf hl hk h7 hz hb
    obtain ⟨p, hp⟩ := outsD_some hb
    refine ⟨⟨k :: p, ?_⟩, ⟨hl, h7⟩, hk⟩
    unfold put8
    rw [hk, hf]
    simp only [hp]
    rw [if_pos hz]
  have h : k = 1 ∨ k = 2 ∨ k = 3 ∨ k = 4 ∨ k = 5 ∨ k = 6 ∨ k = 7 ∨ k = 8 ∨ k = 9 ∨ k = 10 ∨ k = 11 := by omega
  rcases h with rfl | rfl | rfl | rfl | rfl | rfl | rfl | rfl | rfl | rfl | rfl
  · refine fin 1 _ _ rfl rfl rfl (.inl rfl) rfl ?_
    intro d hd
    simp only [List.mem_cons, List.not_mem_nil, or_false] at hd
    subst hd
    · exact hr
  · refine fin 2 _ _ rfl rfl rfl (.inl rfl) rfl ?_
    intro d hd
    simp only [List.mem_cons, List.not_mem_nil, or_false] at hd
    subst hd
    · exact hr
  · refine fin 3 _ _ rfl rfl rfl (.inl rfl) rfl ?_
    intro d hd
    simp only [List.mem_cons, List.not_mem_nil, or_false] at hd
    subst hd
    · exact hs
  · refine fin 4 _ _ rfl rfl rfl (.inl rfl) rfl ?_
    intro d hd
    simp only [List.mem_cons, List.not_mem_nil, or_false] at hd
    subst hd
    · exact hs
  · refine fin 5 _ _ rfl rfl rfl (hn) rfl ?_
    intro d hd
    simp only [List.mem_cons, List.not_mem_nil, or_false] at hd
    rcases hd with rfl | rfl
    · exact hs
    · exact (show 0 ≤ n ∧ n ≤ 1 by omega)
  · refine fin 6 _ _ rfl rfl rfl (.inl rfl) rfl ?_
    intro d hd
    simp only [List.mem_cons, List.not_mem_nil, or_false] at hd
    rcases hd with rfl | rfl
    · exact hs
    · exact ht
  · refine fin 7 _ _ rfl rfl rfl (.inl rfl) rfl ?_
    intro d hd
    simp only [List.mem_cons, List.not_mem_nil, or_false] at hd
    rcases hd with rfl | rfl
    · exact hs
    · exact he
  · refine fin 8 _ _ rfl rfl rfl (.inl rfl) rfl ?_
    intro d hd
    simp only [List.mem_cons, List.not_mem_nil, or_false] at hd
    subst hd
    · exact hs
  · refine fin 9 _ _ rfl rfl rfl (.inl rfl) rfl ?_
    intro d hd
    simp only [List.mem_cons, List.not_mem_nil, or_false] at hd
    subst hd
    · exact hs
  · refine fin 10 _ _ rfl rfl rfl (.inl rfl) rfl ?_
    intro d hd
    simp only [List.mem_cons, List.not_mem_nil, or_false] at hd
    rcases hd with rfl | rfl | rfl
    · exact hs
    · exact he
    · exact hm
  · refine fin 11 _ _ rfl rfl rfl (.inl rfl) rfl ?_
    intro d hd
    simp only [List.mem_cons, List.not_mem_nil, or_false] at hd
    rcases hd with rfl | rfl | rfl | rfl | rfl | rfl | rfl
    · exact hs
    · exact he
    · exact hc
    · exact h0
    · exact h1
    · exact h2
    · exact h3
theorem fit_ok (l : List Int) (hl : IsMsgL l) : (∃ bs, put8 (fitL l) = some bs) ∧ IsMsgL (fitL l) := by
  obtain ⟨h1, h7⟩ := hl
  match l, h1 with
  | [a0, a1, a2, a3, a4, a5, a6, a7, a8, a9, a10, a11], _ =>
    have h := put8_named (1 + a0 % 11) (a1 % 4294967296) (a2 % 4) (a3 % 5) (a4 % 65536) (a5 % 5) (1 + a6 % 3) a7 (a8 % 65536 - 32768) (a9 % 65536 - 32768) (a10 % 65536 - 32768) (a11 % 65536 - 32768) (by omega) (by omega) (by omega) (by omega) (by omega) (by omega) (by omega) h7 (by omega) (by omega) (by omega) (by omega)
    exact ⟨h.1, h.2.1⟩
end Go.Proofs.Ytakahkpogooepaa
