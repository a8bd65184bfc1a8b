/- What an append onto a row of one's own leaves: a relation between worlds for regions that draw their order (XConfR). -/
import Derived.Test.YtapednkmefbldaaDoorConfR
import Derived.Test.YtapednkmefbldaaDoorAppB
import Derived.Test.YtapednkmefbldaaDoorRowK
namespace Go.Proofs.YtapednkmefbldaaDoor
open Go.RowKit

/-- Below b0 all stays; a row of T may turn behind N, into what ys says; every other block stays. -/
def GrowR (b0 : Nat) (T : TypeId) (N : Nat) (ys : List Value) (w w' : World) : Prop :=
  w.heap.size ≤ w'.heap.size ∧ (b0 ≤ w.heap.size → Below b0 w w') ∧
  ∀ (g : Nat) (cs : Array Value) (S : TypeId), w.heap[g]? = some (.cells cs S (0, 0)) → ∃ cs' : Array Value, w'.heap[g]? = some (.cells cs' S (0, 0)) ∧ cs'.size = cs.size ∧ (S ≠ T → cs' = cs) ∧ ∀ j : Nat, cs'[j]? = cs[j]? ∨ (N ≤ j ∧ j < N + ys.length ∧ cs'[j]? = ys[j - N]?)
section
variable {b0 : Nat} {T : TypeId} {N : Nat} {ys : List Value}
theorem growR_kept : Kept (GrowR b0 T N ys) := by
  refine ⟨fun w => ⟨Nat.le_refl _, fun _ => Below.refl _ _, fun g cs S h => ⟨cs, h, rfl, fun _ => rfl, fun j => .inl rfl⟩⟩, ?_, fun w => ⟨Nat.le_refl _, fun _ => (Below.refl _ _).drew, fun g cs S h => ⟨cs, h, rfl, fun _ => rfl, fun j => .inl rfl⟩⟩⟩
  rintro a b c ⟨h1, h2, h3⟩ ⟨k1, k2, k3⟩
  refine ⟨Nat.le_trans h1 k1, fun h => (h2 h).trans (k2 (Nat.le_trans h h1)), fun g cs S h => ?_⟩
  obtain ⟨cs1, e1, s1, t1, j1⟩ := h3 g cs S h
  obtain ⟨cs2, e2, s2, t2, j2⟩ := k3 g cs1 S e1
  refine ⟨cs2, e2, s2.trans s1, fun hS => (t2 hS).trans (t1 hS), fun j => ?_⟩
  rcases j2 j with h | h
  · rcases j1 j with h' | ⟨p, q, r⟩
    · exact .inl (h.trans h')
    · exact .inr ⟨p, q, h.trans r⟩
  · exact .inr h
theorem growR_below {w w' : World} (hb : Below w.heap.size w w') : GrowR b0 T N ys w w' :=
  ⟨hb.size, fun h => hb.mono h, fun g cs S h => ⟨cs, blk_below h hb, rfl, fun _ => rfl, fun j => .inl rfl⟩⟩
theorem growR_blk {w w' : World} (h : GrowR b0 T N ys w w') {g : Nat} {cs : Array Value} {S : TypeId} (hk : Blk w g cs S) (hS : S ≠ T) : Blk w' g cs S := by
  obtain ⟨cs', e, -, t, -⟩ := h.2.2 g cs S hk
  rw [t hS] at e
  exact e
theorem growR_nil {w w' : World} (h : GrowR b0 T N [] w w') (N' : Nat) (zs : List Value) : GrowR b0 T N' zs w w' := by
  refine ⟨h.1, h.2.1, fun g cs S hg => ?_⟩
  obtain ⟨cs', e, s, t, hj⟩ := h.2.2 g cs S hg
  refine ⟨cs', e, s, t, fun j => .inl ?_⟩
  rcases hj j with h1 | ⟨h1, h2, _⟩
  · exact h1
  · simp at h2; omega
theorem growR_owns {w w' : World} (h : GrowR b0 T N ys w w') {base size n : Nat} {v : Value} {xs : List Value} (ho : w.ownsRow base T size v n xs)
    (hx : ∀ j, N ≤ j → j < N + ys.length → j < xs.length → xs[j]? = ys[j - N]?) : w'.ownsRow base T size v n xs := by
  obtain ⟨h1, h2⟩ := ho
  refine ⟨h1, ?_⟩
  rcases h2 with h2 | ⟨g, cap, cur, rfl, hg, hh, hnc, hm, hs, ht⟩
  · exact .inl h2
  · obtain ⟨cs', e, s, -, hj⟩ := h.2.2 g cur T hh
    refine .inr ⟨g, cap, cs', rfl, hg, e, hnc, hm, s.trans hs, ?_⟩
    apply List.ext_getElem?
    intro j
    by_cases hlt : j < xs.length
    · have h3 : xs[j]? = cur[j]? := by
        rw [← ht, List.getElem?_take_of_lt (by omega)]
        simp
      rw [List.getElem?_take_of_lt (by omega), Array.getElem?_toList]
      rcases hj j with h4 | ⟨p, q, r⟩
      · rw [h4, h3]
      · rw [r, hx j p q hlt]
    · rw [List.getElem?_eq_none (by simp; omega), List.getElem?_eq_none (by omega)]
end
/-- append onto a row of one's own: it grows where it is, or there is a new one -/
theorem run_append_growR {P : Program} (w : World) (b0 base : Nat) (t ty e : TypeId) (i : TypeInfo) (z : Value) (size bytes : Nat) (ht : P.underlying t = some (.slice e)) (hi : P.info? e = some i) (hz : i.zero = some z)
    (hsize : i.size = size) (hby : i.bytes = bytes) (hzs : z.cells.size = size)
    (A : Option Addr) (cap n : Nat) (xs : List Value) (hown : w.ownsRow base e size (.slice A n cap) n xs)
    (a : Addr) (m c : Nat) (news : List Value) (hl : news.length = m * size) (hnews : ∀ j u, news[j]? = some u → w.cell? (a.add j) = some u) (h1 : ∀ u ∈ news, u.oneCell' = true)
    (hm : A = none → 0 < m) (h63 : n + m ≤ maxLen) (hbytes : (n + m) * bytes ≤ 140737488355328) (hbase : base ≤ w.heap.size) (hb0 : b0 ≤ base) :
    ∃ A' cap' w', (Builtin.append_ #[t, t] ty #[.slice A n cap, .slice (some a) m c]).run P w = .ok (.slice A' (n + m) cap') w' ∧ w'.ownsRow base e size (.slice A' (n + m) cap') (n + m) (xs ++ news) ∧ GrowR b0 e (n * size) news w w' ∧ A' ≠ none ∧ (cap < n + m → Below w.heap.size w w') := by
  subst hsize
  subst hby
  have hsmall : n + m ≤ 9223372036854775807 := by simp only [maxLen] at h63; omega
  have hlen : (xs ++ news).length = (n + m) * i.size := by rw [List.length_append, hown.1, hl, Nat.add_mul]
  have made : ∀ old : Nat, (w.drew.alloc (.cells (xs.toArray ++ news.toArray ++ Builtin.zeroCells z.cells (grownCap w (n + m) old e - (n + m))) e)).ownsRow base e i.size (.slice (some ⟨w.heap.size, 0, none⟩) (n + m) (grownCap w (n + m) old e)) (n + m) (xs ++ news) := by
    intro old
    have hge := grownCap_ge w (n + m) old e
    refine ⟨hlen, .inr ⟨w.heap.size, _, _, rfl, hbase, heap_alloc_new w.drew _, hge, grownCap_le_maxLen w (n + m) old e h63, ?_, ?_⟩⟩
    · simp only [Array.size_append, List.size_toArray, size_zeroCells, hzs, hown.1, hl, ← Nat.add_mul]
      congr 1
      omega
    · simp only [Array.toList_append]
      rw [← hlen]
      exact List.take_left
  have belB : ∀ o : Obj, Below w.heap.size w (w.drew.alloc o) := fun o => ((Below.refl _ w).drew).alloc (Nat.le_refl _) o
  have bel : ∀ o : Obj, GrowR b0 e (n * i.size) news w (w.drew.alloc o) := fun o => growR_below (((Below.refl _ w).drew).alloc (Nat.le_refl _) o)
  rcases hown.2 with ⟨hv, hn⟩ | ⟨g, cap', cur, hv, hbg, hg, hnc, hcm, hcs, htake⟩
  · subst hn
    have hx : xs = [] := List.eq_nil_of_length_eq_zero (by simpa using hown.1)
    subst hx
    rw [hv]
    have hr := run_append_nil (P := P) w t ty e i z ht hi hz a m c news hl hnews (hm (by injection hv)) (by omega) (by have hb := hbytes; simp only [Nat.zero_add] at hb; omega)
    have hmd := made 0
    simp only [Nat.zero_add, List.nil_append, Array.empty_append] at hmd ⊢
    exact ⟨_, _, _, hr, hmd, bel _, fun h => (by cases h), fun _ => belB _⟩
  · rw [hv]
    by_cases hroom : n + m ≤ cap'
    · have hfit : n * i.size + news.length ≤ cur.size := by rw [hl, hcs, ← Nat.add_mul]; exact Nat.mul_le_mul_right _ hroom
      have hr := run_append_room (P := P) w t ty e i ht hi g n cap' cur hg a m c news hl hnews h1 hroom hfit
      have hnew := setRow_heap w g cur (cur.toList.take (n * i.size) ++ news ++ cur.toList.drop (n * i.size + news.length)).toArray e _ hg
      have hsz : (cur.toList.take (n * i.size) ++ news ++ cur.toList.drop (n * i.size + news.length)).toArray.size = cur.size := by
        simp only [List.size_toArray, List.length_append, List.length_take, List.length_drop, Array.length_toList]
        omega
      refine ⟨_, _, _, hr, ⟨hlen, .inr ⟨g, cap', _, rfl, hbg, hnew, hroom, hcm, hsz.trans hcs, ?_⟩⟩, ⟨?_, ?_, ?_⟩, fun h => (by cases h), fun h => absurd h (by injection hv with _ _ h3; omega)⟩
      · rw [htake, ← hlen]
        exact List.take_left
      · simp
      · intro _
        exact (Below.refl _ _).trans ⟨rfl, rfl, rfl, by simp, fun k hk => setRow_other w g k _ (by omega)⟩
      · intro k cs S hk
        by_cases e1 : k = g
        · subst e1
          rw [hg] at hk
          injection hk with hk
          injection hk with k1 k2 k3
          subst k1 k2
          refine ⟨_, hnew, hsz, fun hS => absurd rfl hS, fun j => ?_⟩
          have tl : (cur.toList.take (n * i.size)).length = n * i.size := by simp; omega
          simp only [List.getElem?_toArray]
          rcases Nat.lt_or_ge j (n * i.size) with h | h
          · left
            rw [List.append_assoc, List.getElem?_append_left (by omega), List.getElem?_take_of_lt h]
            simp
          · rcases Nat.lt_or_ge j (n * i.size + news.length) with h2 | h2
            · right
              refine ⟨h, h2, ?_⟩
              rw [List.getElem?_append_left (by simp only [List.length_append]; omega), List.getElem?_append_right (by omega), tl]
            · left
              rw [List.getElem?_append_right (by simp only [List.length_append]; omega), List.getElem?_drop, List.length_append, tl, ← Array.getElem?_toList]
              congr 1
              omega
        · exact ⟨cs, (setRow_other w g k _ (by omega)).trans hk, rfl, fun _ => rfl, fun j => .inl rfl⟩
    · have holds : ∀ j u, xs[j]? = some u → w.cell? ((⟨g, 0, none⟩ : Addr).add j) = some u := by
        have h5 := hown
        rw [hv] at h5
        exact h5.cells (g := g) rfl
      have hr := run_append_grow (P := P) w t ty e i z ht hi hz ⟨g, 0, none⟩ n cap' xs hown.1 holds a m c news hl hnews (by omega) (by omega) (growslice_fits (by omega) hbytes)
      exact ⟨_, _, _, hr, made cap', bel _, fun h => (by cases h), fun _ => belB _⟩
set_option maxRecDepth 100000 in
/-- .. of bytes -/
theorem run_append_bytesR (w : World) (b0 base : Nat) (A : Option Addr) (cap : Nat) (xs : List Int) (hown : Own w base A cap xs) (B : Option Addr) (c : Nat) (ys : List Int) (hr : Row w B ys) (hpos : 0 < ys.length)
    (hsmall : xs.length + ys.length ≤ 1000000000) (hbase : base ≤ w.heap.size) (hb0 : b0 ≤ base) (ty : TypeId) :
    ∃ A' cap' w', (Builtin.append_ #[23, 23] ty #[.slice A xs.length cap, .slice B ys.length c]).run Tryd.prog w = .ok (.slice A' (xs.length + ys.length) cap') w' ∧
      Own w' base A' cap' (xs ++ ys) ∧ GrowR b0 5 xs.length (ys.map (Value.int .u8)) w w' := by
  obtain ⟨i0, hi, hz0, hz1, hz2⟩ := info_parts info_u8
  have hbb : ∀ x ∈ xs ++ ys, 0 ≤ x ∧ x ≤ 255 := by
    intro x hx
    rcases List.mem_append.1 hx with h | h
    · exact hown.2 x h
    · exact hr.2 x h
  rcases B with _ | ad
  · rcases hr.1 with h | ⟨b, off, h, _⟩
    · subst h; simp at hpos
    · cases h
  · have hcells : ∀ (j : Nat) u, (ys.map (Value.int .u8))[j]? = some u → w.cell? (ad.add j) = some u := by
      intro j u hu
      have hj : j < ys.length := by
        rcases Nat.lt_or_ge j ys.length with h | h
        · exact h
        · rw [List.getElem?_eq_none (by simpa using h)] at hu; cases hu
      rcases hr.1 with h | ⟨b, off, h, hc⟩
      · subst h; simp at hj
      · injection h with h
        subst h
        have e : (⟨b, off, none⟩ : Addr).add j = ⟨b, off + j, none⟩ := by unfold Addr.add; split <;> simp_all
        rw [e, hc j hj]
        simpa [hj] using hu
    obtain ⟨A', cap', w', hrun, h2, h3, -, -⟩ := run_append_growR (P := Tryd.prog) w b0 base 23 ty 5 i0 (.int .u8 0) 1 1 Tryd.underlying23 hi hz0 hz1 hz2 rfl A cap xs.length _ hown.1 ad ys.length c (ys.map (Value.int .u8)) (by simp) hcells
      (by intro u hu; simp at hu; obtain ⟨a, _, rfl⟩ := hu; rfl) (fun _ => hpos) (by unfold maxLen; omega) (by omega) hbase hb0
    rw [Nat.mul_one] at h3
    refine ⟨A', cap', w', hrun, ⟨?_, hbb⟩, h3⟩
    rw [List.length_append, List.map_append]
    exact h2
/-- a row of bytes of one's own stays -/
theorem growR_own {b0 N : Nat} {ys : List Int} {w w' : World} (h : GrowR b0 5 N (ys.map (Value.int .u8)) w w') {base cap : Nat} {A : Option Addr} {xs : List Int} (ho : Own w base A cap xs)
    (hx : xs.length ≤ N ∨ ∃ zs, zs.length = N ∧ xs = zs ++ ys) : Own w' base A cap xs := by
  refine ⟨growR_owns h ho.1 fun j p q r => ?_, ho.2⟩
  rcases hx with hx | ⟨zs, hz, rfl⟩
  · simp at r; omega
  · rw [List.map_append, List.getElem?_append_right (by simp; omega)]
    simp [hz]
end Go.Proofs.YtapednkmefbldaaDoor
