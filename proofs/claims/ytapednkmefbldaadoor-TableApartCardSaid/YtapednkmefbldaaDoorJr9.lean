/- Several texts in one. -/
import Derived.Test.YtapednkmefbldaaDoorJrf
import Derived.Test.YtapednkmefbldaaDoorOwnB
import Derived.Test.YtapednkmefbldaaDoorSealC

/- sidestickref09.Close and Open. -/
namespace Go.Proofs.YtapednkmefbldaaDoor
open Go.RowKit

set_option maxRecDepth 100000 in
/-- append onto a row just made -/
theorem run_append_lit (w : World) (b0 g k : Nat) (xs : List Int) (hk : xs.length = k) (hg : Blk w g (u8V xs) 5) (hb : ∀ x ∈ xs, 0 ≤ x ∧ x ≤ 255) (hb0 : b0 ≤ g) (B : Option Addr) (c m : Nat) (ys : List Int) (hm : ys.length = m) (hr : Row w B ys) (hsmall : k + m ≤ 1000000) (ty : TypeId) :
    ∃ A' cap' w', (Builtin.append_ #[23, 23] ty #[.slice (some ⟨g, 0, none⟩) k k, .slice B m c]).run Tryd.prog w = .ok (.slice A' (k + m) cap') w' ∧ Own w' b0 A' cap' (xs ++ ys) ∧ GrowR b0 5 0 [] w w' := by
  obtain ⟨i0, hi, hz0, hz1, hz2⟩ := info_parts info_u8
  subst hk hm
  have hown : w.ownsRow b0 5 1 (.slice (some ⟨g, 0, none⟩) xs.length xs.length) xs.length (xs.map (Value.int .u8)) := by
    refine ⟨by simp, .inr ⟨g, xs.length, u8V xs, rfl, hb0, hg, Nat.le_refl _, by unfold maxLen; omega, by rw [u8V_size]; omega, ?_⟩⟩
    rw [Nat.mul_one]
    simp only [u8V]
    rw [List.take_of_length_le (by simp)]
  have hbb : ∀ x ∈ xs ++ ys, 0 ≤ x ∧ x ≤ 255 := by
    intro x hx
    rcases List.mem_append.1 hx with h | h
    · exact hb x h
    · exact hr.2 x h
  rcases B with _ | ad
  · have hy : ys = [] := by
      rcases hr.1 with h | ⟨b, off, h, _⟩
      · exact h
      · cases h
    subst hy
    refine ⟨some ⟨g, 0, none⟩, xs.length, w, ?_, ⟨by simpa using hown, by simpa using hb⟩, growR_kept.1 w⟩
    simp [Builtin.append_, run_underlying Tryd.underlying23, sizeOf, typeInfo, hi, Builtin.lenOf, Builtin.firstCells, storeCells]
  · have hcells : ∀ (j : Nat) u, (ys.map (Value.int .u8))[j]? = some u → w.cell? (ad.add j) = some u := by
      intro j u hu
      have hj : j < ys.length := by
        rcases Nat.lt_or_ge j ys.length with h | h
        · exact h
        · rw [List.getElem?_eq_none (by simpa using h)] at hu; cases hu
      rcases hr.1 with h | ⟨b, off, h, hc⟩
      · subst h; simp at hj
      · injection h with h
        subst h
        have e : (⟨b, off, none⟩ : Addr).add j = ⟨b, off + j, none⟩ := by unfold Addr.add; split <;> simp_all
        rw [e, hc j hj]
        simpa [hj] using hu
    obtain ⟨A', cap', w', hrun, h2, h3, -, h5⟩ := run_append_growR (P := Tryd.prog) w b0 b0 23 ty 5 i0 (.int .u8 0) 1 1 Tryd.underlying23 hi hz0 hz1 hz2 rfl (some ⟨g, 0, none⟩) xs.length xs.length _ hown ad ys.length c (ys.map (Value.int .u8)) (by simp) hcells (by intro u hu; simp at hu; obtain ⟨a, _, rfl⟩ := hu; rfl) (fun h => by cases h) (by unfold maxLen; omega) (by omega) (by have := hg.lt; omega) (Nat.le_refl _)
    have h4 : Own w' b0 A' cap' (xs ++ ys) := ⟨by rw [List.length_append, List.map_append]; exact h2, hbb⟩
    refine ⟨A', cap', w', hrun, h4, ?_⟩
    by_cases h0 : ys.length = 0
    · have hy : ys = [] := List.eq_nil_of_length_eq_zero h0
      subst hy
      exact growR_nil h3 _ _
    · exact growR_below (h5 (by omega))
theorem own_grow0 {b0 N : Nat} {T : TypeId} {w w' : World} (h : GrowR b0 T N [] w w') {base cap : Nat} {A : Option Addr} {xs : List Int} (ho : Own w base A cap xs) : Own w' base A cap xs := by
  obtain ⟨⟨h1, h2⟩, h3⟩ := ho
  refine ⟨⟨h1, ?_⟩, h3⟩
  rcases h2 with h2 | ⟨g, cap', cur, hv, hg, hh, hr⟩
  · exact .inl h2
  · exact .inr ⟨g, cap', cur, hv, hg, growR_blk0 h hh, hr⟩
theorem growR_nilBlk {b0 N : Nat} {T S : TypeId} {ys : List Value} {w w' : World} (h : GrowR b0 T N ys w w') {g : Nat} (hk : Blk w g (u8V []) S) : Blk w' g (u8V []) S := by
  obtain ⟨cs', e, sz, -, -⟩ := h.2.2 g _ S hk
  have : cs' = u8V [] := Array.ext_getElem? fun j => by rw [Array.getElem?_eq_none (by rw [sz]; simp [u8V]), Array.getElem?_eq_none (by simp [u8V])]
  rw [this] at e
  exact e
/-- a row lies in a block that is there (none where it has no bytes and no place) -/
theorem row_under9 {w w' : World} {B : Option Addr} {xs : List Int} {g : Nat} (h : Row w B xs) (hB : xs ≠ [] → ∀ a, B = some a → a.block < g) (hb : Below g w w') : Row w' B xs := by
  obtain ⟨h1, h2⟩ := h
  refine ⟨?_, h2⟩
  rcases h1 with h1 | ⟨b, off, e, hc⟩
  · exact .inl h1
  · by_cases hx : xs = []
    · exact .inl hx
    · refine .inr ⟨b, off, e, fun i hi => ?_⟩
      rw [hb.cell (p := ⟨b, off + i, none⟩) (show b < g from hB hx ⟨b, off, none⟩ e)]
      exact hc i hi
theorem row_lt {w : World} {B : Option Addr} {xs : List Int} (h : Row w B xs) : xs ≠ [] → ∀ a, B = some a → a.block < w.heap.size := by
  intro hx a ha
  rcases h.1 with h1 | ⟨b, off, e, hc⟩
  · exact absurd h1 hx
  · rw [ha] at e
    injection e with e
    subst e
    exact World.block_lt_of_cell? _ _ (hc 0 (List.length_pos_iff.2 hx))
theorem be1_mod (s : Int) : be (s % 256) 1 = [s % 256] := by
  rw [be_cons, be_zero]
  simp only [show (2 : Int) ^ (8 * 0) = 1 from rfl, List.cons.injEq, and_true]
  omega
theorem closeB_two (s : Int) (b : List Int) : closeB s b = [77, s % 256] ++ b := by
  unfold closeB
  rw [be1_mod]
  simp
def RC9 (g0 G : Nat) (s : Int) (b tg : List Int) (B : Option Addr) (m d : Nat) (i : Nat) (v : Value) (w : World) : Prop := match i with
  | 0 => v = .slice (some ⟨g0, 0, none⟩) 32 32
  | 1 => v = .int .i64 s
  | 2 => v = .int .u8 (s % 256)
  | 3 => ∃ g, v = .slice (some ⟨g, 0, none⟩) 2 2 ∧ G ≤ g ∧ Blk w g (u8V [77, s % 256]) 5
  | 4 => v = .slice B m d
  | 5 => ∃ A cp, v = .slice A (2 + m) cp ∧ Own w G A cp (closeB s b)
  | 6 => v = .agg (u8V tg)
  | _ => ∃ g, v = .pointer (some ⟨g, 0, none⟩) ∧ G ≤ g ∧ Blk w g (u8V (zeros 8)) 29
theorem RC9_keep (g0 G : Nat) (s : Int) (b tg : List Int) (B : Option Addr) (m d : Nat) : ∀ i v w w', i < 8 → RC9 g0 G s b tg B m d i v w → GrowR G 5 0 [] w w' → RC9 g0 G s b tg B m d i v w' := by
  intro i v w w' hi h hb
  unfold RC9 at *
  split at h
  case h_4 => obtain ⟨g, e, l, k⟩ := h; exact ⟨g, e, l, growR_blk0 hb k⟩
  case h_6 => obtain ⟨A, cp, e, o⟩ := h; exact ⟨A, cp, e, own_grow0 hb o⟩
  case h_8 => obtain ⟨g, e, l, k⟩ := h; exact ⟨g, e, l, growR_blk0 hb k⟩
  all_goals exact h
def RD9 (G g7 : Nat) (b tg : List Int) (B : Option Addr) (m d : Nat) (i : Nat) (v : Value) (w : World) : Prop := match i with
  | 0 => ∃ g, v = .slice (some ⟨g, 0, none⟩) 0 0 ∧ G ≤ g ∧ Blk w g (u8V []) 5
  | 1 => v = .slice B m d
  | 2 => ∃ A cp, v = .slice A m cp ∧ Own w G A cp b
  | 3 => v = .slice (some ⟨g7, 0, none⟩) 8 8
  | 4 => ∃ A cp, v = .slice A (m + 8) cp ∧ Own w G A cp (b ++ tg)
  | _ => ∃ A cp, v = .slice A (m + 8) cp ∧ Own w G A cp (b ++ tg)
theorem RD9_keep (G g7 : Nat) (b tg : List Int) (B : Option Addr) (m d : Nat) (hm : b.length = m) : ∀ i v w w', i < 6 → RD9 G g7 b tg B m d i v w → GrowR G 5 m (tg.map (Value.int .u8)) w w' → RD9 G g7 b tg B m d i v w' := by
  intro i v w w' hi h hb
  unfold RD9 at *
  split at h
  case h_1 => obtain ⟨g, e, l, k⟩ := h; exact ⟨g, e, l, growR_nilBlk hb k⟩
  case h_3 => obtain ⟨A, cp, e, o⟩ := h; exact ⟨A, cp, e, growR_own hb o (.inl (by omega))⟩
  case h_5 | h_6 => obtain ⟨A, cp, e, o⟩ := h; exact ⟨A, cp, e, growR_own hb o (.inr ⟨b, hm, rfl⟩)⟩
  all_goals exact h
set_option maxRecDepth 100000 in
set_option maxHeartbeats 1600000 in
theorem rclose_any (key b : List Int) (B : Option Addr) (m d : Nat) (s : Int) (w : World) (hl : key.length = 32) (hkb : ∀ x ∈ key, 0 ≤ x ∧ x ≤ 255) (hm : b.length = m) (hr : Row w B b) (hm2 : m ≤ 100000) :
    Calls Tryd.prog 29 #[.agg (u8V key), .int .i64 s, .slice B m d] w fun e w' => (∃ A d', e = .returned (.slice A (m + 8) d') ∧ Own w' w.heap.size A d' (b ++ tagOf key s b)) ∧ Below w.heap.size w w' := by
  have CT := fun (g : Nat) (D : Option Addr) (e : Nat) (W : World) (hk : Row W (some ⟨g, 0, none⟩) key) (hb : Row W D (closeB s b)) => rtag_any (some ⟨g, 0, none⟩) D key (closeB s b) 32 (2 + m) 32 e W hl (by rw [closeB_len, hm]) hk hb (by omega) (by omega)
  have TL := tagOf_len key s b
  have TB := tagOf_bytes key s b
  have e0 : (hmac key (closeB s b)).take 8 = tagOf key s b := rfl
  simp only [e0] at CT
  generalize tagOf key s b = tg at *
  replace CT := Lib.hid CT
  replace TL := Lib.hid TL
  replace TB := Lib.hid TB
  have CB := Lib.hid (closeB_two s b)
  have HM := Lib.hid hm
  have HR := Lib.hid hr
  have HL := Lib.hid hl
  have HKB := Lib.hid hkb
  have q0 : 0 ≤ s % 256 := by omega
  have q1 : s % 256 ≤ 255 := by omega
  have HW : IntKind.u8.wrap s = s % 256 := by simp [IntKind.wrap, IntKind.bits, IntKind.signed]
  have Z8 := Lib.hid zeroT_b8
  clear hl hkb hm hr e0
  have hsz : Hid ((u8V key).size = 32) := Lib.hid (by rw [u8V_size, HL.out])
  obtain ⟨kv, hkv⟩ : ∃ x, x = u8V key := ⟨_, rfl⟩
  rw [← hkv] at hsz ⊢
  replace hkv := Lib.hid hkv
  go_enter Tryd.func29, Tryd.ntmps29
  go_wp2_with fail
  have K3 := Lib.hid (Blk.new w kv 22)
  have BB := Lib.hid (below_alloc1 w (.cells kv 22))
  have lw := K3.out.lt
  generalize w.alloc (.cells kv 22) = w1 at *
  have hb1 : w.heap.size ≤ w1.heap.size := by omega
  have HRB := Lib.hid (row_lt HR.out)
  replace HR := Lib.hid (row_below HR.out BB.out)
  refine wp_region_confR' (growR_kept (b0 := w1.heap.size) (T := 5) (N := 0) (ys := [])) (by kernel_rfl) 8 (by kernel_rfl) (by simp) (by decide) (RC9 w.heap.size w1.heap.size s b tg B m d) (RC9_keep w.heap.size w1.heap.size s b tg B m d) ?_ ?_
  · simp only [ConfStepsR, List.take_succ_cons, List.take_zero, putAll, Act.put, List.setIfInBounds_toArray, List.set_cons_succ, List.set_cons_zero, and_true]
    refine ⟨?_, ?_, ?_, ?_, ?_, ?_, ?_, ?_⟩
    all_goals intro v w' hb hd
    · exact conf_valueR growR_kept (wanted0 rfl) (by simp [go_sem]) rfl
    · exact conf_valueR growR_kept (wanted0 rfl) (by simp [go_sem]) rfl
    · have d1 : v 1 = .int .i64 s := hd.at 1 rfl
      exact conf_valueR growR_kept (wanted0 rfl) (by simp [go_sem, d1, HW]) rfl
    · have d2 : v 2 = .int .u8 (s % 256) := hd.at 2 rfl
      refine conf_makeR (w' := w'.alloc (.cells (u8V [77, s % 256]) 5)) (v := .slice (some ⟨w'.heap.size, 0, none⟩) 2 2) (wanted0 rfl) (by simp [go_sem, d2, u8V]) (growR_below (below_alloc1 w' _)) ⟨w'.heap.size, rfl, hb.1, Blk.new _ _ _⟩
    · exact conf_valueR growR_kept (wanted0 rfl) (by simp [go_sem]) rfl
    · obtain ⟨g, d3, lg, k3⟩ : ∃ g, v 3 = .slice (some ⟨g, 0, none⟩) 2 2 ∧ w1.heap.size ≤ g ∧ Blk w' g (u8V [77, s % 256]) 5 := hd.at 3 rfl
      have d4 : v 4 = .slice B m d := hd.at 4 rfl
      obtain ⟨A', cp', w2', hrun, hown, hrel⟩ := run_append_lit w' w1.heap.size g 2 [77, s % 256] rfl k3 (fun x hx => by simp at hx; omega) lg B d m b HM.out (row_below HR.out (hb.2.1 (Nat.le_refl _))) (by omega) 23
      rw [← CB.out] at hown
      exact conf_makeR (wanted0 rfl) (run_op_append rfl (by simp [go_sem, d3]) (by simp [go_sem, d4]) hrun) hrel ⟨A', cp', rfl, hown⟩
    · have d0 : v 0 = .slice (some ⟨w.heap.size, 0, none⟩) 32 32 := hd.at 0 rfl
      obtain ⟨A, cp, d5, o5⟩ : ∃ A cp, v 5 = .slice A (2 + m) cp ∧ Own w' w1.heap.size A cp (closeB s b) := hd.at 5 rfl
      refine conf_callR (f := 52) (args := #[v 0, v 5]) (wanted0 rfl) (by simp [go_sem]) ?_
      rw [d0, d5]
      have kk : Blk w' w.heap.size (u8V key) 22 := by have := growR_blk0 hb K3.out; rw [hkv.out] at this; exact this
      exact (CT.out w.heap.size A cp w' (u8V_row kk HKB.out) o5.row).mono fun e w'' ⟨he, hb'⟩ => ⟨_, he, growR_below hb', rfl⟩
    · exact conf_makeR (wanted0 rfl) (Z8.out _ _ _ rfl) (growR_below (below_alloc1 w' _)) ⟨_, rfl, hb.1, Blk.new _ _ _⟩
  · intro v w' hb hr
    obtain ⟨g7, d7, hg7, K7⟩ : ∃ g, v 7 = .pointer (some ⟨g, 0, none⟩) ∧ w1.heap.size ≤ g ∧ Blk w' g (u8V (zeros 8)) 29 := hr 7 (by omega)
    have d6 : v 6 = .agg (u8V tg) := hr 6 (by omega)
    simp only [List.take_succ_cons, List.take_zero, List.drop_succ_cons, List.drop_zero, putAll, Act.put, List.setIfInBounds_toArray, List.set_cons_succ, List.set_cons_zero]
    rw [d7, d6]
    have b9 := hb.2.1 (Nat.le_refl _)
    replace K7 := Lib.hid K7
    replace HR := Lib.hid (row_below HR.out b9)
    replace BB := Lib.hid (bt BB.out b9)
    have l9 := b9.size
    clear hr hb b9 d6 d7 K3
    go_wp2_with ((with_reducible show wpList _ _ _ (⟨_, .store 29 _ _, _, _, _, none⟩ :: _) _ _); (with_reducible refine wpBlk_store (g := g7) (cs := u8V tg) agg_b8 ?_ ?_ K7 ?_ ?_ ?_ ?_); (· exact wanted0 rfl); (· exact ⟨rfl, rfl, rfl⟩); (· rw [u8V_size, zeros_len]); (· rw [u8V_size, TL.out]); (· exact u8V_one _); refine Marker.mk ?_)
    refine Marker.in ?_
    have b10 := below_setRow (g := g7) (Below.refl w1.heap.size w') hg7 (u8V tg)
    replace HR := Lib.hid (show Row (w'.setRow g7 (u8V tg)) B b from row_under9 HR.out (fun hx a ha => Nat.lt_trans (HRB.out hx a ha) lw) b10)
    replace BB := Lib.hid (below_setRow (g := g7) BB.out (by omega) (u8V tg))
    replace K7 := Lib.hid (K7.out.setRow (u8V tg))
    have l10 : w1.heap.size ≤ (w'.setRow g7 (u8V tg)).heap.size := Nat.le_trans l9 b10.size
    generalize w'.setRow g7 (u8V tg) = w2 at *
    clear b10
    have l11 := K7.out.lt
    go_wp2_with fail
    refine wp_region_confR' (growR_kept (b0 := w2.heap.size) (T := 5) (N := m) (ys := tg.map (Value.int .u8))) (by kernel_rfl) 6 (by kernel_rfl) (by simp) (by decide) (RD9 w2.heap.size g7 b tg B m d) (RD9_keep w2.heap.size g7 b tg B m d HM.out) ?_ ?_
    · simp only [ConfStepsR, List.take_succ_cons, List.take_zero, putAll, Act.put, List.setIfInBounds_toArray, List.set_cons_succ, List.set_cons_zero, and_true]
      refine ⟨?_, ?_, ?_, ?_, ?_, ?_⟩
      all_goals intro v w' hb hd
      · exact conf_makeR (w' := w'.alloc (.cells (u8V []) 5)) (v := .slice (some ⟨w'.heap.size, 0, none⟩) 0 0) (wanted0 rfl) (by simp [go_sem, u8V]) (growR_below (below_alloc1 w' _)) ⟨_, rfl, hb.1, Blk.new _ _ _⟩
      · exact conf_valueR growR_kept (wanted0 rfl) (by simp [go_sem]) rfl
      · obtain ⟨g, d0, lg, k0⟩ : ∃ g, v 0 = .slice (some ⟨g, 0, none⟩) 0 0 ∧ w2.heap.size ≤ g ∧ Blk w' g (u8V []) 5 := hd.at 0 rfl
        have d1 : v 1 = .slice B m d := hd.at 1 rfl
        obtain ⟨A', cp', w2', hrun, hown, hrel⟩ := run_append_lit w' w2.heap.size g 0 [] rfl k0 (fun x hx => by cases hx) lg B d m b HM.out (row_below HR.out (hb.2.1 (Nat.le_refl _))) (by omega) 23
        rw [List.nil_append] at hown
        rw [Nat.zero_add] at hrun
        exact conf_makeR (wanted0 rfl) (run_op_append rfl (by simp [go_sem, d0]) (by simp [go_sem, d1]) hrun) (growR_nil hrel _ _) ⟨A', cp', rfl, hown⟩
      · exact conf_valueR growR_kept (wanted0 rfl) (by simp [go_sem]) rfl
      · obtain ⟨A, cp, d2, o2⟩ : ∃ A cp, v 2 = .slice A m cp ∧ Own w' w2.heap.size A cp b := hd.at 2 rfl
        have d3 : v 3 = .slice (some ⟨g7, 0, none⟩) 8 8 := hd.at 3 rfl
        have k7 : Blk w' g7 (u8V tg) 29 := growR_blk hb K7.out (by decide)
        obtain ⟨A', cp', w2', hrun, hown, hrel⟩ := run_append_bytesR w' w2.heap.size w2.heap.size A cp b o2 (some ⟨g7, 0, none⟩) 8 tg (u8V_row k7 TB.out) (by rw [TL.out]; omega) (by rw [HM.out, TL.out]; omega) hb.1 (Nat.le_refl _) 23
        rw [HM.out, TL.out] at hrun
        rw [HM.out] at hrel
        exact conf_makeR (wanted0 rfl) (run_op_append rfl (by simp [go_sem, d2]) (by simp [go_sem, d3]) hrun) hrel ⟨A', cp', rfl, hown⟩
      · obtain ⟨A, cp, d4, o4⟩ : ∃ A cp, v 4 = .slice A (m + 8) cp ∧ Own w' w2.heap.size A cp (b ++ tg) := hd.at 4 rfl
        exact conf_valueR growR_kept (wanted0 rfl) (by simp [go_sem, d4]) ⟨A, cp, rfl, o4⟩
    · intro v w' hb hr
      obtain ⟨A, cp, d5, o5⟩ : ∃ A cp, v 5 = .slice A (m + 8) cp ∧ Own w' w2.heap.size A cp (b ++ tg) := hr 5 (by omega)
      simp only [List.take_succ_cons, List.take_zero, List.drop_succ_cons, List.drop_zero, putAll, Act.put, List.setIfInBounds_toArray, List.set_cons_succ, List.set_cons_zero]
      rw [d5]
      have O5 := Lib.hid (own_mono o5 (show w.heap.size ≤ w2.heap.size by omega))
      replace BB := Lib.hid (bt BB.out (hb.2.1 (Nat.le_refl _)))
      clear hr hb d5 o5
      go_wp2_with fail
      go_ret
      exact ⟨⟨A, cp, rfl, O5.out⟩, BB.out⟩
end Go.Proofs.YtapednkmefbldaaDoor
