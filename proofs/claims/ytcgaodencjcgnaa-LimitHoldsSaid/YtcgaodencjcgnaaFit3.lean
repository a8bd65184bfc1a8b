import Derived.Test.YtcgaodencjcgnaaFit
import Derived.Test.YtcgaodencjcgnaaMark
import Derived.Laws.Rows
import Derived.Laws.Tables
import Derived.Laws.CopyOwn
import Derived.Deep.WholeRow
import Derived.KernelRfl
namespace Go.Proofs.Ytcgaodencjcgnaa
open Go.RowKit

/-- an empty policy with its order and its master key -/
def pol0 (k : Value) : Nat → Value := fun i => if i < 5 then .int .i64 i else if i = 8 then k else if i < 8 then .slice none 0 0 else .int .i64 0
theorem built_pol (B : Option Addr) (n c : Nat) : Try.prog.built 32 [(0, .agg #[.int .i64 0, .int .i64 1, .int .i64 2, .int .i64 3, .int .i64 4]), (2, .slice B n c)] = some (mkc 56 (pol0 (.slice B n c))) := by kernel_rfl
theorem one_mkc {n : Nat} {f : Nat → Value} (h : ∀ i, i < n → (f i).oneCell' = true) : (mkc n f).all (·.oneCell') = true := by
  rw [Array.all_eq_true]
  intro i hi
  rw [mkc_get]
  exact h i (by simpa using hi)
theorem one_pol0 (B : Option Addr) (n c : Nat) : ∀ i, i < 56 → (pol0 (.slice B n c) i).oneCell' = true := by
  intro i hi
  unfold pol0
  split
  · rfl
  · split
    · rfl
    · split <;> rfl
/-- the greatest number in each of the cells from 9 on -/
def hiOf (i : Nat) : Nat := if i = 9 then 1 else if i < 13 then 14 else if i = 13 then 0 else if i < 34 then 15 else if i < 39 then 31 else if i < 42 then 4 else if i < 48 then 1000 else if i < 50 then 3 else if i = 50 then 0 else if i < 55 then 1000 else 65535
/-- the least one, once it is written -/
def loOf (i : Nat) : Nat := if i = 9 then 1 else if i < 42 then 0 else if i < 47 then 1 else if i = 47 then 0 else if i < 50 then 1 else if i = 54 then 1 else 0
def OkOf (i n : Nat) : Prop := loOf i ≤ n ∧ n ≤ hiOf i ∧ (9 < i → i < 13 → n % 2 = 0)
/-- what holds of the policy that is being made: m keys and the numbers ahead of cell s are made -/
structure Wk (w : World) (lo o m s : Nat) (q : Nat → Value) : Prop where
  o0 : q 0 = .int .i64 0
  o4 : q 4 = .int .i64 4
  perm : ∃ a b c : Nat, q 1 = .int .i64 a ∧ q 2 = .int .i64 b ∧ q 3 = .int .i64 c ∧ 1 ≤ a ∧ a ≤ 3 ∧ 1 ≤ b ∧ b ≤ 3 ∧ 1 ≤ c ∧ c ≤ 3 ∧ a ≠ b ∧ a ≠ c ∧ b ≠ c
  keys : ∀ i, 5 ≤ i → i ≤ 7 → (i < 5 + m ∧ KeyOk w lo o (q i)) ∨ (5 + m ≤ i ∧ q i = .slice none 0 0)
  key8 : KeyOk w lo o (q 8)
  int : ∀ i, 9 ≤ i → i < 56 → ∃ n : Nat, q i = .int .i64 n ∧ n ≤ hiOf i ∧ (i < s → OkOf i n)
theorem Wk.below {w w' : World} {lo o m s : Nat} {q : Nat → Value} (h : Wk w lo o m s q) (hb : Below w.heap.size w w') : Wk w' lo o m s q :=
  ⟨h.o0, h.o4, h.perm, fun i h1 h2 => (h.keys i h1 h2).imp (fun k => ⟨k.1, k.2.below hb⟩) id, h.key8.below hb, h.int⟩
theorem Wk.world {w : World} {lo o m s : Nat} {q : Nat → Value} (h : Wk w lo o m s q) (i : Nat) (u : Value) : Wk (w.setCell ⟨o, i, none⟩ u) lo o m s q :=
  ⟨h.o0, h.o4, h.perm, fun i h1 h2 => (h.keys i h1 h2).imp (fun k => ⟨k.1, k.2.set _ _⟩) id, h.key8.set _ _, h.int⟩
theorem Wk.setInt {w : World} {lo o m s s' : Nat} {q : Nat → Value} (h : Wk w lo o m s q) (i n : Nat) (h9 : 9 ≤ i) (hn : OkOf i n) (hs : s' ≤ s ∨ s' ≤ i + 1 ∧ i ≤ s) : Wk (w.setCell ⟨o, i, none⟩ (.int .i64 n)) lo o m s' (upd q i (.int .i64 n)) := by
  have h := h.world i (.int .i64 n)
  have e : ∀ j, j ≠ i → upd q i (.int .i64 n) j = q j := fun j hj => upd_other _ _ _ _ hj
  refine ⟨by rw [e _ (by omega)]; exact h.o0, by rw [e _ (by omega)]; exact h.o4, ?_, fun j h1 h2 => by rw [e _ (by omega)]; exact h.keys j h1 h2, by rw [e _ (by omega)]; exact h.key8, fun j h1 h2 => ?_⟩
  · rw [e _ (by omega), e _ (by omega), e _ (by omega)]; exact h.perm
  · by_cases hj : j = i
    · subst hj; exact ⟨n, upd_same _ _ _, hn.2.1, fun _ => hn⟩
    · rw [e _ hj]
      obtain ⟨k, e1, e2, e3⟩ := h.int j h1 h2
      exact ⟨k, e1, e2, fun h => e3 (by omega)⟩
theorem Wk.setKey {w : World} {lo o m s : Nat} {q : Nat → Value} (h : Wk w lo o m s q) (i : Nat) (v : Value) (hi : i = 5 + m) (h7 : i ≤ 7) (hk : KeyOk w lo o v) : Wk (w.setCell ⟨o, i, none⟩ v) lo o (m + 1) s (upd q i v) := by
  have h := h.world i v
  have e : ∀ j, j ≠ i → upd q i v j = q j := fun j hj => upd_other _ _ _ _ hj
  refine ⟨by rw [e _ (by omega)]; exact h.o0, by rw [e _ (by omega)]; exact h.o4, ?_, fun j h1 h2 => ?_, by rw [e _ (by omega)]; exact h.key8, fun j h1 h2 => by rw [e _ (by omega)]; exact h.int j h1 h2⟩
  · rw [e _ (by omega), e _ (by omega), e _ (by omega)]; exact h.perm
  · by_cases hj : j = i
    · subst hj; exact .inl ⟨by omega, by rw [upd_same]; exact hk.set _ _⟩
    · rw [e _ hj]
      rcases h.keys j h1 h2 with ⟨k1, k2⟩ | ⟨k1, k2⟩
      · exact .inl ⟨by omega, k2⟩
      · exact .inr ⟨by omega, k2⟩
/-- where it is made, out of what -/
structure St (W : World) (f : Nat → Value) (o m s : Nat) (q : Nat → Value) (w : World) : Prop where
  out : w.heap[o]? = some (.cells (mkc 56 q) 32 (0, 0))
  src : w.heap[W.heap.size]? = some (.cells (mkc 56 f) 32 (0, 0))
  res : ∃ r, w.heap[W.heap.size + 1]? = some (.cells (mkc 56 r) 32 (0, 0))
  bel : Below W.heap.size W w
  lo : W.heap.size + 2 ≤ o
  wk : Wk w (W.heap.size + 2) o m s q
theorem St.below {W w w' : World} {f q : Nat → Value} {o m s : Nat} (h : St W f o m s q w) (hb : Below w.heap.size w w') : St W f o m s q w' := by
  obtain ⟨r, hr⟩ := h.res
  exact ⟨blk_below h.out hb, blk_below h.src hb, ⟨r, blk_below hr hb⟩, h.bel.trans (hb.mono h.bel.size), h.lo, h.wk.below hb⟩
theorem St.set' {W w : World} {f q : Nat → Value} {o m s m' s' : Nat} (h : St W f o m s q w) (i : Nat) (v : Value) (hw : Wk (w.setCell ⟨o, i, none⟩ v) (W.heap.size + 2) o m' s' (upd q i v)) : St W f o m' s' (upd q i v) (w.setCell ⟨o, i, none⟩ v) := by
  obtain ⟨r, hr⟩ := h.res
  have hlo := h.lo
  refine ⟨?_, ?_, ⟨r, ?_⟩, h.bel.setCell (p := ⟨o, i, none⟩) (by simp only; omega) v, h.lo, hw⟩
  · rw [← mkc_set]; exact heap_set h.out i v
  · rw [Below.heap_setCell _ _ _ _ (by simp only; omega)]; exact h.src
  · rw [Below.heap_setCell _ _ _ _ (by simp only; omega)]; exact hr
theorem St.setInt {W w : World} {f q : Nat → Value} {o m s : Nat} (s' : Nat) (h : St W f o m s q w) (i n : Nat) (h9 : 9 ≤ i) (hn : OkOf i n) (hs : s' ≤ s ∨ s' ≤ i + 1 ∧ i ≤ s) : St W f o m s' (upd q i (.int .i64 n)) (w.setCell ⟨o, i, none⟩ (.int .i64 n)) := h.set' i _ (h.wk.setInt i n h9 hn hs)
theorem St.setKey {W w : World} {f q : Nat → Value} {o m s : Nat} (h : St W f o m s q w) (i : Nat) (v : Value) (h5 : i = 5 + m) (h7 : i ≤ 7) (hk : KeyOk w (W.heap.size + 2) o v) : St W f o (m + 1) s (upd q i v) (w.setCell ⟨o, i, none⟩ v) := h.set' i _ (h.wk.setKey i v h5 h7 hk)
theorem St.order {W w : World} {f q : Nat → Value} {o m s : Nat} (h : St W f o m s q w) (i k a b c : Nat) (vi vk : Value) (i1 : 1 ≤ i) (i3 : i ≤ 3) (k1 : 1 ≤ k) (k3 : k ≤ 3)
    (ha : upd (upd q i vi) k vk 1 = .int .i64 a) (hb : upd (upd q i vi) k vk 2 = .int .i64 b) (hc : upd (upd q i vi) k vk 3 = .int .i64 c)
    (a1 : 1 ≤ a) (a3 : a ≤ 3) (b1 : 1 ≤ b) (b3 : b ≤ 3) (c1 : 1 ≤ c) (c3 : c ≤ 3) (ab : a ≠ b) (ac : a ≠ c) (bc : b ≠ c) :
    St W f o m s (upd (upd q i vi) k vk) ((w.setCell ⟨o, i, none⟩ vi).setCell ⟨o, k, none⟩ vk) := by
  obtain ⟨r, hr⟩ := h.res
  have hlo := h.lo
  have hw := (h.wk.world i vi).world k vk
  have e : ∀ j, j < 1 ∨ 3 < j → upd (upd q i vi) k vk j = q j := fun j hj => by rw [upd_other _ _ _ _ (by omega), upd_other _ _ _ _ (by omega)]
  refine ⟨?_, ?_, ⟨r, ?_⟩, (h.bel.setCell (p := ⟨o, i, none⟩) (by simp only; omega) vi).setCell (p := ⟨o, k, none⟩) (by simp only; omega) vk, h.lo,
    ⟨by rw [e _ (by omega)]; exact hw.o0, by rw [e _ (by omega)]; exact hw.o4, ⟨a, b, c, ha, hb, hc, a1, a3, b1, b3, c1, c3, ab, ac, bc⟩, fun j h1 h2 => by rw [e _ (by omega)]; exact hw.keys j h1 h2, by rw [e _ (by omega)]; exact hw.key8, fun j h1 h2 => by rw [e _ (by omega)]; exact hw.int j h1 h2⟩⟩
  · rw [← mkc_set, ← mkc_set]; exact heap_set (heap_set h.out i vi) k vk
  · rw [Below.heap_setCell _ _ _ _ (by simp only; omega), Below.heap_setCell _ _ _ _ (by simp only; omega)]; exact h.src
  · rw [Below.heap_setCell _ _ _ _ (by simp only; omega), Below.heap_setCell _ _ _ _ (by simp only; omega)]; exact hr
theorem St.setV {W w : World} {f q : Nat → Value} {o m s : Nat} (s' : Nat) (h : St W f o m s q w) (i n : Nat) (z : Int) (hz : z = n) (h9 : 9 ≤ i) (hn : OkOf i n) (hs : s' ≤ s ∨ s' ≤ i + 1 ∧ i ≤ s) : St W f o m s' (upd q i (.int .i64 z)) (w.setCell ⟨o, i, none⟩ (.int .i64 z)) := by
  subst hz; exact h.setInt s' i n h9 hn hs
theorem St.skip {W w : World} {f q : Nat → Value} {o m s : Nat} (s' : Nat) (h : St W f o m s q w) (hs : ∀ i, s ≤ i → i < s' → loOf i = 0 ∧ 13 ≤ i) : St W f o m s' q w := by
  refine ⟨h.out, h.src, h.res, h.bel, h.lo, h.wk.o0, h.wk.o4, h.wk.perm, h.wk.keys, h.wk.key8, fun i h1 h2 => ?_⟩
  obtain ⟨n, e1, e2, e3⟩ := h.wk.int i h1 h2
  refine ⟨n, e1, e2, fun hi => ?_⟩
  by_cases c : i < s
  · exact e3 c
  · have := hs i (by omega) hi
    exact ⟨by omega, e2, fun _ h => by omega⟩
theorem St.drew {W w : World} {f q : Nat → Value} {o m s : Nat} (h : St W f o m s q w) : St W f o m s q w.drew :=
  h.below (below_drewN1 w)
/-- The policy that came of it. -/
structure Fitted (w : World) (g : Nat → Value) : Prop where
  o0 : g 0 = .int .i64 0
  o4 : g 4 = .int .i64 4
  perm : ∃ a b c : Nat, g 1 = .int .i64 a ∧ g 2 = .int .i64 b ∧ g 3 = .int .i64 c ∧ 1 ≤ a ∧ a ≤ 3 ∧ 1 ≤ b ∧ b ≤ 3 ∧ 1 ≤ c ∧ c ≤ 3 ∧ a ≠ b ∧ a ≠ c ∧ b ≠ c
  keys : ∀ i, 5 ≤ i → i ≤ 8 → ∃ (A : Option Addr) (n cap : Nat) (ys : List Int) (base : Nat), g i = .slice A n cap ∧ ys.length = n ∧ Own w base A cap ys ∧ 1 ≤ n ∧ n ≤ 64
  int : ∀ i, 9 ≤ i → i < 56 → ∃ n : Nat, g i = .int .i64 n ∧ OkOf i n
theorem Fitted.below {w w' : World} {g : Nat → Value} (h : Fitted w g) (hb : Below w.heap.size w w') : Fitted w' g :=
  ⟨h.o0, h.o4, h.perm, fun i h1 h2 => by obtain ⟨A, n, cap, ys, base, e, l, ho, r⟩ := h.keys i h1 h2; exact ⟨A, n, cap, ys, base, e, l, own_below ho hb, r⟩, h.int⟩
theorem St.done {W w : World} {f q : Nat → Value} {o : Nat} (h : St W f o 3 56 q w) : Fitted (w.setRow (W.heap.size + 1) (mkc 56 q)) q := by
  refine ⟨h.wk.o0, h.wk.o4, h.wk.perm, fun i h1 h2 => ?_, fun i h1 h2 => ?_⟩
  · have hk : KeyOk w (W.heap.size + 2) o (q i) := by
      rcases Nat.lt_or_ge i 8 with h8 | h8
      · rcases h.wk.keys i h1 (by omega) with k | k
        · exact k.2
        · omega
      · obtain rfl : i = 8 := by omega
        exact h.wk.key8
    obtain ⟨A, n, cap, ys, base, e, l, ho, r1, r2, -⟩ := (hk.other (p := W.heap.size + 1) (by omega)).keep (w' := w.setRow (W.heap.size + 1) (mkc 56 q)) (fun k hk => setRow_other _ _ _ _ hk)
    exact ⟨A, n, cap, ys, base, e, l, ho, r1, r2⟩
  · obtain ⟨n, e1, e2, e3⟩ := h.wk.int i h1 h2
    exact ⟨n, e1, e3 h2⟩
theorem St.one {W w : World} {f q : Nat → Value} {o s : Nat} (h : St W f o 3 s q w) : ∀ i, i < 56 → (q i).oneCell' = true := by
  intro i hi
  obtain ⟨a, b, c, e1, e2, e3, -⟩ := h.wk.perm
  by_cases h9 : 9 ≤ i
  · obtain ⟨n, e, -⟩ := h.wk.int i h9 hi
    rw [e]; rfl
  · by_cases h5 : 5 ≤ i
    · have hk : KeyOk w (W.heap.size + 2) o (q i) := by
        rcases Nat.lt_or_ge i 8 with h8 | h8
        · rcases h.wk.keys i h5 (by omega) with k | k
          · exact k.2
          · omega
        · obtain rfl : i = 8 := by omega
          exact h.wk.key8
      obtain ⟨A, n, cap, ys, base, e, -⟩ := hk
      rw [e]; rfl
    · rcases (show i = 0 ∨ i = 1 ∨ i = 2 ∨ i = 3 ∨ i = 4 by omega) with rfl | rfl | rfl | rfl | rfl
      · rw [h.wk.o0]; rfl
      · rw [e1]; rfl
      · rw [e2]; rfl
      · rw [e3]; rfl
      · rw [h.wk.o4]; rfl
theorem i64_and14 (a : Int) : ∃ n : Nat, bits .and .i64 a 14 = n ∧ n ≤ 14 ∧ n % 2 = 0 := by
  refine ⟨(BitVec.ofInt 64 a &&& BitVec.ofInt 64 14).toNat, ?_, ?_, ?_⟩
  · show IntKind.i64.wrap _ = _
    apply IntWalk.i64_in
    have : (BitVec.ofInt 64 a &&& BitVec.ofInt 64 14).toNat ≤ 14 := by rw [BitVec.toNat_and]; exact Nat.and_le_right
    show _ ≤ ((BitVec.ofInt 64 a &&& BitVec.ofInt 64 14).toNat : Int) ∧ ((BitVec.ofInt 64 a &&& BitVec.ofInt 64 14).toNat : Int) ≤ _
    omega
  · rw [BitVec.toNat_and]; exact Nat.and_le_right
  · rw [BitVec.toNat_and]
    have := Nat.and_mod_two_pow (a := (BitVec.ofInt 64 a).toNat) (b := (BitVec.ofInt 64 14).toNat) (n := 1)
    rw [Nat.pow_one] at this
    rw [this]
    exact Nat.and_zero _
theorem lo_skip1 (i : Nat) (h1 : 14 ≤ i) (h2 : i < 39) : loOf i = 0 ∧ 13 ≤ i := by
  unfold loOf; rw [if_neg (by omega), if_pos (by omega)]; omega
theorem lo_skip2 (i : Nat) (h1 : 50 ≤ i) (h2 : i < 54) : loOf i = 0 ∧ 13 ≤ i := by
  unfold loOf
  rw [if_neg (by omega), if_neg (by omega), if_neg (by omega), if_neg (by omega), if_neg (by omega), if_neg (by omega)]
  omega
theorem okof_table (i n : Nat) (h1 : 14 ≤ i) (h2 : i < 34) (hn : n ≤ 15) : OkOf i n := by
  unfold OkOf loOf hiOf
  rw [if_neg (by omega), if_pos (by omega), if_neg (by omega), if_neg (by omega), if_neg (by omega), if_pos (by omega)]
  exact ⟨by omega, hn, fun _ h => by omega⟩
theorem okof_graph (i n : Nat) (h1 : 34 ≤ i) (h2 : i < 39) (hn : n ≤ 31) : OkOf i n := by
  unfold OkOf loOf hiOf
  rw [if_neg (by omega), if_pos (by omega), if_neg (by omega), if_neg (by omega), if_neg (by omega), if_neg (by omega), if_pos (by omega)]
  exact ⟨by omega, hn, fun _ h => by omega⟩
theorem okof_most (i n : Nat) (h1 : 51 ≤ i) (h2 : i < 54) (hn : n ≤ 1000) : OkOf i n := by
  unfold OkOf loOf hiOf
  refine ⟨?_, ?_, fun _ h => by omega⟩
  · repeat (first | rw [if_neg (by omega)] | rw [if_pos (by omega)])
    omega
  · rw [if_neg (by omega), if_neg (by omega), if_neg (by omega), if_neg (by omega), if_neg (by omega), if_neg (by omega), if_neg (by omega), if_neg (by omega), if_neg (by omega), if_pos (by omega)]
    exact hn
theorem info_pol : (Try.prog.info? 32).map (·.size) = some 56 := by kernel_rfl

def IsFit (w : World) (e : Ending) : Prop := ∃ g, e = .returned (.agg (mkc 56 g)) ∧ Fitted w g
set_option maxRecDepth 100000 in
set_option maxHeartbeats 8000000 in
theorem fit_any (f : Nat → Value) (w : World) (hp : PolOk w f) :
    Calls Try.prog 13 #[.agg (mkc 56 f)] w fun e w' => IsFit w' e ∧ Below w.heap.size w w' := by
  obtain ⟨A8, xs8, cap8, e8, l8, c8, r8, -⟩ := hp.key 8 (by omega) (by omega)
  have HP := Lib.hid hp
  clear hp
  go_enter Try.func13, Try.ntmps13
  go_wp2_with fail
  refine (key_any A8 xs8 cap8 _ (row_below r8 (below_alloc2 w _ _)) l8 c8).mono ?_
  rintro e w1 ⟨⟨B8, n8, d8, ys8, rfl, hl8, ho8, k1, k2⟩, b1⟩
  have B1 := Lib.hid b1
  clear b1 r8
  have HO8 := Lib.hid ho8
  clear ho8 l8 c8
  have HH := Lib.hid e8
  clear e8
  go_wp2_with ((with_reducible show wpList _ _ _ (⟨some 15, _, _, _, _, _⟩ :: _) _ _); refine Marker.mk ?_)
  refine Marker.in ?_
  refine wpList_build' ?g1 32 #[(0, .tmp 11), (2, .tmp 14)] ?g2 (mkc 56 (pol0 (.slice B8 n8 d8))) ?he ?_
  case g1 => rfl
  case g2 => rfl
  case he => exact built_pol B8 n8 d8
  go_wp2_with ((with_reducible show wpList _ _ _ (⟨none, .store _ (.tmp 3) (.tmp 15), _, _, _, _⟩ :: _) _ _); refine Marker.mk ?_)
  refine Marker.in ?_
  refine wpList_store_row ?g1 32 (.tmp 3) (.tmp 15) ?g2 w1.heap.size (mkc 56 (pol0 (.slice B8 n8 d8))) ?h1 ?h2 32 ?old ?h3 ?h4 ?h5 ?h6 ?_
  case g1 => rfl
  case g2 => rfl
  case h1 => rfl
  case h2 => rfl
  case h3 => exact heap_alloc_new _ _
  case h4 => exact info_pol
  case h5 => rfl
  case h6 => exact one_mkc (one_pol0 B8 n8 d8)
  rw [World.setRow_alloc_new]
  have hst : St w f w1.heap.size 0 9 (pol0 (.slice B8 n8 d8)) (w1.alloc (.cells (mkc 56 (pol0 (.slice B8 n8 d8))) 32)) := by
    obtain ⟨z1, z2, z3⟩ := blk_two B1.out
    rw [mkc_of (#[.int .i64 0, _, _, _, _, _, _, _, _, _, _, _, _, _, _, _, _, _, _, _, _, _, _, _, _, _, _, _, _, _, _, _, _, _, _, _, _, _, _, _, _, _, _, _, _, _, _, _, _, _, _, _, _, _, _, _] : Array Value) 56 rfl] at z2
    have bw : Below w1.heap.size w1 (w1.alloc (.cells (mkc 56 (pol0 (.slice B8 n8 d8))) 32)) := below_alloc1 _ _
    refine ⟨heap_alloc_new _ _, blk_below z1 bw, ⟨_, blk_below z2 bw⟩, below_next (below_next (below_alloc2 _ _ _) B1.out (by simp)) bw (by omega), by omega, ?_⟩
    refine Wk.below ⟨rfl, rfl, ⟨1, 2, 3, rfl, rfl, rfl, by omega, by omega, by omega, by omega, by omega, by omega, by omega, by omega, by omega⟩, fun i h1 h2 => .inr ⟨by omega, ?_⟩, KeyOk.new hl8 HO8.out k1 k2 (.inr (Nat.le_refl _)) (by simp), fun i h1 h2 => ⟨0, ?_, Nat.zero_le _, fun h => by omega⟩⟩ bw
    · unfold pol0; rw [if_neg (by omega), if_neg (by omega), if_pos (by omega)]
    · unfold pol0; rw [if_neg (by omega), if_neg (by omega), if_neg (by omega)]; rfl
  generalize w1.alloc (.cells (mkc 56 (pol0 (.slice B8 n8 d8))) 32) = wa at *
  have HST := Lib.hid hst
  clear hst
  go_wp2_with fail
  go_loopw [4] (fun y wr => ∃ (i : Nat) (q : Nat → Value), y = .int .i64 i ∧ 1 ≤ i ∧ i ≤ 3 ∧ St w f w1.heap.size 0 9 q wr) (fun y _ => 3 - (intOf y).toNat)
  case atStart => exact ⟨1, _, rfl, by omega, by omega, HST.out⟩
  case round =>
    obtain ⟨i, q, rfl, hi1, hi3, hs⟩ := hrel
    clear HST
    obtain ⟨cO, fO⟩ := blk_cells hs.out
    obtain ⟨cS, -⟩ := blk_cells hs.src
    have hne : w.heap.size ≠ w1.heap.size := by have := hs.lo; omega
    obtain ⟨a, b, c, qa, qb, qc, a1, a3, b1, b3, c1, c3, ab, ac, bc⟩ := hs.wk.perm
    have q0 := hs.wk.o0
    have q4 := hs.wk.o4
    have HS := Lib.hid hs
    clear hs
    rcases (show i = 1 ∨ i = 2 ∨ i = 3 by omega) with rfl | rfl | rfl
    · obtain ⟨e1, m1, m2⟩ := HP.out.int 1 (by omega) (by omega)
      obtain ⟨p1, hp1⟩ : ∃ p1, intOf (f 1) = p1 := ⟨_, rfl⟩
      rw [hp1] at e1 m1 m2
      go_wp2_with fail
      refine (mod_any p1 3 _ (by omega) (by omega) (by omega) (by omega)).mono ?_
      rintro e wm ⟨rfl, rfl⟩
      rcases (show p1 % 3 = 0 ∨ p1 % 3 = 1 ∨ p1 % 3 = 2 by omega) with h | h | h <;> rw [h]
      · go_wp2
        exact ⟨⟨2, _, rfl, by omega, by omega, HS.out.order 1 1 a b c _ _ (by omega) (by omega) (by omega) (by omega) (by simp [upd, qa, qb, qc]) (by simp [upd, qa, qb, qc]) (by simp [upd, qa, qb, qc]) (by omega) (by omega) (by omega) (by omega) (by omega) (by omega) (by omega) (by omega) (by omega)⟩, by simp [intOf]⟩
      · go_wp2
        exact ⟨⟨2, _, rfl, by omega, by omega, HS.out.order 1 2 b a c _ _ (by omega) (by omega) (by omega) (by omega) (by simp [upd, qa, qb, qc]) (by simp [upd, qa, qb, qc]) (by simp [upd, qa, qb, qc]) (by omega) (by omega) (by omega) (by omega) (by omega) (by omega) (by omega) (by omega) (by omega)⟩, by simp [intOf]⟩
      · go_wp2
        exact ⟨⟨2, _, rfl, by omega, by omega, HS.out.order 1 3 c b a _ _ (by omega) (by omega) (by omega) (by omega) (by simp [upd, qa, qb, qc]) (by simp [upd, qa, qb, qc]) (by simp [upd, qa, qb, qc]) (by omega) (by omega) (by omega) (by omega) (by omega) (by omega) (by omega) (by omega) (by omega)⟩, by simp [intOf]⟩
    · obtain ⟨e1, m1, m2⟩ := HP.out.int 2 (by omega) (by omega)
      obtain ⟨p1, hp1⟩ : ∃ p1, intOf (f 2) = p1 := ⟨_, rfl⟩
      rw [hp1] at e1 m1 m2
      go_wp2_with fail
      refine (mod_any p1 2 _ (by omega) (by omega) (by omega) (by omega)).mono ?_
      rintro e wm ⟨rfl, rfl⟩
      rcases (show p1 % 2 = 0 ∨ p1 % 2 = 1 by omega) with h | h <;> rw [h]
      · go_wp2
        exact ⟨⟨3, _, rfl, by omega, by omega, HS.out.order 2 2 a b c _ _ (by omega) (by omega) (by omega) (by omega) (by simp [upd, qa, qb, qc]) (by simp [upd, qa, qb, qc]) (by simp [upd, qa, qb, qc]) (by omega) (by omega) (by omega) (by omega) (by omega) (by omega) (by omega) (by omega) (by omega)⟩, by simp [intOf]⟩
      · go_wp2
        exact ⟨⟨3, _, rfl, by omega, by omega, HS.out.order 2 3 a c b _ _ (by omega) (by omega) (by omega) (by omega) (by simp [upd, qa, qb, qc]) (by simp [upd, qa, qb, qc]) (by simp [upd, qa, qb, qc]) (by omega) (by omega) (by omega) (by omega) (by omega) (by omega) (by omega) (by omega) (by omega)⟩, by simp [intOf]⟩
    · go_wp2_with fail
      clear cO fO cS qa qb qc q0 q4 a1 a3 b1 b3 c1 c3 ab ac bc
      simp only [show ((3 : Nat) : Int) = 3 from rfl]
      go_loopw [7] (fun y wr => ∃ (i : Nat) (q : Nat → Value), y = .int .i64 i ∧ i ≤ 3 ∧ St w f w1.heap.size i 9 q wr) (fun y _ => 3 - (intOf y).toNat)
      case atStart => exact ⟨0, _, rfl, by omega, HS.out⟩
      case round =>
        clear HS a b c
        obtain ⟨i, q, rfl, hi3, hs⟩ := hrel
        obtain ⟨cO, fO⟩ := blk_cells hs.out
        obtain ⟨cS, -⟩ := blk_cells hs.src
        have HS := Lib.hid hs
        clear hs
        rcases (show i = 0 ∨ i = 1 ∨ i = 2 ∨ i = 3 by omega) with rfl | rfl | rfl | rfl
        · obtain ⟨A, xs, cap, e, l, c, r, -⟩ := HP.out.key 5 (by omega) (by omega)
          have hr := row_below r (Below.mono HS.out.bel (Nat.le_refl _))
          clear r
          go_wp2_with fail
          refine (key_any A xs cap _ hr l c).mono ?_
          rintro e w2 ⟨⟨B, n, d, ys, rfl, hl, ho, k1, k2⟩, b1⟩
          have hs2 := HS.out.below b1
          have hlt := blk_lt HS.out.out
          clear cO fO cS hr
          obtain ⟨cO, fO⟩ := blk_cells hs2.out
          have HS2 := Lib.hid (hs2.setKey 5 (.slice B n d) rfl (by omega) (KeyOk.new hl ho k1 k2 (.inl hlt) (by have := HS.out.lo; omega)))
          clear hs2 ho b1 hlt HS k1 k2 hl l c
          go_wp2
          exact ⟨⟨1, _, rfl, by omega, HS2.out⟩, by simp [intOf]⟩
        · obtain ⟨A, xs, cap, e, l, c, r, -⟩ := HP.out.key 6 (by omega) (by omega)
          have hr := row_below r (Below.mono HS.out.bel (Nat.le_refl _))
          clear r
          go_wp2_with fail
          refine (key_any A xs cap _ hr l c).mono ?_
          rintro e w2 ⟨⟨B, n, d, ys, rfl, hl, ho, k1, k2⟩, b1⟩
          have hs2 := HS.out.below b1
          have hlt := blk_lt HS.out.out
          clear cO fO cS hr
          obtain ⟨cO, fO⟩ := blk_cells hs2.out
          have HS2 := Lib.hid (hs2.setKey 6 (.slice B n d) rfl (by omega) (KeyOk.new hl ho k1 k2 (.inl hlt) (by have := HS.out.lo; omega)))
          clear hs2 ho b1 hlt HS k1 k2 hl l c
          go_wp2
          exact ⟨⟨2, _, rfl, by omega, HS2.out⟩, by simp [intOf]⟩
        · obtain ⟨A, xs, cap, e, l, c, r, -⟩ := HP.out.key 7 (by omega) (by omega)
          have hr := row_below r (Below.mono HS.out.bel (Nat.le_refl _))
          clear r
          go_wp2_with fail
          refine (key_any A xs cap _ hr l c).mono ?_
          rintro e w2 ⟨⟨B, n, d, ys, rfl, hl, ho, k1, k2⟩, b1⟩
          have hs2 := HS.out.below b1
          have hlt := blk_lt HS.out.out
          clear cO fO cS hr
          obtain ⟨cO, fO⟩ := blk_cells hs2.out
          have HS2 := Lib.hid (hs2.setKey 7 (.slice B n d) rfl (by omega) (KeyOk.new hl ho k1 k2 (.inl hlt) (by have := HS.out.lo; omega)))
          clear hs2 ho b1 hlt HS k1 k2 hl l c
          go_wp2
          exact ⟨⟨3, _, rfl, by omega, HS2.out⟩, by simp [intOf]⟩
        · have HS := Lib.hid (HS.out.skip 9 (by omega))
          obtain ⟨f10, b10, t10⟩ := HP.out.int 10 (by omega) (by omega)
          obtain ⟨f11, b11, t11⟩ := HP.out.int 11 (by omega) (by omega)
          obtain ⟨f12, b12, t12⟩ := HP.out.int 12 (by omega) (by omega)
          obtain ⟨n10, a10, c10, d10⟩ := i64_and14 (intOf (f 10))
          obtain ⟨n11, a11, c11, d11⟩ := i64_and14 (intOf (f 11))
          obtain ⟨n12, a12, c12, d12⟩ := i64_and14 (intOf (f 12))
          generalize intOf (f 10) = p10 at *
          generalize intOf (f 11) = p11 at *
          generalize intOf (f 12) = p12 at *
          have hne : w.heap.size ≠ w1.heap.size := by have := HS.out.lo; omega
          go_wp2_with fail
          have HS2 := Lib.hid (((((HS.out.setV 10 9 1 1 rfl (by omega) (by unfold OkOf loOf hiOf; simp; try omega) (by omega)).setV 11 10 n10 _ rfl (by omega) (by unfold OkOf loOf hiOf; simp; try omega) (by omega)).setV 12 11 n11 _ rfl (by omega) (by unfold OkOf loOf hiOf; simp; try omega) (by omega)).setV 13 12 n12 _ rfl (by omega) (by unfold OkOf loOf hiOf; simp; try omega) (by omega)).setV 14 13 0 0 rfl (by omega) (by unfold OkOf loOf hiOf; simp; try omega) (by omega))
          clear HS cO fO cS f10 f11 f12 b10 b11 b12 t10 t11 t12 a10 a11 a12
          simp only [show ((3 : Nat) : Int) = 3 from rfl]
          go_loopw [8] (fun y wr => ∃ (i : Nat) (q : Nat → Value), y = .int .i64 i ∧ i ≤ 5 ∧ St w f w1.heap.size 3 14 q wr) (fun y _ => 5 - (intOf y).toNat)
          case atStart => exact ⟨0, _, rfl, by omega, HS2.out⟩
          case round =>
            clear HS2 c10 c11 c12 d10 d11 d12
            obtain ⟨i, q, rfl, hi5, hs⟩ := hrel
            have HS := Lib.hid hs
            clear hs
            by_cases hlt : i < 5
            · go_wp2_with fail
              obtain ⟨wo, rfl⟩ : ∃ wo : World, wo = wr := ⟨_, rfl⟩
              go_loopw [9] (fun y wr => ∃ (k : Nat) (q : Nat → Value), y = .int .i64 k ∧ k ≤ 4 ∧ St w f w1.heap.size 3 14 q wr) (fun y _ => 4 - (intOf y).toNat)
              case atStart => exact ⟨0, _, rfl, by omega, HS.out⟩
              case round =>
                clear HS
                obtain ⟨k, q, rfl, hk4, hs⟩ := hrel
                obtain ⟨cO, fO⟩ := blk_cells hs.out
                obtain ⟨cS, -⟩ := blk_cells hs.src
                have HS := Lib.hid hs
                clear hs
                by_cases hk : k < 4
                · have hlt' : 14 + i * 4 + k < 56 := by omega
                  obtain ⟨e1, m1, m2⟩ := HP.out.int (14 + i * 4 + k) hlt' (by omega)
                  obtain ⟨p1, hp1⟩ : ∃ p1, intOf (f (14 + i * 4 + k)) = p1 := ⟨_, rfl⟩
                  rw [hp1] at e1 m1 m2
                  obtain ⟨n, hn, hn2⟩ : ∃ n : Nat, p1 % 16 = n ∧ n ≤ 15 := ⟨(p1 % 16).toNat, by omega, by omega⟩
                  have HS3 := Lib.hid (HS.out.setV 14 (14 + i * 4 + k) n (p1 % 16) hn (by omega) (okof_table _ _ (by omega) (by omega) hn2) (by omega))
                  clear hp1 hn hn2
                  go_wp2_with fail
                  go_region
                  go_wp2_with fail
                  exact ⟨⟨k + 1, _, by go_num, by omega, HS3.out.drew⟩, by simp [intOf]; omega⟩
                · have hlt' : 34 + i < 56 := by omega
                  obtain ⟨e1, m1, m2⟩ := HP.out.int (34 + i) hlt' (by omega)
                  obtain ⟨p1, hp1⟩ : ∃ p1, intOf (f (34 + i)) = p1 := ⟨_, rfl⟩
                  rw [hp1] at e1 m1 m2
                  obtain ⟨n, hn, hn2⟩ : ∃ n : Nat, p1 % 32 = n ∧ n ≤ 31 := ⟨(p1 % 32).toNat, by omega, by omega⟩
                  have HS3 := Lib.hid (HS.out.setV 14 (34 + i) n (p1 % 32) hn (by omega) (okof_graph _ _ (by omega) (by omega) hn2) (by omega))
                  clear hp1 hn hn2
                  go_wp2_with fail
                  exact ⟨⟨i + 1, _, by go_num, by omega, HS3.out⟩, by simp [intOf]; omega⟩
            · have HS0 := Lib.hid (HS.out.skip 39 (fun i h1 h2 => lo_skip1 i h1 h2))
              clear HS
              obtain ⟨e1, m1, m2⟩ := HP.out.int 39 (by omega) (by omega)
              obtain ⟨p1, hp1⟩ : ∃ p1, intOf (f 39) = p1 := ⟨_, rfl⟩
              rw [hp1] at e1 m1 m2
              clear hp1
              obtain ⟨n39, hn, t39⟩ : ∃ n : Nat, p1 % 5 = n ∧ n ≤ 4 := ⟨(p1 % 5).toNat, by omega, by omega⟩
              obtain ⟨cO, fO⟩ := blk_cells HS0.out.out
              obtain ⟨cS, -⟩ := blk_cells HS0.out.src
              have HN := Lib.hid hn
              clear hn
              go_wp2_with fail
              refine (mod_any p1 5 _ (by omega) (by omega) (by omega) (by omega)).mono ?_
              rintro e wm ⟨rfl, rfl⟩
              rw [HN.out]
              clear hlt e1 m1 m2 HN
              obtain ⟨e1, m1, m2⟩ := HP.out.int 40 (by omega) (by omega)
              obtain ⟨p1, hp1⟩ : ∃ p1, intOf (f 40) = p1 := ⟨_, rfl⟩
              rw [hp1] at e1 m1 m2
              clear hp1
              obtain ⟨n40, hn, t40⟩ : ∃ n : Nat, p1 % 5 = n ∧ n ≤ 4 := ⟨(p1 % 5).toNat, by omega, by omega⟩
              have HN := Lib.hid hn
              clear hn
              go_wp2_with fail
              refine (mod_any p1 5 _ (by omega) (by omega) (by omega) (by omega)).mono ?_
              rintro e wm ⟨rfl, rfl⟩
              rw [HN.out]
              have HS1 := Lib.hid (HS0.out.setV 40 39 n39 ((n39 : Int)) (by omega) (by omega) (by unfold OkOf loOf hiOf; simp; try omega) (by omega))
              clear HS0 cO fO cS
              generalize World.setCell _ ⟨w1.heap.size, 39, none⟩ (.int .i64 ((n39 : Int))) = x1 at *
              clear e1 m1 m2 HN t39
              obtain ⟨cO, fO⟩ := blk_cells HS1.out.out
              obtain ⟨cS, -⟩ := blk_cells HS1.out.src
              obtain ⟨e1, m1, m2⟩ := HP.out.int 41 (by omega) (by omega)
              obtain ⟨p1, hp1⟩ : ∃ p1, intOf (f 41) = p1 := ⟨_, rfl⟩
              rw [hp1] at e1 m1 m2
              clear hp1
              obtain ⟨n41, hn, t41⟩ : ∃ n : Nat, p1 % 5 = n ∧ n ≤ 4 := ⟨(p1 % 5).toNat, by omega, by omega⟩
              have HN := Lib.hid hn
              clear hn
              go_wp2_with fail
              refine (mod_any p1 5 _ (by omega) (by omega) (by omega) (by omega)).mono ?_
              rintro e wm ⟨rfl, rfl⟩
              rw [HN.out]
              have HS2 := Lib.hid (HS1.out.setV 41 40 n40 ((n40 : Int)) (by omega) (by omega) (by unfold OkOf loOf hiOf; simp; try omega) (by omega))
              clear HS1 cO fO cS
              generalize World.setCell _ ⟨w1.heap.size, 40, none⟩ (.int .i64 ((n40 : Int))) = x2 at *
              clear e1 m1 m2 HN t40
              obtain ⟨cO, fO⟩ := blk_cells HS2.out.out
              obtain ⟨cS, -⟩ := blk_cells HS2.out.src
              obtain ⟨e1, m1, m2⟩ := HP.out.int 42 (by omega) (by omega)
              obtain ⟨p1, hp1⟩ : ∃ p1, intOf (f 42) = p1 := ⟨_, rfl⟩
              rw [hp1] at e1 m1 m2
              clear hp1
              obtain ⟨n42, hn, t42⟩ : ∃ n : Nat, p1 % 1000 = n ∧ n ≤ 999 := ⟨(p1 % 1000).toNat, by omega, by omega⟩
              have HN := Lib.hid hn
              clear hn
              go_wp2_with fail
              refine (mod_any p1 1000 _ (by omega) (by omega) (by omega) (by omega)).mono ?_
              rintro e wm ⟨rfl, rfl⟩
              rw [HN.out]
              have HS3 := Lib.hid (HS2.out.setV 42 41 n41 ((n41 : Int)) (by omega) (by omega) (by unfold OkOf loOf hiOf; simp; try omega) (by omega))
              clear HS2 cO fO cS
              generalize World.setCell _ ⟨w1.heap.size, 41, none⟩ (.int .i64 ((n41 : Int))) = x3 at *
              clear e1 m1 m2 HN t41
              obtain ⟨cO, fO⟩ := blk_cells HS3.out.out
              obtain ⟨cS, -⟩ := blk_cells HS3.out.src
              obtain ⟨e1, m1, m2⟩ := HP.out.int 43 (by omega) (by omega)
              obtain ⟨p1, hp1⟩ : ∃ p1, intOf (f 43) = p1 := ⟨_, rfl⟩
              rw [hp1] at e1 m1 m2
              clear hp1
              obtain ⟨n43, hn, t43⟩ : ∃ n : Nat, p1 % 1000 = n ∧ n ≤ 999 := ⟨(p1 % 1000).toNat, by omega, by omega⟩
              have HN := Lib.hid hn
              clear hn
              go_wp2_with fail
              refine (mod_any p1 1000 _ (by omega) (by omega) (by omega) (by omega)).mono ?_
              rintro e wm ⟨rfl, rfl⟩
              rw [HN.out]
              have HS4 := Lib.hid (HS3.out.setV 43 42 (1 + n42) (1 + (n42 : Int)) (by omega) (by omega) (by unfold OkOf loOf hiOf; simp; try omega) (by omega))
              clear HS3 cO fO cS
              generalize World.setCell _ ⟨w1.heap.size, 42, none⟩ (.int .i64 (1 + (n42 : Int))) = x4 at *
              clear e1 m1 m2 HN t42
              obtain ⟨cO, fO⟩ := blk_cells HS4.out.out
              obtain ⟨cS, -⟩ := blk_cells HS4.out.src
              obtain ⟨e1, m1, m2⟩ := HP.out.int 44 (by omega) (by omega)
              obtain ⟨p1, hp1⟩ : ∃ p1, intOf (f 44) = p1 := ⟨_, rfl⟩
              rw [hp1] at e1 m1 m2
              clear hp1
              obtain ⟨n44, hn, t44⟩ : ∃ n : Nat, p1 % 1000 = n ∧ n ≤ 999 := ⟨(p1 % 1000).toNat, by omega, by omega⟩
              have HN := Lib.hid hn
              clear hn
              go_wp2_with fail
              refine (mod_any p1 1000 _ (by omega) (by omega) (by omega) (by omega)).mono ?_
              rintro e wm ⟨rfl, rfl⟩
              rw [HN.out]
              have HS5 := Lib.hid (HS4.out.setV 44 43 (1 + n43) (1 + (n43 : Int)) (by omega) (by omega) (by unfold OkOf loOf hiOf; simp; try omega) (by omega))
              clear HS4 cO fO cS
              generalize World.setCell _ ⟨w1.heap.size, 43, none⟩ (.int .i64 (1 + (n43 : Int))) = x5 at *
              clear e1 m1 m2 HN t43
              obtain ⟨cO, fO⟩ := blk_cells HS5.out.out
              obtain ⟨cS, -⟩ := blk_cells HS5.out.src
              obtain ⟨e1, m1, m2⟩ := HP.out.int 45 (by omega) (by omega)
              obtain ⟨p1, hp1⟩ : ∃ p1, intOf (f 45) = p1 := ⟨_, rfl⟩
              rw [hp1] at e1 m1 m2
              clear hp1
              obtain ⟨n45, hn, t45⟩ : ∃ n : Nat, p1 % 1000 = n ∧ n ≤ 999 := ⟨(p1 % 1000).toNat, by omega, by omega⟩
              have HN := Lib.hid hn
              clear hn
              go_wp2_with fail
              refine (mod_any p1 1000 _ (by omega) (by omega) (by omega) (by omega)).mono ?_
              rintro e wm ⟨rfl, rfl⟩
              rw [HN.out]
              have HS6 := Lib.hid (HS5.out.setV 45 44 (1 + n44) (1 + (n44 : Int)) (by omega) (by omega) (by unfold OkOf loOf hiOf; simp; try omega) (by omega))
              clear HS5 cO fO cS
              generalize World.setCell _ ⟨w1.heap.size, 44, none⟩ (.int .i64 (1 + (n44 : Int))) = x6 at *
              clear e1 m1 m2 HN t44
              obtain ⟨cO, fO⟩ := blk_cells HS6.out.out
              obtain ⟨cS, -⟩ := blk_cells HS6.out.src
              obtain ⟨e1, m1, m2⟩ := HP.out.int 46 (by omega) (by omega)
              obtain ⟨p1, hp1⟩ : ∃ p1, intOf (f 46) = p1 := ⟨_, rfl⟩
              rw [hp1] at e1 m1 m2
              clear hp1
              obtain ⟨n46, hn, t46⟩ : ∃ n : Nat, p1 % 1000 = n ∧ n ≤ 999 := ⟨(p1 % 1000).toNat, by omega, by omega⟩
              have HN := Lib.hid hn
              clear hn
              go_wp2_with fail
              refine (mod_any p1 1000 _ (by omega) (by omega) (by omega) (by omega)).mono ?_
              rintro e wm ⟨rfl, rfl⟩
              rw [HN.out]
              have HS7 := Lib.hid (HS6.out.setV 46 45 (1 + n45) (1 + (n45 : Int)) (by omega) (by omega) (by unfold OkOf loOf hiOf; simp; try omega) (by omega))
              clear HS6 cO fO cS
              generalize World.setCell _ ⟨w1.heap.size, 45, none⟩ (.int .i64 (1 + (n45 : Int))) = x7 at *
              clear e1 m1 m2 HN t45
              obtain ⟨cO, fO⟩ := blk_cells HS7.out.out
              obtain ⟨cS, -⟩ := blk_cells HS7.out.src
              obtain ⟨e1, m1, m2⟩ := HP.out.int 47 (by omega) (by omega)
              obtain ⟨p1, hp1⟩ : ∃ p1, intOf (f 47) = p1 := ⟨_, rfl⟩
              rw [hp1] at e1 m1 m2
              clear hp1
              obtain ⟨n47, hn, t47⟩ : ∃ n : Nat, p1 % 1001 = n ∧ n ≤ 1000 := ⟨(p1 % 1001).toNat, by omega, by omega⟩
              have HN := Lib.hid hn
              clear hn
              go_wp2_with fail
              refine (mod_any p1 1001 _ (by omega) (by omega) (by omega) (by omega)).mono ?_
              rintro e wm ⟨rfl, rfl⟩
              rw [HN.out]
              have HS8 := Lib.hid (HS7.out.setV 47 46 (1 + n46) (1 + (n46 : Int)) (by omega) (by omega) (by unfold OkOf loOf hiOf; simp; try omega) (by omega))
              clear HS7 cO fO cS
              generalize World.setCell _ ⟨w1.heap.size, 46, none⟩ (.int .i64 (1 + (n46 : Int))) = x8 at *
              clear e1 m1 m2 HN t46
              obtain ⟨cO, fO⟩ := blk_cells HS8.out.out
              obtain ⟨cS, -⟩ := blk_cells HS8.out.src
              obtain ⟨e1, m1, m2⟩ := HP.out.int 48 (by omega) (by omega)
              obtain ⟨p1, hp1⟩ : ∃ p1, intOf (f 48) = p1 := ⟨_, rfl⟩
              rw [hp1] at e1 m1 m2
              clear hp1
              obtain ⟨n48, hn, t48⟩ : ∃ n : Nat, p1 % 3 = n ∧ n ≤ 2 := ⟨(p1 % 3).toNat, by omega, by omega⟩
              have HN := Lib.hid hn
              clear hn
              go_wp2_with fail
              refine (mod_any p1 3 _ (by omega) (by omega) (by omega) (by omega)).mono ?_
              rintro e wm ⟨rfl, rfl⟩
              rw [HN.out]
              have HS9 := Lib.hid (HS8.out.setV 48 47 n47 ((n47 : Int)) (by omega) (by omega) (by unfold OkOf loOf hiOf; simp; try omega) (by omega))
              clear HS8 cO fO cS
              generalize World.setCell _ ⟨w1.heap.size, 47, none⟩ (.int .i64 ((n47 : Int))) = x9 at *
              clear e1 m1 m2 HN t47
              obtain ⟨cO, fO⟩ := blk_cells HS9.out.out
              obtain ⟨cS, -⟩ := blk_cells HS9.out.src
              obtain ⟨e1, m1, m2⟩ := HP.out.int 49 (by omega) (by omega)
              obtain ⟨p1, hp1⟩ : ∃ p1, intOf (f 49) = p1 := ⟨_, rfl⟩
              rw [hp1] at e1 m1 m2
              clear hp1
              obtain ⟨n49, hn, t49⟩ : ∃ n : Nat, p1 % 3 = n ∧ n ≤ 2 := ⟨(p1 % 3).toNat, by omega, by omega⟩
              have HN := Lib.hid hn
              clear hn
              go_wp2_with fail
              refine (mod_any p1 3 _ (by omega) (by omega) (by omega) (by omega)).mono ?_
              rintro e wm ⟨rfl, rfl⟩
              rw [HN.out]
              have HS10 := Lib.hid (HS9.out.setV 49 48 (1 + n48) (1 + (n48 : Int)) (by omega) (by omega) (by unfold OkOf loOf hiOf; simp; try omega) (by omega))
              clear HS9 cO fO cS
              generalize World.setCell _ ⟨w1.heap.size, 48, none⟩ (.int .i64 (1 + (n48 : Int))) = x10 at *
              clear e1 m1 m2 HN t48
              obtain ⟨cO, fO⟩ := blk_cells HS10.out.out
              obtain ⟨cS, -⟩ := blk_cells HS10.out.src
              go_wp2_with fail
              have HS11 := Lib.hid ((HS10.out.setV 50 49 (1 + n49) (1 + (n49 : Int)) (by omega) (by omega) (by unfold OkOf loOf hiOf; simp; try omega) (by omega)).skip 54 (fun i h1 h2 => lo_skip2 i h1 h2))
              clear HS10 cO fO cS
              try simp only [show ((3 : Nat) : Int) = 3 from rfl]
              go_loopw [10] (fun y wr => ∃ (i : Nat) (q : Nat → Value), y = .int .i64 i ∧ 1 ≤ i ∧ i ≤ 4 ∧ St w f w1.heap.size 3 54 q wr) (fun y _ => 4 - (intOf y).toNat)
              case atStart => exact ⟨1, _, rfl, by omega, by omega, HS11.out⟩
              case round =>
                clear HS11
                obtain ⟨i, q, rfl, hi1, hi4, hs⟩ := hrel
                obtain ⟨cO, fO⟩ := blk_cells hs.out
                obtain ⟨cS, -⟩ := blk_cells hs.src
                have HS := Lib.hid hs
                clear hs
                by_cases hlt : i < 4
                · have hlt' : 50 + i < 56 := by omega
                  obtain ⟨e1, m1, m2⟩ := HP.out.int (50 + i) hlt' (by omega)
                  obtain ⟨p1, hp1⟩ : ∃ p1, intOf (f (50 + i)) = p1 := ⟨_, rfl⟩
                  rw [hp1] at e1 m1 m2
                  clear hp1
                  obtain ⟨n, hn, hn2⟩ : ∃ n : Nat, p1 % 1001 = n ∧ n ≤ 1000 := ⟨(p1 % 1001).toNat, by omega, by omega⟩
                  have HS3 := Lib.hid (HS.out.setV 54 (50 + i) n n rfl (by omega) (okof_most _ _ (by omega) (by omega) hn2) (by omega))
                  have HN := Lib.hid hn
                  clear hn
                  go_wp2_with fail
                  refine (mod_any p1 1001 _ (by omega) (by omega) (by omega) (by omega)).mono ?_
                  rintro e wm ⟨rfl, rfl⟩
                  rw [HN.out]
                  go_wp2_with fail
                  exact ⟨⟨i + 1, _, by go_num, by omega, by omega, HS3.out⟩, by simp [intOf]; omega⟩
                · obtain ⟨e1, m1, m2⟩ := HP.out.int 54 (by omega) (by omega)
                  obtain ⟨p1, hp1⟩ : ∃ p1, intOf (f 54) = p1 := ⟨_, rfl⟩
                  rw [hp1] at e1 m1 m2
                  clear hp1
                  obtain ⟨n54, hn, t54⟩ : ∃ n : Nat, p1 % 1000 = n ∧ n ≤ 999 := ⟨(p1 % 1000).toNat, by omega, by omega⟩
                  have HN := Lib.hid hn
                  clear hn
                  go_wp2_with fail
                  refine (mod_any p1 1000 _ (by omega) (by omega) (by omega) (by omega)).mono ?_
                  rintro e wm ⟨rfl, rfl⟩
                  rw [HN.out]
                  clear hlt e1 m1 m2 HN
                  obtain ⟨e1, m1, m2⟩ := HP.out.int 55 (by omega) (by omega)
                  obtain ⟨p1, hp1⟩ : ∃ p1, intOf (f 55) = p1 := ⟨_, rfl⟩
                  rw [hp1] at e1 m1 m2
                  clear hp1
                  obtain ⟨n55, hn, t55⟩ : ∃ n : Nat, p1 % 65536 = n ∧ n ≤ 65535 := ⟨(p1 % 65536).toNat, by omega, by omega⟩
                  have HSx := Lib.hid ((HS.out.setV 55 54 (1 + n54) (1 + (n54 : Int)) (by omega) (by omega) (by unfold OkOf loOf hiOf; simp; try omega) (by omega)).setV 56 55 n55 (p1 % 65536) hn (by omega) (by unfold OkOf loOf hiOf; simp; try omega) (by omega))
                  clear hn
                  go_wp2_with ((with_reducible show wpList _ _ _ (⟨some 170, _, _, _, _, _⟩ :: _) _ _); refine Marker.mk ?_)
                  refine Marker.in ?_
                  clear HS cO fO cS
                  generalize World.setCell _ ⟨w1.heap.size, 55, none⟩ (.int .i64 (p1 % 65536)) = xx at *
                  obtain ⟨qq, HQ⟩ : ∃ qq, Hid (St w f w1.heap.size 3 56 qq xx) := ⟨_, HSx⟩
                  clear HSx
                  refine wpList_load_row ?g1 32 (.tmp 3) ?g2 w1.heap.size ?g3 32 (mkc 56 qq) (0, 0) _ ?h1 Try.underlying32 ?h3 ?h4 ?_
                  case g1 => rfl
                  case g2 => rfl
                  case g3 => rfl
                  case h1 => exact HQ.out.out
                  case h3 => rfl
                  case h4 => rw [info_pol, mkc_size]
                  obtain ⟨r, hr⟩ := HQ.out.res
                  have HR := Lib.hid hr
                  clear hr
                  go_wp2_with ((with_reducible show wpList _ _ _ (⟨none, .store _ (.tmp 2) (.tmp 170), _, _, _, _⟩ :: _) _ _); refine Marker.mk ?_)
                  refine Marker.in ?_
                  refine wpList_store_row ?g1 32 (.tmp 2) (.tmp 170) ?g2 (w.heap.size + 1) (mkc 56 qq) ?h1 ?h2 32 (mkc 56 r) ?h3 ?h4 ?h5 ?h6 ?_
                  case g1 => rfl
                  case g2 => rfl
                  case h1 => rfl
                  case h2 => rfl
                  case h3 => exact HR.out
                  case h4 => rw [info_pol, mkc_size]
                  case h5 => rw [mkc_size, mkc_size]
                  case h6 => exact one_mkc HQ.out.one
                  go_wp2_with fail
                  refine bodyPost_ret (v := .agg (mkc 56 qq)) ?_ rfl ⟨⟨qq, rfl, HQ.out.done⟩, below_setRow HQ.out.bel (by omega) _⟩
                  exact results_cell_row rfl _ _ (w.heap.size + 1) 32 (mkc 56 qq) (0, 0) _ rfl (setRow_heap _ _ _ _ _ _ HR.out) Try.underlying32 rfl (by rw [info_pol, mkc_size])
end Go.Proofs.Ytcgaodencjcgnaa
