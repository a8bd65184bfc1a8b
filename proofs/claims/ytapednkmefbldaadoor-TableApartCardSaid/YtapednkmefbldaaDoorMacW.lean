/- mac.turned, mac.join, mac.Same. -/
import Derived.Test.YtapednkmefbldaaDoorShaS
import Derived.Test.YtapednkmefbldaaDoorMac
namespace Go.Proofs.YtapednkmefbldaaDoor
open Go.RowKit

theorem run_part_int' {P : Program} {e : TypeId} {k : IntKind} (he : P.underlying e = some (.int k)) (cs : Array Value) (i : Nat) (v : Value) (hv : cs[i]? = some v) (W : World) : (Go.part e cs i).run P W = Result.ok v W := by
  unfold Go.part
  simp [isAgg, run_underlying he, hv]
/-- an array of integers by value, indexed -/
theorem index_arr {P : Program} {t e : TypeId} {k : IntKind} {n : Nat} {inf : TypeInfo} (ht : P.underlying t = some (.array n e)) (he : P.underlying e = some (.int k)) (hi : P.info? e = some inf) (h1 : inf.size = 1) (cs : Array Value) (i : Nat) (hn : i < n) (v : Value) (hv : cs[i]? = some v) (W : World) :
    (Instr.index t (.agg cs) (.int .i64 (i : Int))).run P W = .ok v W := by
  have hp := run_part_int' he cs i v hv W
  unfold Instr.index
  have c1 : (0 : Int) ≤ (i : Int) ∧ (i : Int) < (n : Int) := by omega
  simp [asIntOf, run_underlying ht, c1, sizeOf, typeInfo, hi, h1, hp]
  omega
theorem index_b64 (l : List Int) (hl : l.length = 64) (i : Nat) (h : i < 64) (W : World) : (Instr.index 87 (.agg (u8V l)) (.int .i64 (i : Int))).run Tryd.prog W = .ok (.int .u8 (l.getD i 0)) W := by
  obtain ⟨i0, hi, hz0, hz1, hz2⟩ := info_parts info_u8
  exact index_arr Tryd.underlying87 Tryd.underlying5 hi hz1 _ i h _ (u8V_get l i (by omega)) W
set_option maxRecDepth 100000 in
set_option maxHeartbeats 400000 in
theorem turned_any (k : List Int) (b : Int) (w : World) (hl : k.length = 64) (hb : 0 ≤ b ∧ b ≤ 255) :
    Calls Tryd.prog 43 #[.agg (u8V k), .int .u8 b] w fun e w' => e = .returned (.slice (some ⟨w.heap.size + 1, 0, none⟩) 64 64) ∧ Blk w' (w.heap.size + 1) (u8V (turnB k b)) 5 ∧ Below w.heap.size w w' := by
  have HL := Lib.hid hl
  have hmk : ∀ W : World, (Instr.makeSlice 23 (.int .i64 64) (.int .i64 64)).run Tryd.prog W = .ok (.slice (some ⟨W.heap.size, 0, none⟩) 64 64) (W.alloc (.cells (u8V (zeros 64)) 5)) := run_makeU8 64 (by omega)
  obtain ⟨hb0, hb1⟩ := hb
  clear hl
  go_enter Tryd.func43, Tryd.ntmps43
  go_wp2_with ((with_reducible show wpList _ _ _ (⟨_, .load 87 _, _, _, _, none⟩ :: _) _ _); refine Marker.mk ?_)
  refine Marker.in ?_
  have KB := Lib.hid ((Blk.new w (u8V k) 87).alloc (.cells (u8V (zeros 64)) 5))
  have KM := Lib.hid (Blk.new' (w.alloc (.cells (u8V k) 87)) (u8V (zeros 64)) 5 (g := w.heap.size + 1) (by simp))
  have BB := Lib.hid (below_alloc2 w (.cells (u8V k) 87) (.cells (u8V (zeros 64)) 5))
  clear hmk
  generalize (w.alloc (.cells (u8V k) 87)).alloc (.cells (u8V (zeros 64)) 5) = w1 at *
  go_wp2_with ((with_reducible show wpList _ _ _ (⟨_, .load 87 _, _, _, _, none⟩ :: _) _ _); (with_reducible refine wpBlk_load (g := w.heap.size) agg_b64 ?_ ?_ KB ?_ ?_); (· exact wanted0 rfl); (· exact ⟨rfl, rfl⟩); (· rw [u8V_size, HL.out]))
  go_loopw [10] (fun y wr => ∃ i : Nat, i ≤ 64 ∧ y = .int .i64 i ∧ Blk wr (w.heap.size + 1) (u8V (part (turnB k b) i)) 5 ∧ Below w.heap.size w wr) (fun y _ => 64 - (intOf y).toNat)
  case atStart => exact ⟨0, by omega, rfl, by rw [part_zero, turnB_len, HL.out]; exact KM.out, BB.out⟩
  case round =>
    clear KB KM BB
    obtain ⟨i, hi, rfl, KM, BB⟩ := hrel
    have lt : (turnB k b).length = 64 := by rw [turnB_len, HL.out]
    by_cases hlt : i < 64
    · have hix := index_b64 k HL.out i hlt
      have c0 := KM.cell i
      have f0 := KM.frozen i
      rw [u8V_get _ _ (by rw [part_len _ _ (by omega)]; omega)] at c0
      have ST := part_set (turnB k b) i (by omega)
      rw [turnB_getD _ _ _ (by rw [HL.out]; omega)] at ST
      generalize k.getD i 0 = x at *
      have ST2 := Lib.hid ST
      have KM2 := Lib.hid KM
      have BB2 := Lib.hid BB
      clear ST KM BB lt
      go_wp2_with fail
      have h := KM2.out.set i (.int .u8 (bits .xor .u8 x b))
      rw [u8V_set, ST2.out] at h
      exact ⟨⟨i + 1, by omega, by simp, h, BB2.out.setCell (by simp) _⟩, by simp [intOf]; omega⟩
    · obtain rfl : i = 64 := by omega
      rw [show ((64 : Nat) : Int) = 64 from rfl]
      rw [part_all _ _ (by omega)] at KM
      have KM2 := Lib.hid KM
      have BB2 := Lib.hid BB
      clear KM BB lt
      go_wp2_with fail
      go_ret
      exact ⟨rfl, KM2.out, BB2.out⟩

/-- what is joined: slices of bytes, one behind the other -/
def Parts (w : World) (cs : Array Value) (ps : List (List Int)) : Prop := cs.size = ps.length ∧ ∀ i (h : i < ps.length), ∃ A c, cs[i]? = some (.slice A ps[i].length c) ∧ Row w A ps[i]
theorem Parts.below {w w' : World} {cs : Array Value} {ps : List (List Int)} (h : Parts w cs ps) (hb : Below w.heap.size w w') : Parts w' cs ps := ⟨h.1, fun i hi => by obtain ⟨A, c, e, r⟩ := h.2 i hi; exact ⟨A, c, e, row_below r hb⟩⟩
theorem parts_two {w : World} {A B : Option Addr} {n m c d : Nat} {x y : List Int} (hn : x.length = n) (hm : y.length = m) (hx : Row w A x) (hy : Row w B y) : Parts w #[.slice A n c, .slice B m d] [x, y] := by
  subst hn hm
  refine ⟨rfl, fun i hi => ?_⟩
  match i, hi with
  | 0, _ => exact ⟨A, c, rfl, hx⟩
  | 1, _ => exact ⟨B, d, rfl, hy⟩
set_option maxRecDepth 100000 in
set_option maxHeartbeats 400000 in
theorem join_any (g m c : Nat) (cs : Array Value) (ps : List (List Int)) (w : World) (hm : ps.length = m) (hk : Blk w g cs 23) (hp : Parts w cs ps) (hs : ps.flatten.length ≤ 100000000) (hm2 : m ≤ 1000) :
    Calls Tryd.prog 42 #[.slice (some ⟨g, 0, none⟩) m c] w fun e w' => (∃ A d, e = .returned (.slice A ps.flatten.length d) ∧ Own w' w.heap.size A d ps.flatten) ∧ Below w.heap.size w w' := by
  have HM := Lib.hid hm
  have HK := Lib.hid hk
  have HP := Lib.hid hp
  have HS := Lib.hid hs
  clear hm hk hp hs
  go_enter Tryd.func42, Tryd.ntmps42
  go_wp2_with fail
  go_loopw [3, 8] (fun x y wr => ∃ (i : Nat) (A : Option Addr) (d n : Nat), i ≤ m ∧ y = .int .i64 i ∧ x = .slice A n d ∧ (ps.take i).flatten.length = n ∧ Own wr w.heap.size A d (ps.take i).flatten ∧ Below w.heap.size w wr) (fun _ y _ => m - (intOf y).toNat)
  case atStart => exact ⟨0, none, 0, 0, by omega, rfl, rfl, rfl, own_nil _ _, Below.refl _ _⟩
  case round =>
    obtain ⟨i, A, d, n, hi, rfl, rfl, hn, ho, BB⟩ := hrel
    by_cases hlt : i < m
    · have hil : i < ps.length := by rw [HM.out]; exact hlt
      obtain ⟨B, c2, e2, r2⟩ := HP.out.2 i hil
      have ck := (HK.out.below BB).cell i
      rw [e2] at ck
      have hst : (ps.take (i + 1)).flatten = (ps.take i).flatten ++ ps[i] := by rw [List.take_succ_eq_append_getElem hil, List.flatten_append, List.flatten_cons, List.flatten_nil, List.append_nil]
      have hle : (ps.take (i + 1)).flatten.length ≤ 100000000 := by
        have h1 := HS.out
        have h2 : ps.flatten = (ps.take (i + 1)).flatten ++ (ps.drop (i + 1)).flatten := by rw [← List.flatten_append, List.take_append_drop]
        rw [h2, List.length_append] at h1
        omega
      rw [hst, List.length_append] at hle
      have r3 := row_below r2 BB
      generalize hxs : ps[i] = xs at *
      generalize hys : (ps.take i).flatten = ys at *
      obtain ⟨k, hk⟩ : ∃ k, xs.length = k := ⟨_, rfl⟩
      rw [hk] at ck hle
      rw [hn] at hle
      have HN2 := Lib.hid hn
      have HK2 := Lib.hid hk
      have HO2 := Lib.hid ho
      have BB2 := Lib.hid BB
      have R3 := Lib.hid r3
      have HST := Lib.hid hst
      clear hn hk ho BB r3 r2 e2 hst hxs hys
      go_wp2_with ((at_builtin; refine wpList_append_bytes _ rfl (.tmp 12) (.tmp 13) rfl w.heap.size A d n ys HN2.out rfl HO2.out B c2 k xs HK2.out rfl R3.out (by omega) BB2.out.size ?_; intro A1 cap1 w4 o1 b4))
      exact ⟨⟨i + 1, A1, cap1, n + k, by omega, by simp, rfl, by rw [HST.out, List.length_append, HN2.out, HK2.out], by rw [HST.out]; exact o1, BB2.out.trans b4⟩, by simp [intOf]; omega⟩
    · obtain rfl : i = m := by omega
      rw [List.take_of_length_le (by rw [HM.out]; omega)] at ho hn
      subst hn
      have HO2 := Lib.hid ho
      have BB2 := Lib.hid BB
      clear ho BB
      go_wp2_with fail
      go_ret
      exact ⟨⟨_, _, rfl, HO2.out⟩, BB2.out⟩
theorem join_two (g c : Nat) (A B : Option Addr) (n m e d : Nat) (x y : List Int) (w : World) (hn : x.length = n) (hm : y.length = m) (hk : Blk w g #[.slice A n e, .slice B m d] 23) (hx : Row w A x) (hy : Row w B y) (hs : n + m ≤ 100000000) :
    Calls Tryd.prog 42 #[.slice (some ⟨g, 0, none⟩) 2 c] w fun e w' => (∃ A d, e = .returned (.slice A (n + m) d) ∧ Own w' w.heap.size A d (x ++ y)) ∧ Below w.heap.size w w' := by
  have h := join_any g 2 c _ [x, y] w rfl hk (parts_two hn hm hx hy) (by simp; omega) (by omega)
  have e1 : [x, y].flatten = x ++ y := by simp
  rw [e1, List.length_append, hn, hm] at h
  exact h

theorem u8_xor_zero {x y : Int} (hx : 0 ≤ x ∧ x ≤ 255) (hy : 0 ≤ y ∧ y ≤ 255) : bits .xor .u8 x y = 0 ↔ x = y := by
  rw [u8_xor x y hx.1 (by omega) hy.1 (by omega)]
  constructor
  · intro h
    have h2 : x.toNat ^^^ y.toNat = 0 := by omega
    have h3 : x.toNat = y.toNat := by
      apply Nat.eq_of_testBit_eq
      intro i
      have := congrArg (fun n => Nat.testBit n i) h2
      simp only [Nat.testBit_xor, Nat.zero_testBit] at this
      revert this
      cases x.toNat.testBit i <;> cases y.toNat.testBit i <;> simp
    omega
  · rintro rfl
    simp
theorem u8_or_zero {x y : Int} (hx : 0 ≤ x ∧ x ≤ 255) (hy : 0 ≤ y ∧ y ≤ 255) : bits .or .u8 x y = 0 ↔ x = 0 ∧ y = 0 := by
  rw [u8_or x y hx.1 (by omega) hy.1 (by omega)]
  have key : x.toNat ||| y.toNat = 0 ↔ x.toNat = 0 ∧ y.toNat = 0 := by
    constructor
    · intro h
      have a : ∀ i, x.toNat.testBit i = false ∧ y.toNat.testBit i = false := by
        intro i
        have := congrArg (fun n => Nat.testBit n i) h
        simp only [Nat.testBit_or, Nat.zero_testBit, Bool.or_eq_false_iff] at this
        exact this
      exact ⟨Nat.eq_of_testBit_eq fun i => by rw [(a i).1]; simp, Nat.eq_of_testBit_eq fun i => by rw [(a i).2]; simp⟩
    · rintro ⟨h1, h2⟩
      rw [h1, h2]; rfl
  constructor
  · intro h
    have := key.1 (by omega)
    omega
  · rintro ⟨h1, h2⟩
    have := key.2 (by omega)
    omega
theorem or_byte_in (a b : Int) : 0 ≤ bits .or .u8 a b ∧ bits .or .u8 a b ≤ 255 := by
  unfold bits
  simp only
  rw [IntKind.wrap_u8']
  omega
set_option maxRecDepth 100000 in
set_option maxHeartbeats 400000 in
theorem same_any (A B : Option Addr) (x y : List Int) (n m c d : Nat) (w : World) (hn : x.length = n) (hm : y.length = m) (hx : Row w A x) (hy : Row w B y) (hl : n ≤ 1000000000) (hl2 : m ≤ 1000000000) :
    Calls Tryd.prog 39 #[.slice A n c, .slice B m d] w fun e w' => e = .returned (.bool (decide (x = y))) ∧ w = w' := by
  by_cases hnm : n = m
  · subst hnm
    have HN := Lib.hid hn
    have HM := Lib.hid hm
    have HX := Lib.hid hx
    have HY := Lib.hid hy
    obtain ⟨b, hb⟩ : ∃ b, decide (x = y) = b := ⟨_, rfl⟩
    rw [hb]
    have HB := Lib.hid hb
    clear hn hm hx hy hb
    go_enter Tryd.func39, Tryd.ntmps39
    go_wp2_with fail
    go_loop [5, 15] (fun o y' => ∃ (i : Nat) (z : Int), i ≤ n ∧ y' = .int .i64 i ∧ o = .int .u8 z ∧ 0 ≤ z ∧ z ≤ 255 ∧ (z = 0 ↔ x.take i = y.take i)) (fun _ y' => n - (intOf y').toNat)
    case atStart => exact ⟨0, 0, by omega, rfl, rfl, by omega, by omega, by simp⟩
    case round =>
      obtain ⟨i, z, hi, rfl, rfl, z0, z1, hz⟩ := hrel
      by_cases hlt : i < n
      · have hxi : i < x.length := by rw [HN.out]; exact hlt
        have hyi : i < y.length := by rw [HM.out]; exact hlt
        rcases HX.out.1 with e | ⟨g, o, rfl, hc⟩
        · exfalso; rw [e] at hxi; simp at hxi
        rcases HY.out.1 with e | ⟨g', o', rfl, hc'⟩
        · exfalso; rw [e] at hyi; simp at hyi
        have c1 := hc i hxi
        have c2 := hc' i hyi
        have r1 := HX.out.2 x[i] (List.getElem_mem _)
        have r2 := HY.out.2 y[i] (List.getElem_mem _)
        have ST : bits .or .u8 z (bits .xor .u8 x[i] y[i]) = 0 ↔ x.take (i + 1) = y.take (i + 1) := by
          rw [u8_or_zero ⟨z0, z1⟩ (xor_byte _ _), u8_xor_zero r1 r2, hz, List.take_succ_eq_append_getElem hxi, List.take_succ_eq_append_getElem hyi]
          constructor
          · rintro ⟨h1, h2⟩; rw [h1, h2]
          · intro h
            have := List.append_inj h (by simp; omega)
            exact ⟨this.1, by simpa using this.2⟩
        have OB := or_byte_in z (bits .xor .u8 x[i] y[i])
        have ST2 := Lib.hid ST
        have OB2 := Lib.hid OB
        clear ST OB hz hc hc'
        generalize x[i] = p at *
        generalize y[i] = q at *
        go_wp2_with fail
        exact ⟨⟨i + 1, _, by omega, by simp, rfl, OB2.out.1, OB2.out.2, ST2.out⟩, by simp [intOf]; omega⟩
      · obtain rfl : i = n := by omega
        rw [List.take_of_length_le (by rw [HN.out]; omega), List.take_of_length_le (by rw [HM.out]; omega)] at hz
        have e : (z == 0) = b := by
          rw [← HB.out, Bool.eq_iff_iff]
          simp [hz]
        clear hz
        go_wp2_with fail
        go_ret
        exact ⟨rfl, rfl⟩
  · have hne : x ≠ y := fun h => hnm (by rw [← hn, ← hm, h])
    rw [decide_eq_false hne]
    have hne2 : ((n : Int) != (m : Int)) = true := by simp; omega
    clear hne hn hm hx hy
    go_enter Tryd.func39, Tryd.ntmps39
    go_wp2_with fail
    go_ret
    exact ⟨rfl, rfl⟩
end Go.Proofs.YtapednkmefbldaaDoor
