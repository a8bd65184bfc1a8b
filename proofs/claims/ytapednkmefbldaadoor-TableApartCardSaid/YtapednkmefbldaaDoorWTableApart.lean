/- Several texts in one. -/
import Derived.Test.YtapednkmefbldaaDoorJtd
import Derived.Test.YtapednkmefbldaaDoorJrp
import Derived.Test.YtapednkmefbldaaDoorJr9
import Derived.Test.YtapednkmefbldaaDoorBe
import Derived.Test.YtapednkmefbldaaDoorConv
import Derived.Test.YtapednkmefbldaaDoorRow
import Derived.ChangeSlices
import Derived.Deep.Slices
import Derived.Test.YtapednkmefbldaaDoorOwnB
import Derived.Test.YtapednkmefbldaaDoorJmF

/- The table, in plain Lean: a beat that is sealed is taken. -/
namespace Go.Proofs.YtapednkmefbldaaDoor
open Go.RowKit

def beatL (q : Int) : List Int := [3, q, 0, 0, 0, 0, 0, 0, 0, 0, 0, 0]
def beatB (q : Int) : List Int := [3] ++ be q 4
theorem beat_put (q : Int) (h : 0 ≤ q ∧ q ≤ 4294967295) : put8 (beatL q) = some (beatB q) := put8_lit3 q h
theorem beat_take (q : Int) (h : 0 ≤ q ∧ q ≤ 4294967295) : take8 (beatB q) = some (beatL q) := take8_put rfl (beat_put q h)
theorem beat_len (q : Int) (h : 0 ≤ q ∧ q ≤ 4294967295) : (beatB q).length = 5 := put8_len (beat_put q h)
theorem seal_is (key b : List Int) (s : Int) : isSealed key s (b ++ tagOf key s b) := by
  have hl := tagOf_len key s b
  unfold isSealed
  rw [List.length_append, hl, Nat.add_sub_cancel, List.take_left]
  exact ⟨by omega, rfl⟩
theorem take_sealed {T : Tab} {i : Nat} {b : List Int} (hi : i < 3) (hon : (T.ses i).on = true) : T.take ((i : Int) + 1) (b ++ tagOf (T.ses i).key ((i : Int) + 1) b) = takeM T i b := by
  have e2 : ((i : Int) + 1 - 1).toNat = i := by omega
  have hl := tagOf_len (T.ses i).key ((i : Int) + 1) b
  unfold Tab.take
  rw [e2, if_pos ⟨by omega, hon⟩, if_pos (seal_is _ _ _), List.length_append, hl, Nat.add_sub_cancel, List.take_left]
theorem takeM_msg {T : Tab} {i : Nat} {b l : List Int} (h : take8 b = some l) (hk : l.getD 0 0 ≠ 1 ∧ l.getD 0 0 ≠ 2) (hs : (wsee (T.ses i).win (l.getD 1 0).toNat).2 = true) :
    takeM T i b = ⟨T.put i ⟨true, 0, max T.beat 0, (T.ses i).r, (T.ses i).key, (wsee (T.ses i).win (l.getD 1 0).toNat).1⟩, l, 0⟩ := by
  unfold takeM
  rw [h]
  simp only
  rw [if_neg (by omega), if_pos hs]
theorem takeM_old {T : Tab} {i : Nat} {b l : List Int} (h : take8 b = some l) (hk : l.getD 0 0 ≠ 1 ∧ l.getD 0 0 ≠ 2) (hs : (wsee (T.ses i).win (l.getD 1 0).toNat).2 = false) :
    takeM T i b = ⟨T, z12 0, 15⟩ := by
  unfold takeM
  rw [h]
  simp only
  rw [if_neg (by omega), if_neg (by rw [hs]; exact Bool.false_ne_true)]
theorem Tab.many_put0 (T : Tab) (s : Ses) : (T.put 0 s).many = T.many - (if T.s0.on then 1 else 0) + (if s.on then 1 else 0) := by simp only [Tab.many, Tab.put]; omega
theorem Tab.many_put1 (T : Tab) (s : Ses) : (T.put 1 s).many = T.many - (if T.s1.on then 1 else 0) + (if s.on then 1 else 0) := by simp only [Tab.many, Tab.put]; omega
theorem Tab.many_put2 (T : Tab) (s : Ses) : (T.put 2 s).many = T.many - (if T.s2.on then 1 else 0) + (if s.on then 1 else 0) := by simp only [Tab.many, Tab.put]; omega
theorem Tab.many_in (T : Tab) : 0 ≤ T.many ∧ T.many ≤ 3 := by
  unfold Tab.many
  constructor <;> (split <;> split <;> split <;> omega)
theorem blk_ne {w : World} {a b : Nat} {x y : Array Value} {S R : TypeId} (h : Blk w a x S) (k : Blk w b y R) (hne : S ≠ R) : a ≠ b := by
  rintro rfl
  have e : some (Obj.cells x S (0, 0)) = some (Obj.cells y R (0, 0)) := h.symm.trans k
  injection e with e
  injection e with e1 e2
  exact hne e2
theorem st_ok (g k : Nat) (T : Tab) (src role : Int) (key : List Int) (w : World) (K : TabB w g T) (h : T.ok) (hk : key.length = 32) (hk3 : k < 3) (hs : src = (k : Int) + 1) (hr : 0 ≤ role ∧ role ≤ 3) (hc : (T.ses k).on = true ∨ T.many < T.most) :
    Calls Tryd.prog 27 #[.pointer (some ⟨g, 0, none⟩), .int .i64 src, .int .i64 role, .agg (u8V key)] w fun e w' => e = .returned (.int .i64 0) ∧ TabB w' g (T.put k (sesB true (max T.beat 0) role key)) ∧ Only g w w' := by
  refine (tabf_start g T src role key w K h hk).mono ?_
  have e2 : (src - 1).toNat = k := by omega
  rintro e w' ⟨h, ho⟩
  rw [e2, if_pos ⟨by omega, hr⟩, if_neg (by rintro ⟨h1, h2⟩; rcases hc with hc | hc; · rw [hc] at h1; cases h1
                                            · omega)] at h
  exact ⟨h.1, h.2, ho⟩
theorem st_full (g k : Nat) (T : Tab) (src role : Int) (key : List Int) (w : World) (K : TabB w g T) (h : T.ok) (hk : key.length = 32) (hk3 : k < 3) (hs : src = (k : Int) + 1) (hr : 0 ≤ role ∧ role ≤ 3) (hc : (T.ses k).on = false) (hm : T.most ≤ T.many) :
    Calls Tryd.prog 27 #[.pointer (some ⟨g, 0, none⟩), .int .i64 src, .int .i64 role, .agg (u8V key)] w fun e w' => e = .returned (.int .i64 19) ∧ TabB w' g T ∧ Only g w w' := by
  refine (tabf_start g T src role key w K h hk).mono ?_
  have e2 : (src - 1).toNat = k := by omega
  rintro e w' ⟨h, ho⟩
  rw [e2, if_pos ⟨by omega, hr⟩, if_pos ⟨hc, hm⟩] at h
  exact ⟨h.1, h.2, ho⟩
theorem st_bad (g : Nat) (T : Tab) (src role : Int) (key : List Int) (w : World) (K : TabB w g T) (h : T.ok) (hk : key.length = 32) (hb : ¬ ((src = 1 ∨ src = 2 ∨ src = 3) ∧ 0 ≤ role ∧ role ≤ 3)) :
    Calls Tryd.prog 27 #[.pointer (some ⟨g, 0, none⟩), .int .i64 src, .int .i64 role, .agg (u8V key)] w fun e w' => e = .returned (.int .i64 1) ∧ TabB w' g T ∧ Only g w w' := by
  refine (tabf_start g T src role key w K h hk).mono ?_
  rintro e w' ⟨h, ho⟩
  rw [if_neg hb] at h
  exact ⟨h.1, h.2, ho⟩
theorem en_on (g k : Nat) (T : Tab) (src : Int) (w : World) (K : TabB w g T) (h : T.ok) (hk3 : k < 3) (hs : src = (k : Int) + 1) (hc : (T.ses k).on = true) :
    Calls Tryd.prog 26 #[.pointer (some ⟨g, 0, none⟩), .int .i64 src] w fun e w' => e = .returned (.bool true) ∧ TabB w' g (T.put k ses0) ∧ Only g w w' := by
  refine (tabf_end g T src w K h).mono ?_
  have e2 : (src - 1).toNat = k := by omega
  rintro e w' ⟨h, ho⟩
  rw [e2, if_pos (by omega), if_pos hc] at h
  exact ⟨h.1, h.2, ho⟩
theorem en_off (g k : Nat) (T : Tab) (src : Int) (w : World) (K : TabB w g T) (h : T.ok) (hk3 : k < 3) (hs : src = (k : Int) + 1) (hc : (T.ses k).on = false) :
    Calls Tryd.prog 26 #[.pointer (some ⟨g, 0, none⟩), .int .i64 src] w fun e w' => e = .returned (.bool false) ∧ TabB w' g T ∧ Only g w w' := by
  refine (tabf_end g T src w K h).mono ?_
  have e2 : (src - 1).toNat = k := by omega
  rintro e w' ⟨h, ho⟩
  rw [e2, if_pos (by omega), if_neg (by rw [hc]; exact Bool.false_ne_true)] at h
  exact ⟨h.1, h.2, ho⟩
theorem en_bad (g : Nat) (T : Tab) (src : Int) (w : World) (K : TabB w g T) (h : T.ok) (hb : ¬ (src = 1 ∨ src = 2 ∨ src = 3)) :
    Calls Tryd.prog 26 #[.pointer (some ⟨g, 0, none⟩), .int .i64 src] w fun e w' => e = .returned (.bool false) ∧ TabB w' g T ∧ Only g w w' := by
  refine (tabf_end g T src w K h).mono ?_
  rintro e w' ⟨h, ho⟩
  rw [if_neg hb] at h
  exact ⟨h.1, h.2, ho⟩
/-- one who just began is taken -/
theorem take_first (g k : Nat) (T : Tab) (src role mb q : Int) (key : List Int) (B : Option Addr) (c : Nat) (w : World) (K : TabB w g (T.put k (sesB true mb role key))) (h : T.ok) (hk : key.length = 32) (hkb : ∀ x ∈ key, 0 ≤ x ∧ x ≤ 255) (hk3 : k < 3) (hs : src = (k : Int) + 1) (hq : 0 ≤ q ∧ q ≤ 4294967295)
    (hc : 13 ≤ c) (hc2 : c ≤ 9223372036854775807) (hr : Row w B (beatB q ++ tagOf key src (beatB q))) (hR : Roots w) :
    Calls Tryd.prog 28 #[.pointer (some ⟨g, 0, none⟩), .int .i64 src, .slice B 13 c] w fun e w' => e = .returned (.tuple #[.agg (msgV (beatL q)), .int .i64 0]) ∧ TabB w' g (T.put k ⟨true, 0, max T.beat 0, role, key, some (q.toNat, 1)⟩) ∧ Only g w w' := by
  have ht := take_sealed (T := T.put k (sesB true mb role key)) (i := k) (b := beatB q) hk3 (by rw [Tab.ses_put]; rfl)
  rw [Tab.ses_put, ← hs, show (sesB true mb role key).key = key from rfl, takeM_msg (beat_take q hq) ⟨(by show (3 : Int) ≠ 1; decide), (by show (3 : Int) ≠ 2; decide)⟩ (by rw [Tab.ses_put]; rfl), Tab.ses_put, Tab.put_put, (Tab.put_beat T k _).1] at ht
  refine (tabf_take g _ src _ B 13 c w K (h.put k (sesB_ok true mb role key hk hkb)) (by rw [List.length_append, beat_len q hq, tagOf_len]) hc hc2 (by omega) hr hR).mono ?_
  rw [ht]
  rintro e w' ⟨he, hk, ho⟩
  exact ⟨he, hk, ho⟩
end Go.Proofs.YtapednkmefbldaaDoor

/- The reference of chapter 9: Open. -/
namespace Go.Proofs.YtapednkmefbldaaDoor
open Go.RowKit

set_option maxRecDepth 100000 in
set_option maxHeartbeats 800000 in
theorem ropen_short (key : List Int) (A : Option Addr) (n c : Nat) (s : Int) (w : World) (hn : n < 8) :
    Calls Tryd.prog 35 #[.agg (u8V key), .int .i64 s, .slice A n c] w fun e w' => e = .returned (.tuple #[.slice none 0 0, .int .i64 14]) ∧ Below w.heap.size w w' := by
  have t1 : decide ((n : Int) - 8 < 0) = true := decide_eq_true (by omega)
  go_enter Tryd.func35, Tryd.ntmps35
  go_wp2_with fail
  have BB := Lib.hid (below_alloc1 w (.cells (u8V key) 22))
  generalize w.alloc (.cells (u8V key) 22) = w1 at *
  go_quiet (fail)
  go_wp2_with fail
  go_ret2
  exact ⟨rfl, below_drewN BB.out _⟩
def RROp (key : List Int) (s : Int) (tg : List Int) (same : Bool) (A : Option Addr) (m c : Nat) (bd : List Int) (s1 s2 : ByteArray) (i : Nat) (v : Value) (w : World) : Prop := match i with
  | 0 => v = .int .i64 (m : Int)
  | 1 => v = .bool false
  | 2 => v = .bool false
  | 3 => v = .agg (u8V key)
  | 4 => v = .int .i64 s
  | 5 => v = .slice A (m + 8) c
  | 6 => v = .int .i64 (m : Int)
  | 7 => v = .slice A m c
  | 8 => ∃ A' d', v = .slice A' (m + 8) d' ∧ Row w A' (bd ++ tg)
  | 9 => v = .string s1
  | 10 => v = .slice A (m + 8) c
  | 11 => v = .string s2
  | 12 => v = .bool (!same)
  | _ => v = .bool (!same)
theorem RROp_keep (key : List Int) (s : Int) (tg : List Int) (same : Bool) (A : Option Addr) (m c : Nat) (bd : List Int) (s1 s2 : ByteArray) : ∀ i v w w', i < 14 → RROp key s tg same A m c bd s1 s2 i v w → BelR w w' → RROp key s tg same A m c bd s1 s2 i v w' := by
  intro i v w w' hi h hb
  unfold RROp at *
  split at h
  case h_9 => obtain ⟨g, d, e, k⟩ := h; exact ⟨g, d, e, k.below hb⟩
  all_goals exact h
set_option maxRecDepth 100000 in
set_option maxHeartbeats 800000 in
theorem ropen_bad (key xs : List Int) (A : Option Addr) (m c : Nat) (s : Int) (w : World) (hl : key.length = 32) (hkb : ∀ x ∈ key, 0 ≤ x ∧ x ≤ 255) (hm : xs.length = m + 8) (hr : Row w A xs) (hm2 : m ≤ 100000) (hc : m + 8 ≤ c) (hx : xs ≠ xs.take m ++ tagOf key s (xs.take m)) :
    Calls Tryd.prog 35 #[.agg (u8V key), .int .i64 s, .slice A (m + 8) c] w fun e w' => e = .returned (.tuple #[.slice none 0 0, .int .i64 14]) ∧ Below w.heap.size w w' := by
  have HL := Lib.hid hl
  have HKB := Lib.hid hkb
  have HM := Lib.hid hm
  have HR := Lib.hid hr
  have BL : (xs.take m).length = m := by rw [List.length_take]; omega
  have RB := fun (W : World) (hb : Below w.heap.size w W) => row_take (hr.below hb) m
  have TL := tagOf_len key s (xs.take m)
  have CC := fun (W : World) (hb : Below w.heap.size w W) => rclose_any key (xs.take m) A m c s W hl hkb BL (RB W hb) hm2
  have TB := tagOf_bytes key s (xs.take m)
  have SM : decide (xs.take m ++ tagOf key s (xs.take m) = xs) = false := decide_eq_false (fun h => hx h.symm)
  have hst : ((strOfNums (xs.take m ++ tagOf key s (xs.take m))).toList == (strOfNums xs).toList) = false := by
    rw [str_beq (fun x hx => (List.mem_append.1 hx).elim (fun h => hr.2 x (List.mem_of_mem_take h)) (fun h => TB x h)) hr.2]
    exact SM
  generalize tagOf key s (xs.take m) = tg at *
  generalize xs.take m = bd at *
  have CL2 : (bd ++ tg).length = m + 8 := by rw [List.length_append, BL, TL]
  have CV1 := fun (W : World) (A' : Option Addr) (d' : Nat) (k : Row W A' (bd ++ tg)) => conv_row (W := W) (a := A') (xs := bd ++ tg) (m + 8) d' CL2 k
  have CV2 := fun (W : World) (hb : Below w.heap.size w W) => conv_row (W := W) (a := A) (xs := xs) (m + 8) c hm (hr.below hb)
  generalize strOfNums (bd ++ tg) = s1 at *
  generalize strOfNums xs = s2 at *
  replace CC := Lib.hid CC
  replace BL := Lib.hid BL
  replace TL := Lib.hid TL
  replace CL2 := Lib.hid CL2
  replace RB := Lib.hid RB
  replace SM := Lib.hid SM
  replace CV1 := Lib.hid CV1
  replace CV2 := Lib.hid CV2
  replace hst := Lib.hid hst
  clear hl hkb hm hr hx TB
  have i0 : IntKind.i64.wrap (m : Int) = m := IntWalk.i64_in _ (by omega)
  have t0 : decide ((m : Int) < 0) = false := decide_eq_false (by omega)
  go_enter Tryd.func35, Tryd.ntmps35
  go_wp2_with fail
  have K3 := Lib.hid (Blk.new w (u8V key) 22)
  have BB := Lib.hid (below_alloc1 w (.cells (u8V key) 22))
  generalize w.alloc (.cells (u8V key) 22) = w1 at *
  refine wp_region_confR' belR_kept (by kernel_rfl) 14 (by kernel_rfl) (by simp) (by decide) (RROp key s tg false A m c bd s1 s2) (RROp_keep _ _ _ _ _ _ _ _ _ _) ?_ ?_
  · simp only [ConfStepsR, List.take_succ_cons, List.take_zero, putAll, Act.put, List.setIfInBounds_toArray, List.set_cons_succ, List.set_cons_zero, and_true]
    refine ⟨?_, ?_, ?_, ?_, ?_, ?_, ?_, ?_, ?_, ?_, ?_, ?_, ?_, ?_⟩
    all_goals intro v w' hb hd
    · exact conf_valueR belR_kept (wanted0 rfl) (by simp [go_sem]) rfl
    · have d0 : v 0 = .int .i64 (m : Int) := hd.at 0 rfl
      exact conf_valueR belR_kept (wanted0 rfl) (by simp [go_sem, d0, t0]) rfl
    · have d1 : v 1 = .bool false := hd.at 1 rfl
      exact conf_valueR belR_kept (wanted0 rfl) (by simp [go_sem, d1]) rfl
    · have g2 : v 2 = .bool false := hd.at 2 rfl
      exact conf_loadR belR_kept (g := w.heap.size) agg_b32 (wantedY rfl rfl (congrArg some g2)) ⟨rfl, by simp [go_sem]⟩ (K3.out.below hb) (by rw [u8V_size, HL.out]) rfl
    · have g2 : v 2 = .bool false := hd.at 2 rfl
      exact conf_valueR belR_kept (wantedY rfl rfl (congrArg some g2)) (by simp [go_sem]) rfl
    · have g2 : v 2 = .bool false := hd.at 2 rfl
      exact conf_valueR belR_kept (wantedY rfl rfl (congrArg some g2)) (by simp [go_sem]) rfl
    · have g2 : v 2 = .bool false := hd.at 2 rfl
      exact conf_valueR belR_kept (wantedY rfl rfl (congrArg some g2)) (by simp [go_sem]) rfl
    · have g2 : v 2 = .bool false := hd.at 2 rfl
      have d5 : v 5 = .slice A (m + 8) c := hd.at 5 rfl
      have d6 : v 6 = .int .i64 (m : Int) := hd.at 6 rfl
      exact conf_valueR belR_kept (wantedY rfl rfl (congrArg some g2)) (run_op_front _ (.tmp 17) (.tmp 18) rfl A (m + 8) c m (by simp [go_sem, d5]) (by simp [go_sem, d6]) (by omega)) rfl
    · have g2 : v 2 = .bool false := hd.at 2 rfl
      have d3 : v 3 = .agg (u8V key) := hd.at 3 rfl
      have d4 : v 4 = .int .i64 s := hd.at 4 rfl
      have d7 : v 7 = .slice A m c := hd.at 7 rfl
      refine conf_callR (f := 29) (args := #[v 3, v 4, v 7]) (wantedY rfl rfl (congrArg some g2)) (by simp [go_sem]) ?_
      rw [d3, d4, d7]
      exact (CC.out w' (bt BB.out hb)).mono fun e w'' ⟨⟨A', d', he, o⟩, hb'⟩ => ⟨_, he, hb', A', d', rfl, o.row⟩
    · have g2 : v 2 = .bool false := hd.at 2 rfl
      obtain ⟨A', d', d8, r8⟩ : ∃ A' d', v 8 = .slice A' (m + 8) d' ∧ Row w' A' (bd ++ tg) := hd.at 8 rfl
      exact conf_valueR belR_kept (wantedY rfl rfl (congrArg some g2)) (by simp [go_sem, d8, CV1.out w' A' d' r8]) rfl
    · have g2 : v 2 = .bool false := hd.at 2 rfl
      exact conf_valueR belR_kept (wantedY rfl rfl (congrArg some g2)) (by simp [go_sem]) rfl
    · have g2 : v 2 = .bool false := hd.at 2 rfl
      have d10 : v 10 = .slice A (m + 8) c := hd.at 10 rfl
      exact conf_valueR belR_kept (wantedY rfl rfl (congrArg some g2)) (by simp [go_sem, d10, CV2.out w' (bt BB.out hb)]) rfl
    · have g2 : v 2 = .bool false := hd.at 2 rfl
      have d9 : v 9 = .string s1 := hd.at 9 rfl
      have d11 : v 11 = .string s2 := hd.at 11 rfl
      exact conf_valueR belR_kept (wantedY rfl rfl (congrArg some g2)) (by simp [go_sem, d9, d11, hst.out]) rfl
    · have d2 : v 2 = .bool false := hd.at 2 rfl
      have d12 : v 12 = .bool (!false) := hd.at 12 rfl
      exact conf_valueR belR_kept (wanted0 rfl) (by simp [go_sem, d2, d12]) rfl
  · intro v w' hb hr
    have d13 : v 13 = .bool (!false) := hr 13 (by omega)
    simp only [List.take_succ_cons, List.take_zero, List.drop_succ_cons, List.drop_zero, putAll, Act.put, List.setIfInBounds_toArray, List.set_cons_succ, List.set_cons_zero]
    rw [d13]
    replace BB := Lib.hid (bt BB.out hb)
    clear hr hb d13 K3 CC
    go_wp2_with fail
    go_ret2
    exact ⟨rfl, BB.out⟩
set_option maxRecDepth 100000 in
set_option maxHeartbeats 800000 in
theorem ropen_good (key xs : List Int) (A : Option Addr) (m c : Nat) (s : Int) (w : World) (hl : key.length = 32) (hkb : ∀ x ∈ key, 0 ≤ x ∧ x ≤ 255) (hm : xs.length = m + 8) (hr : Row w A xs) (hm2 : m ≤ 100000) (hc : m + 8 ≤ c) (hx : xs = xs.take m ++ tagOf key s (xs.take m)) :
    Calls Tryd.prog 35 #[.agg (u8V key), .int .i64 s, .slice A (m + 8) c] w fun e w' => (∃ A' d', e = .returned (.tuple #[.slice A' m d', .int .i64 0]) ∧ Own w' w.heap.size A' d' (xs.take m)) ∧ Below w.heap.size w w' := by
  have HL := Lib.hid hl
  have HKB := Lib.hid hkb
  have HM := Lib.hid hm
  have HR := Lib.hid hr
  have BL : (xs.take m).length = m := by rw [List.length_take]; omega
  have RB := fun (W : World) (hb : Below w.heap.size w W) => row_take (hr.below hb) m
  have TL := tagOf_len key s (xs.take m)
  have CC := fun (W : World) (hb : Below w.heap.size w W) => rclose_any key (xs.take m) A m c s W hl hkb BL (RB W hb) hm2
  have TB := tagOf_bytes key s (xs.take m)
  have SM : decide (xs.take m ++ tagOf key s (xs.take m) = xs) = true := decide_eq_true hx.symm
  have hst : ((strOfNums (xs.take m ++ tagOf key s (xs.take m))).toList == (strOfNums xs).toList) = true := by
    rw [str_beq (fun x hx => (List.mem_append.1 hx).elim (fun h => hr.2 x (List.mem_of_mem_take h)) (fun h => TB x h)) hr.2]
    exact SM
  generalize tagOf key s (xs.take m) = tg at *
  generalize xs.take m = bd at *
  have CL2 : (bd ++ tg).length = m + 8 := by rw [List.length_append, BL, TL]
  have CV1 := fun (W : World) (A' : Option Addr) (d' : Nat) (k : Row W A' (bd ++ tg)) => conv_row (W := W) (a := A') (xs := bd ++ tg) (m + 8) d' CL2 k
  have CV2 := fun (W : World) (hb : Below w.heap.size w W) => conv_row (W := W) (a := A) (xs := xs) (m + 8) c hm (hr.below hb)
  generalize strOfNums (bd ++ tg) = s1 at *
  generalize strOfNums xs = s2 at *
  replace CC := Lib.hid CC
  replace BL := Lib.hid BL
  replace TL := Lib.hid TL
  replace CL2 := Lib.hid CL2
  replace RB := Lib.hid RB
  replace SM := Lib.hid SM
  replace CV1 := Lib.hid CV1
  replace CV2 := Lib.hid CV2
  replace hst := Lib.hid hst
  clear hl hkb hm hr hx TB
  have i0 : IntKind.i64.wrap (m : Int) = m := IntWalk.i64_in _ (by omega)
  have t0 : decide ((m : Int) < 0) = false := decide_eq_false (by omega)
  go_enter Tryd.func35, Tryd.ntmps35
  go_wp2_with fail
  have K3 := Lib.hid (Blk.new w (u8V key) 22)
  have BB := Lib.hid (below_alloc1 w (.cells (u8V key) 22))
  generalize w.alloc (.cells (u8V key) 22) = w1 at *
  refine wp_region_confR' belR_kept (by kernel_rfl) 14 (by kernel_rfl) (by simp) (by decide) (RROp key s tg true A m c bd s1 s2) (RROp_keep _ _ _ _ _ _ _ _ _ _) ?_ ?_
  · simp only [ConfStepsR, List.take_succ_cons, List.take_zero, putAll, Act.put, List.setIfInBounds_toArray, List.set_cons_succ, List.set_cons_zero, and_true]
    refine ⟨?_, ?_, ?_, ?_, ?_, ?_, ?_, ?_, ?_, ?_, ?_, ?_, ?_, ?_⟩
    all_goals intro v w' hb hd
    · exact conf_valueR belR_kept (wanted0 rfl) (by simp [go_sem]) rfl
    · have d0 : v 0 = .int .i64 (m : Int) := hd.at 0 rfl
      exact conf_valueR belR_kept (wanted0 rfl) (by simp [go_sem, d0, t0]) rfl
    · have d1 : v 1 = .bool false := hd.at 1 rfl
      exact conf_valueR belR_kept (wanted0 rfl) (by simp [go_sem, d1]) rfl
    · have g2 : v 2 = .bool false := hd.at 2 rfl
      exact conf_loadR belR_kept (g := w.heap.size) agg_b32 (wantedY rfl rfl (congrArg some g2)) ⟨rfl, by simp [go_sem]⟩ (K3.out.below hb) (by rw [u8V_size, HL.out]) rfl
    · have g2 : v 2 = .bool false := hd.at 2 rfl
      exact conf_valueR belR_kept (wantedY rfl rfl (congrArg some g2)) (by simp [go_sem]) rfl
    · have g2 : v 2 = .bool false := hd.at 2 rfl
      exact conf_valueR belR_kept (wantedY rfl rfl (congrArg some g2)) (by simp [go_sem]) rfl
    · have g2 : v 2 = .bool false := hd.at 2 rfl
      exact conf_valueR belR_kept (wantedY rfl rfl (congrArg some g2)) (by simp [go_sem]) rfl
    · have g2 : v 2 = .bool false := hd.at 2 rfl
      have d5 : v 5 = .slice A (m + 8) c := hd.at 5 rfl
      have d6 : v 6 = .int .i64 (m : Int) := hd.at 6 rfl
      exact conf_valueR belR_kept (wantedY rfl rfl (congrArg some g2)) (run_op_front _ (.tmp 17) (.tmp 18) rfl A (m + 8) c m (by simp [go_sem, d5]) (by simp [go_sem, d6]) (by omega)) rfl
    · have g2 : v 2 = .bool false := hd.at 2 rfl
      have d3 : v 3 = .agg (u8V key) := hd.at 3 rfl
      have d4 : v 4 = .int .i64 s := hd.at 4 rfl
      have d7 : v 7 = .slice A m c := hd.at 7 rfl
      refine conf_callR (f := 29) (args := #[v 3, v 4, v 7]) (wantedY rfl rfl (congrArg some g2)) (by simp [go_sem]) ?_
      rw [d3, d4, d7]
      exact (CC.out w' (bt BB.out hb)).mono fun e w'' ⟨⟨A', d', he, o⟩, hb'⟩ => ⟨_, he, hb', A', d', rfl, o.row⟩
    · have g2 : v 2 = .bool false := hd.at 2 rfl
      obtain ⟨A', d', d8, r8⟩ : ∃ A' d', v 8 = .slice A' (m + 8) d' ∧ Row w' A' (bd ++ tg) := hd.at 8 rfl
      exact conf_valueR belR_kept (wantedY rfl rfl (congrArg some g2)) (by simp [go_sem, d8, CV1.out w' A' d' r8]) rfl
    · have g2 : v 2 = .bool false := hd.at 2 rfl
      exact conf_valueR belR_kept (wantedY rfl rfl (congrArg some g2)) (by simp [go_sem]) rfl
    · have g2 : v 2 = .bool false := hd.at 2 rfl
      have d10 : v 10 = .slice A (m + 8) c := hd.at 10 rfl
      exact conf_valueR belR_kept (wantedY rfl rfl (congrArg some g2)) (by simp [go_sem, d10, CV2.out w' (bt BB.out hb)]) rfl
    · have g2 : v 2 = .bool false := hd.at 2 rfl
      have d9 : v 9 = .string s1 := hd.at 9 rfl
      have d11 : v 11 = .string s2 := hd.at 11 rfl
      exact conf_valueR belR_kept (wantedY rfl rfl (congrArg some g2)) (by simp [go_sem, d9, d11, hst.out]) rfl
    · have d2 : v 2 = .bool false := hd.at 2 rfl
      have d12 : v 12 = .bool (!true) := hd.at 12 rfl
      exact conf_valueR belR_kept (wanted0 rfl) (by simp [go_sem, d2, d12]) rfl
  · intro v w' hb hr
    have d13 : v 13 = .bool (!true) := hr 13 (by omega)
    simp only [List.take_succ_cons, List.take_zero, List.drop_succ_cons, List.drop_zero, putAll, Act.put, List.setIfInBounds_toArray, List.set_cons_succ, List.set_cons_zero]
    rw [d13]
    replace BB := Lib.hid (bt BB.out hb)
    clear hr hb d13 K3 CC
    go_wp2_with (first | ((with_reducible show wpList _ _ _ (⟨some 29, _, _, _, _, _⟩ :: _) _ _); (with_reducible refine wpRow_run (wanted0 rfl) (run_op_front _ (.tmp 27) (.tmp 28) rfl A (m + 8) c m rfl rfl (by omega)) ?_)) | (at_builtin; refine Marker.mk ?_))
    refine Marker.in ?_
    have l1 := BB.out.size
    have o1 := own_lit w' w.heap.size l1
    have b1 := below_alloc1 w' (.cells #[] 5)
    replace BB := Lib.hid (bt BB.out b1)
    have r1 := RB.out _ BB.out
    generalize w'.alloc (.cells #[] 5) = w2 at *
    refine wpList_append_bytes _ rfl (.tmp 26) (.tmp 29) rfl w.heap.size _ 0 0 [] rfl rfl o1 A c m bd BL.out rfl r1 (by omega) BB.out.size ?_
    intro A1 cap1 w4 o4 b4
    rw [Nat.zero_add]
    rw [List.nil_append] at o4
    replace BB := Lib.hid (BB.out.trans b4)
    replace o4 := Lib.hid o4
    clear b4 r1 o1 b1 l1
    go_wp2_with fail
    go_ret2
    exact ⟨⟨_, _, rfl, o4.out⟩, BB.out⟩
/-- what Open tells -/
theorem ropen_any (key xs : List Int) (A : Option Addr) (n c : Nat) (s : Int) (w : World) (hl : key.length = 32) (hkb : ∀ x ∈ key, 0 ≤ x ∧ x ≤ 255) (hn : xs.length = n) (hr : Row w A xs) (hn2 : n ≤ 1000) (hc : n ≤ c) :
    Calls Tryd.prog 35 #[.agg (u8V key), .int .i64 s, .slice A n c] w fun e w' => (∃ A' m d', e = .returned (.tuple #[.slice A' m d', .int .i64 (if isSealed key s xs then 0 else 14)])) ∧ Below w.heap.size w w' := by
  by_cases h8 : n < 8
  · have hno : ¬ isSealed key s xs := fun h => by have := h.1; omega
    rw [if_neg hno]
    exact (ropen_short key A n c s w h8).mono fun e w' ⟨h, b⟩ => ⟨⟨_, _, _, h⟩, b⟩
  · obtain ⟨m, rfl⟩ : ∃ m, n = m + 8 := ⟨n - 8, by omega⟩
    have e1 : isSealed key s xs ↔ xs = xs.take m ++ tagOf key s (xs.take m) := by
      unfold isSealed
      rw [hn, Nat.add_sub_cancel]
      exact ⟨fun h => h.2, fun h => ⟨by omega, h⟩⟩
    by_cases hx : xs = xs.take m ++ tagOf key s (xs.take m)
    · rw [if_pos (e1.2 hx)]
      exact (ropen_good key xs A m c s w hl hkb hn hr (by omega) hc hx).mono fun e w' ⟨⟨A', d', h, _⟩, b⟩ => ⟨⟨_, _, _, h⟩, b⟩
    · rw [if_neg (fun h => hx (e1.1 h))]
      exact (ropen_bad key xs A m c s w hl hkb hn hr (by omega) hc hx).mono fun e w' ⟨h, b⟩ => ⟨⟨_, _, _, h⟩, b⟩
end Go.Proofs.YtapednkmefbldaaDoor

/- The table: Take of what is sealed, and of what is not, in general. -/
namespace Go.Proofs.YtapednkmefbldaaDoor
open Go.RowKit

/-- a new message of one who is there -/
theorem take_new (g k : Nat) (T : Tab) (src : Int) (bs l : List Int) (B : Option Addr) (n c : Nat) (w : World) (K : TabB w g T) (h : T.ok) (hk3 : k < 3) (hs : src = (k : Int) + 1) (hon : (T.ses k).on = true) (ht : take8 bs = some l) (hkd : l.getD 0 0 ≠ 1 ∧ l.getD 0 0 ≠ 2)
    (hn : bs.length + 8 = n) (hnc : n ≤ c) (hc2 : c ≤ 9223372036854775807) (hs2 : n ≤ 1000) (hr : Row w B (bs ++ tagOf (T.ses k).key src bs)) (hR : Roots w) (hb : (wsee (T.ses k).win (l.getD 1 0).toNat).2 = true) :
    Calls Tryd.prog 28 #[.pointer (some ⟨g, 0, none⟩), .int .i64 src, .slice B n c] w fun e w' => e = .returned (.tuple #[.agg (msgV l), .int .i64 0]) ∧ TabB w' g (T.put k ⟨true, 0, max T.beat 0, (T.ses k).r, (T.ses k).key, (wsee (T.ses k).win (l.getD 1 0).toNat).1⟩) ∧ Only g w w' := by
  subst hs
  have e := take_sealed (T := T) (i := k) (b := bs) hk3 hon
  rw [takeM_msg ht hkd hb] at e
  refine (tabf_take g T _ _ B n c w K h (by rw [List.length_append, tagOf_len, hn]) hnc hc2 hs2 hr hR).mono ?_
  rw [e]
  rintro e w' ⟨he, hk, ho⟩
  exact ⟨he, hk, ho⟩
/-- an old one -/
theorem take_old (g k : Nat) (T : Tab) (src : Int) (bs l : List Int) (B : Option Addr) (n c : Nat) (w : World) (K : TabB w g T) (h : T.ok) (hk3 : k < 3) (hs : src = (k : Int) + 1) (hon : (T.ses k).on = true) (ht : take8 bs = some l) (hkd : l.getD 0 0 ≠ 1 ∧ l.getD 0 0 ≠ 2)
    (hn : bs.length + 8 = n) (hnc : n ≤ c) (hc2 : c ≤ 9223372036854775807) (hs2 : n ≤ 1000) (hr : Row w B (bs ++ tagOf (T.ses k).key src bs)) (hR : Roots w) (hb : (wsee (T.ses k).win (l.getD 1 0).toNat).2 = false) :
    Calls Tryd.prog 28 #[.pointer (some ⟨g, 0, none⟩), .int .i64 src, .slice B n c] w fun e w' => e = .returned (.tuple #[.agg (msgV (z12 0)), .int .i64 15]) ∧ TabB w' g T ∧ Only g w w' := by
  subst hs
  have e := take_sealed (T := T) (i := k) (b := bs) hk3 hon
  rw [takeM_old ht hkd hb] at e
  refine (tabf_take g T _ _ B n c w K h (by rw [List.length_append, tagOf_len, hn]) hnc hc2 hs2 hr hR).mono ?_
  rw [e]
  rintro e w' ⟨he, hk, ho⟩
  exact ⟨he, hk, ho⟩
/-- what is not sealed -/
theorem take_unsealed (g k : Nat) (T : Tab) (src : Int) (xs : List Int) (B : Option Addr) (n c : Nat) (w : World) (K : TabB w g T) (h : T.ok) (hk3 : k < 3) (hs : src = (k : Int) + 1) (hon : (T.ses k).on = true) (hx : ¬ isSealed (T.ses k).key src xs)
    (hn : xs.length = n) (hnc : n ≤ c) (hc2 : c ≤ 9223372036854775807) (hs2 : n ≤ 1000) (hr : Row w B xs) (hR : Roots w) :
    Calls Tryd.prog 28 #[.pointer (some ⟨g, 0, none⟩), .int .i64 src, .slice B n c] w fun e w' => e = .returned (.tuple #[.agg (msgV (z12 0)), .int .i64 14]) ∧ TabB w' g T ∧ Only g w w' := by
  have e2 : (src - 1).toNat = k := by omega
  have e : T.take src xs = ⟨T, z12 0, 14⟩ := by
    unfold Tab.take
    rw [e2, if_pos ⟨by omega, hon⟩, if_neg hx]
  refine (tabf_take g T src xs B n c w K h hn hnc hc2 hs2 hr hR).mono ?_
  rw [e]
  rintro e w' ⟨he, hk, ho⟩
  exact ⟨he, hk, ho⟩
def byeL (q : Int) : List Int := [4, q, 0, 0, 0, 0, 0, 0, 0, 0, 0, 0]
def byeB (q : Int) : List Int := [4] ++ be q 4
theorem bye_put (q : Int) (h : 0 ≤ q ∧ q ≤ 4294967295) : put8 (byeL q) = some (byeB q) := put8_lit4 q h
theorem bye_take (q : Int) (h : 0 ≤ q ∧ q ≤ 4294967295) : take8 (byeB q) = some (byeL q) := take8_put rfl (bye_put q h)
theorem bye_len (q : Int) (h : 0 ≤ q ∧ q ≤ 4294967295) : (byeB q).length = 5 := put8_len (bye_put q h)
end Go.Proofs.YtapednkmefbldaaDoor

/- The table: what one link does leaves the other ones as they are. -/
namespace Go.Proofs.YtapednkmefbldaaDoor
open Go.RowKit

theorem Tab.ses_put_ne (T : Tab) (k i : Nat) (s : Ses) (hk : k < 3) (hi : i < 3) (h : i ≠ k) : (T.put k s).ses i = T.ses i := by
  have h1 : k = 0 ∨ k = 1 ∨ k = 2 := by omega
  have h2 : i = 0 ∨ i = 1 ∨ i = 2 := by omega
  rcases h1 with rfl | rfl | rfl <;> rcases h2 with rfl | rfl | rfl <;> first | rfl | exact absurd rfl h
theorem takeM_ses (T : Tab) (k i : Nat) (bs : List Int) (hk : k < 3) (hi : i < 3) (h : i ≠ k) : (takeM T k bs).tab.ses i = T.ses i := by
  unfold takeM
  split
  · rfl
  · split
    · rfl
    · split
      · exact Tab.ses_put_ne T k i _ hk hi h
      · rfl
theorem takeM_ok {T : Tab} (h : T.ok) (k : Nat) (bs : List Int) (hb : ∀ x ∈ bs, 0 ≤ x ∧ x ≤ 255) : (takeM T k bs).tab.ok := by
  unfold takeM
  split
  · exact h
  · rename_i l hl
    split
    · exact h
    · split
      · have hq := take8_seq hb hl
        exact h.put k ⟨(h.ses k).len, (h.ses k).bytes, see_ok (h.ses k).win (by omega)⟩
      · exact h
theorem take_ses (T : Tab) (src : Int) (xs : List Int) (i : Nat) (hi : i < 3) (h : src ≠ (i : Int) + 1) : (T.take src xs).tab.ses i = T.ses i := by
  unfold Tab.take
  split
  · rename_i hc
    split
    · exact takeM_ses T _ i _ (by omega) hi (by omega)
    · rfl
  · rfl
theorem ttake_ok {T : Tab} (h : T.ok) (src : Int) (xs : List Int) (hb : ∀ x ∈ xs, 0 ≤ x ∧ x ≤ 255) : (T.take src xs).tab.ok := by
  unfold Tab.take
  split
  · split
    · exact takeM_ok h _ _ (fun x hx => hb x (List.mem_of_mem_take hx))
    · exact h
  · exact h
/-- what stays of the second link -/
def Keeps (T T' : Tab) : Prop := T'.ok ∧ T'.ses 1 = T.ses 1
theorem ap_take (g : Nat) (T : Tab) (src : Int) (xs : List Int) (B : Option Addr) (n c : Nat) (w : World) (K : TabB w g T) (h : T.ok) (hs2 : src ≠ 2) (hn : xs.length = n) (hnc : n ≤ c) (hc : c ≤ 9223372036854775807) (hs : n ≤ 1000) (hr : Row w B xs) (hR : Roots w) :
    Calls Tryd.prog 28 #[.pointer (some ⟨g, 0, none⟩), .int .i64 src, .slice B n c] w fun e w' => (∃ v, e = .returned v) ∧ (∃ T', Keeps T T' ∧ TabB w' g T') ∧ Only g w w' := by
  refine (tabf_take g T src xs B n c w K h hn hnc hc hs hr hR).mono ?_
  rintro e w' ⟨he, hk, ho⟩
  exact ⟨⟨_, he⟩, ⟨_, ⟨ttake_ok h src xs hr.2, take_ses T src xs 1 (by decide) hs2⟩, hk⟩, ho⟩
theorem ap_start (g : Nat) (T : Tab) (src role : Int) (key : List Int) (w : World) (K : TabB w g T) (h : T.ok) (hk : key.length = 32) (hb : ∀ x ∈ key, 0 ≤ x ∧ x ≤ 255) (hs2 : src ≠ 2) :
    Calls Tryd.prog 27 #[.pointer (some ⟨g, 0, none⟩), .int .i64 src, .int .i64 role, .agg (u8V key)] w fun e w' => (∃ v, e = .returned v) ∧ (∃ T', Keeps T T' ∧ TabB w' g T') ∧ Only g w w' := by
  refine (tabf_start g T src role key w K h hk).mono ?_
  rintro e w' ⟨hp, ho⟩
  split at hp
  · rename_i hc
    split at hp
    · exact ⟨⟨_, hp.1⟩, ⟨T, ⟨h, rfl⟩, hp.2⟩, ho⟩
    · exact ⟨⟨_, hp.1⟩, ⟨_, ⟨h.put _ (sesB_ok _ _ _ _ hk hb), Tab.ses_put_ne T _ 1 _ (by omega) (by decide) (by omega)⟩, hp.2⟩, ho⟩
  · exact ⟨⟨_, hp.1⟩, ⟨T, ⟨h, rfl⟩, hp.2⟩, ho⟩
theorem ap_end (g : Nat) (T : Tab) (src : Int) (w : World) (K : TabB w g T) (h : T.ok) (hs2 : src ≠ 2) :
    Calls Tryd.prog 26 #[.pointer (some ⟨g, 0, none⟩), .int .i64 src] w fun e w' => (∃ v, e = .returned v) ∧ (∃ T', Keeps T T' ∧ TabB w' g T') ∧ Only g w w' := by
  refine (tabf_end g T src w K h).mono ?_
  rintro e w' ⟨hp, ho⟩
  split at hp
  · rename_i hc
    split at hp
    · exact ⟨⟨_, hp.1⟩, ⟨_, ⟨h.put _ ses0_ok, Tab.ses_put_ne T _ 1 _ (by omega) (by decide) (by omega)⟩, hp.2⟩, ho⟩
    · exact ⟨⟨_, hp.1⟩, ⟨T, ⟨h, rfl⟩, hp.2⟩, ho⟩
  · exact ⟨⟨_, hp.1⟩, ⟨T, ⟨h, rfl⟩, hp.2⟩, ho⟩
theorem ap_sample (g : Nat) (T : Tab) (w : World) (K : TabB w g T) (h : T.ok) :
    Calls Tryd.prog 32 #[.pointer (some ⟨g, 0, none⟩)] w fun e w' => (∃ v, e = .returned v) ∧ (∃ T', Keeps T T' ∧ TabB w' g T') ∧ Only g w w' := by
  refine (tabf_sample g T w K h).mono ?_
  rintro e w' ⟨he, hk, ho⟩
  exact ⟨⟨_, he⟩, ⟨{ T with son := true, sa := 0, sm := max T.beat 0 }, ⟨⟨h.s0, h.s1, h.s2⟩, rfl⟩, hk⟩, ho⟩
end Go.Proofs.YtapednkmefbldaaDoor

/- What a struct, an array, a row that came in holds, part by part. -/
namespace Go.Proofs.YtapednkmefbldaaDoor
open Go.RowKit Go.ChangeShapes Go.WideShapes Go.Deep

theorem trod_fld {H : Type} {enc : TypeId × Value → H} {P : Program} {w : World} {t : TypeId} {fs : Array Field} {n : Nat} {cs : List Value} {x : DataW H × List MemPlace} (ht : P.underlying t = some (.struct fs)) (h : DataW.trod enc P w 0 (fun _ => true) true n t cs = some x) :
    ∃ m, cs.length = P.cellsOf t ∧ ∀ (i : Nat) (f : Field), fs[i]? = some f → ∃ y, DataW.trod enc P w 0 (fun _ => true) true m f.type ((cs.drop f.offset).take (P.cellsOf f.type)) = some y := by
  obtain ⟨xs, m, -, -, hl, hxl, hf⟩ := DataW.trod_struct ht h
  refine ⟨m, hl, fun i f hif => ?_⟩
  have hi : i < fs.size := by
    rcases Nat.lt_or_ge i fs.size with h | h
    · exact h
    · rw [Array.getElem?_eq_none h] at hif; cases hif
  exact ⟨_, (hf i f hif).trans (List.getElem?_eq_getElem (by omega))⟩
theorem trod_elm {H : Type} {enc : TypeId × Value → H} {P : Program} {w : World} {t e : TypeId} {k n : Nat} {cs : List Value} {x : DataW H × List MemPlace} (ht : P.underlying t = some (.array k e)) (h : DataW.trod enc P w 0 (fun _ => true) true n t cs = some x) :
    ∃ m, cs.length = P.cellsOf t ∧ ∀ (i : Nat), i < k → ∃ y, DataW.trod enc P w 0 (fun _ => true) true m e ((cs.drop (i * P.cellsOf e)).take (P.cellsOf e)) = some y := by
  obtain ⟨xs, m, -, -, hl, hxl, hf⟩ := DataW.trod_array ht h
  exact ⟨m, hl, fun i hi => ⟨_, (hf i hi).trans (List.getElem?_eq_getElem (by omega))⟩⟩
/-- an array of integers of one cell each -/
theorem trod_ints {H : Type} {enc : TypeId × Value → H} {P : Program} {w : World} {t e : TypeId} {k n : Nat} {kd : IntKind} {cs : List Value} {x : DataW H × List MemPlace} (ht : P.underlying t = some (.array k e)) (he : P.underlying e = some (.int kd)) (hc : P.cellsOf e = 1) (hk : P.cellsOf t = k)
    (h : DataW.trod enc P w 0 (fun _ => true) true n t cs = some x) : ∃ l : List Int, l.length = k ∧ cs = l.map (Value.int kd) ∧ ∀ z ∈ l, (Lit.int kd z).wf = true := by
  obtain ⟨m, hl, hf⟩ := trod_elm ht h
  rw [hk] at hl
  rw [hc] at hf
  have key : ∀ i (hi : i < cs.length), ∃ z, cs[i] = .int kd z ∧ (Lit.int kd z).wf = true := by
    intro i hi
    obtain ⟨y, hy⟩ := hf i (by omega)
    rw [Nat.mul_one, List.drop_eq_getElem_cons hi] at hy
    obtain ⟨z, e1, -, e3⟩ := DataW.trod_int he hy
    simp only [List.take_succ_cons, List.take_zero, List.cons.injEq, and_true] at e1
    exact ⟨z, e1, e3⟩
  refine ⟨cs.map fun v => match v with | .int _ z => z | _ => 0, by simp [hl], ?_, ?_⟩
  · rw [List.map_map]
    refine List.ext_getElem (by simp) fun i h1 h2 => ?_
    obtain ⟨z, e1, -⟩ := key i h1
    simp [e1]
  · intro z hz
    obtain ⟨v, hv, rfl⟩ := List.mem_map.1 hz
    obtain ⟨i, hi, rfl⟩ := List.getElem_of_mem hv
    obtain ⟨z, e1, e3⟩ := key i hi
    rw [e1]
    exact e3
theorem trod_one {H : Type} {enc : TypeId × Value → H} {P : Program} {w : World} {t : TypeId} {n : Nat} {kd : IntKind} {cs : List Value} {x : DataW H × List MemPlace} (he : P.underlying t = some (.int kd)) (h : DataW.trod enc P w 0 (fun _ => true) true n t cs = some x) : ∃ z, cs = [.int kd z] ∧ (Lit.int kd z).wf = true := by
  obtain ⟨z, e1, -, e3⟩ := DataW.trod_int he h
  exact ⟨z, e1, e3⟩
end Go.Proofs.YtapednkmefbldaaDoor

/- Rows of rows of bytes that came in. -/
namespace Go.Proofs.YtapednkmefbldaaDoor
open Go.RowKit Go.ChangeShapes Go.WideShapes Go.Deep

theorem add_off (b o i : Nat) : (⟨b, o, none⟩ : Addr).add i = ⟨b, o + i, none⟩ := by unfold Addr.add; split <;> simp_all
theorem row_of_trod1 {H : Type} {enc : TypeId × Value → H} {w : World} {fuel : Nat} {V : Value} {x : DataW H × List MemPlace} (hf : DataW.trod enc Tryd.prog w 0 (fun _ => true) true fuel 23 [V] = some x) : IsRow .u8 w V := by
  rcases open_slice Tryd.underlying23 hf with ⟨hcs, _⟩ | ⟨a, l, c, m, n, D, Pl, hcs, _⟩
  · simp only [List.cons.injEq, and_true] at hcs
    subst hcs
    exact row_of_trod hf
  · simp only [List.cons.injEq, and_true] at hcs
    subst hcs
    exact row_of_trod hf
/-- a slice of slices of bytes -/
def IsRows (w : World) (v : Value) : Prop := ∃ (A : Option Addr) (l c : Nat), v = .slice A l c ∧ (l = 0 ∨ ∃ b off, A = some ⟨b, off, none⟩ ∧ ∀ i, i < l → ∃ u, w.cell? ⟨b, off + i, none⟩ = some u ∧ IsRow .u8 w u)
set_option maxRecDepth 100000 in
theorem mk_sl_sl_uint8 {H : Type} {enc : TypeId × Value → H} {w : World} {r : Reach} {base : Nat} {v : Value} {d : DataW H} {p : List MemPlace}
    (h : Value.okWide Tryd.prog w r base 79 v) (hd : DataW.Trod enc Tryd.prog w 0 (fun _ => true) true 79 v d p) : IsRows w v := by
  obtain ⟨a, len, cap, rfl⟩ := okWide_slice Tryd.underlying79 h
  obtain ⟨fuel, hf⟩ := hd
  rcases open_slice1 Tryd.underlying79 (by kernel_rfl) hf with ⟨hcs, -⟩ | ⟨x, l, c, m, n, V, D, Pl, hcs, -, hl, hm, hmm, -, hi⟩
  · simp [Value.cells] at hcs
    obtain ⟨rfl, rfl, rfl⟩ := hcs
    exact ⟨none, 0, 0, rfl, .inl rfl⟩
  · simp [Value.cells] at hcs
    obtain ⟨rfl, rfl, rfl⟩ := hcs
    simp only [if_true] at hmm
    subst hmm
    refine ⟨some x, len, m, rfl, ?_⟩
    by_cases h0 : len = 0
    · exact .inl h0
    · have c0 := (hi 0 (by omega)).1
      have hx : x = ⟨x.block, x.off, none⟩ := by
        have e1 : x.add 0 = x := by simp [Addr.add]
        rw [e1] at c0
        have := World.cell?_spot c0
        cases x; simp_all
      refine .inr ⟨x.block, x.off, by rw [← hx], fun i hil => ?_⟩
      obtain ⟨h1, h2⟩ := hi i (by omega)
      rw [hx] at h1
      refine ⟨V i, ?_, row_of_trod1 h2⟩
      rw [← add_off]
      exact h1
end Go.Proofs.YtapednkmefbldaaDoor

/- A row of Ops that came in. -/
namespace Go.Proofs.YtapednkmefbldaaDoor
open Go.RowKit Go.ChangeShapes Go.WideShapes Go.Deep

set_option maxRecDepth 100000 in
set_option maxHeartbeats 800000 in
theorem trod_msg {H : Type} {enc : TypeId × Value → H} {w : World} {n : Nat} {cs : List Value} {x : DataW H × List MemPlace} (h : DataW.trod enc Tryd.prog w 0 (fun _ => true) true n 66 cs = some x) : ∃ l, IsMsgL l ∧ cs = (msgV l).toList := by
  obtain ⟨m, hl, hf⟩ := trod_fld Tryd.underlying66 h
  rw [show Tryd.prog.cellsOf 66 = 12 by kernel_rfl] at hl
  match cs, hl with
  | [c0, c1, c2, c3, c4, c5, c6, c7, c8, c9, c10, c11], _ =>
    obtain ⟨y0, h0⟩ := hf 0 _ rfl
    have g0 : DataW.trod enc Tryd.prog w 0 (fun _ => true) true m 3 (([c0, c1, c2, c3, c4, c5, c6, c7, c8, c9, c10, c11].drop 0).take (Tryd.prog.cellsOf 3)) = some y0 := h0
    rw [show Tryd.prog.cellsOf 3 = 1 by kernel_rfl] at g0
    obtain ⟨b0, e0, -⟩ := trod_one Tryd.underlying3 g0
    simp only [List.drop_succ_cons, List.drop_zero, List.take_succ_cons, List.take_zero, List.cons.injEq, and_true] at e0
    obtain ⟨y1, h1⟩ := hf 1 _ rfl
    have g1 : DataW.trod enc Tryd.prog w 0 (fun _ => true) true m 3 (([c0, c1, c2, c3, c4, c5, c6, c7, c8, c9, c10, c11].drop 1).take (Tryd.prog.cellsOf 3)) = some y1 := h1
    rw [show Tryd.prog.cellsOf 3 = 1 by kernel_rfl] at g1
    obtain ⟨b1, e1, -⟩ := trod_one Tryd.underlying3 g1
    simp only [List.drop_succ_cons, List.drop_zero, List.take_succ_cons, List.take_zero, List.cons.injEq, and_true] at e1
    obtain ⟨y2, h2⟩ := hf 2 _ rfl
    have g2 : DataW.trod enc Tryd.prog w 0 (fun _ => true) true m 3 (([c0, c1, c2, c3, c4, c5, c6, c7, c8, c9, c10, c11].drop 2).take (Tryd.prog.cellsOf 3)) = some y2 := h2
    rw [show Tryd.prog.cellsOf 3 = 1 by kernel_rfl] at g2
    obtain ⟨b2, e2, -⟩ := trod_one Tryd.underlying3 g2
    simp only [List.drop_succ_cons, List.drop_zero, List.take_succ_cons, List.take_zero, List.cons.injEq, and_true] at e2
    obtain ⟨y3, h3⟩ := hf 3 _ rfl
    have g3 : DataW.trod enc Tryd.prog w 0 (fun _ => true) true m 3 (([c0, c1, c2, c3, c4, c5, c6, c7, c8, c9, c10, c11].drop 3).take (Tryd.prog.cellsOf 3)) = some y3 := h3
    rw [show Tryd.prog.cellsOf 3 = 1 by kernel_rfl] at g3
    obtain ⟨b3, e3, -⟩ := trod_one Tryd.underlying3 g3
    simp only [List.drop_succ_cons, List.drop_zero, List.take_succ_cons, List.take_zero, List.cons.injEq, and_true] at e3
    obtain ⟨y4, h4⟩ := hf 4 _ rfl
    have g4 : DataW.trod enc Tryd.prog w 0 (fun _ => true) true m 3 (([c0, c1, c2, c3, c4, c5, c6, c7, c8, c9, c10, c11].drop 4).take (Tryd.prog.cellsOf 3)) = some y4 := h4
    rw [show Tryd.prog.cellsOf 3 = 1 by kernel_rfl] at g4
    obtain ⟨b4, e4, -⟩ := trod_one Tryd.underlying3 g4
    simp only [List.drop_succ_cons, List.drop_zero, List.take_succ_cons, List.take_zero, List.cons.injEq, and_true] at e4
    obtain ⟨y5, h5⟩ := hf 5 _ rfl
    have g5 : DataW.trod enc Tryd.prog w 0 (fun _ => true) true m 3 (([c0, c1, c2, c3, c4, c5, c6, c7, c8, c9, c10, c11].drop 5).take (Tryd.prog.cellsOf 3)) = some y5 := h5
    rw [show Tryd.prog.cellsOf 3 = 1 by kernel_rfl] at g5
    obtain ⟨b5, e5, -⟩ := trod_one Tryd.underlying3 g5
    simp only [List.drop_succ_cons, List.drop_zero, List.take_succ_cons, List.take_zero, List.cons.injEq, and_true] at e5
    obtain ⟨y6, h6⟩ := hf 6 _ rfl
    have g6 : DataW.trod enc Tryd.prog w 0 (fun _ => true) true m 3 (([c0, c1, c2, c3, c4, c5, c6, c7, c8, c9, c10, c11].drop 6).take (Tryd.prog.cellsOf 3)) = some y6 := h6
    rw [show Tryd.prog.cellsOf 3 = 1 by kernel_rfl] at g6
    obtain ⟨b6, e6, -⟩ := trod_one Tryd.underlying3 g6
    simp only [List.drop_succ_cons, List.drop_zero, List.take_succ_cons, List.take_zero, List.cons.injEq, and_true] at e6
    obtain ⟨y7, h7⟩ := hf 7 _ rfl
    have g7 : DataW.trod enc Tryd.prog w 0 (fun _ => true) true m 4 (([c0, c1, c2, c3, c4, c5, c6, c7, c8, c9, c10, c11].drop 7).take (Tryd.prog.cellsOf 4)) = some y7 := h7
    rw [show Tryd.prog.cellsOf 4 = 1 by kernel_rfl] at g7
    obtain ⟨b7, e7, -⟩ := DataW.trod_bool Tryd.underlying4 g7
    simp only [List.drop_succ_cons, List.drop_zero, List.take_succ_cons, List.take_zero, List.cons.injEq, and_true] at e7
    obtain ⟨y8, h8⟩ := hf 8 _ rfl
    have g8 : DataW.trod enc Tryd.prog w 0 (fun _ => true) true m 59 (([c0, c1, c2, c3, c4, c5, c6, c7, c8, c9, c10, c11].drop 8).take (Tryd.prog.cellsOf 59)) = some y8 := h8
    rw [show Tryd.prog.cellsOf 59 = 4 by kernel_rfl] at g8
    obtain ⟨xl, hxl, ex, -⟩ := trod_ints Tryd.underlying59 Tryd.underlying3 (by kernel_rfl) (by kernel_rfl) g8
    match xl, hxl with
    | [b8, b9, b10, b11], _ =>
      simp only [List.drop_succ_cons, List.drop_zero, List.take_succ_cons, List.take_zero, List.map_cons, List.map_nil, List.cons.injEq, and_true] at ex
      obtain ⟨e8, e9, e10, e11⟩ := ex
      refine ⟨[b0, b1, b2, b3, b4, b5, b6, if b7 then 1 else 0, b8, b9, b10, b11], ⟨rfl, ?_⟩, ?_⟩
      · cases b7
        · exact .inl rfl
        · exact .inr rfl
      · rw [e0, e1, e2, e3, e4, e5, e6, e7, e8, e9, e10, e11]
        cases b7 <;> rfl
/-- one thing that is done to a table -/
structure Op2 where
  kind : Int
  (src role : Int)
  key : List Int
  msg : List Int
  raw : Bool
  a : Option Addr
  (l c : Nat)
def Op2.cells (o : Op2) : List Value := [.int .u8 o.kind] ++ ([.int .i64 o.src] ++ ([.int .i64 o.role] ++ (o.key.map (Value.int .u8) ++ ((msgV o.msg).toList ++ ([.bool o.raw] ++ [.slice o.a o.l o.c])))))
structure Op2.fine (w : World) (o : Op2) : Prop where
  kind : 0 ≤ o.kind ∧ o.kind ≤ 255
  len : o.key.length = 32
  bytes : ∀ x ∈ o.key, 0 ≤ x ∧ x ≤ 255
  msg : IsMsgL o.msg
  row : IsBytes w (.slice o.a o.l o.c)
theorem Op2.fine.below {w w' : World} {o : Op2} (h : o.fine w) (hb : Below w.heap.size w w') : o.fine w' := by
  obtain ⟨A, xs, cap, e, h1, h2, h3, h4⟩ := h.row
  exact ⟨h.kind, h.len, h.bytes, h.msg, A, xs, cap, e, h1, h2, row_below h3 hb, h4⟩
theorem op_split (cs : List Value) (h : cs.length = 49) : cs = (cs.drop 0).take 1 ++ ((cs.drop 1).take 1 ++ ((cs.drop 2).take 1 ++ ((cs.drop 3).take 32 ++ ((cs.drop 35).take 12 ++ ((cs.drop 47).take 1 ++ (cs.drop 48).take 1))))) := by
  have st : ∀ a n : Nat, cs.drop a = (cs.drop a).take n ++ cs.drop (a + n) := fun a n => by rw [← List.drop_drop, List.take_append_drop]
  have e7 : cs.drop 48 = (cs.drop 48).take 1 := by rw [List.take_of_length_le (by rw [List.length_drop]; omega)]
  rw [← e7, ← st 47 1, ← st 35 12, ← st 3 32, ← st 2 1, ← st 1 1, ← st 0 1, List.drop_zero]
set_option maxRecDepth 100000 in
set_option maxHeartbeats 800000 in
theorem op_cells {H : Type} {enc : TypeId × Value → H} {w : World} {n : Nat} {cs : List Value} {x : DataW H × List MemPlace} (h : DataW.trod enc Tryd.prog w 0 (fun _ => true) true n 76 cs = some x) : ∃ o : Op2, o.fine w ∧ cs = o.cells := by
  obtain ⟨m, hl, hf⟩ := trod_fld Tryd.underlying76 h
  rw [show Tryd.prog.cellsOf 76 = 49 by kernel_rfl] at hl
  have sp := op_split cs hl
  obtain ⟨y0, h0⟩ := hf 0 _ rfl
  have g0 : DataW.trod enc Tryd.prog w 0 (fun _ => true) true m 5 ((cs.drop 0).take (Tryd.prog.cellsOf 5)) = some y0 := h0
  rw [show Tryd.prog.cellsOf 5 = 1 by kernel_rfl] at g0
  obtain ⟨y1, h1⟩ := hf 1 _ rfl
  have g1 : DataW.trod enc Tryd.prog w 0 (fun _ => true) true m 3 ((cs.drop 1).take (Tryd.prog.cellsOf 3)) = some y1 := h1
  rw [show Tryd.prog.cellsOf 3 = 1 by kernel_rfl] at g1
  obtain ⟨y2, h2⟩ := hf 2 _ rfl
  have g2 : DataW.trod enc Tryd.prog w 0 (fun _ => true) true m 3 ((cs.drop 2).take (Tryd.prog.cellsOf 3)) = some y2 := h2
  rw [show Tryd.prog.cellsOf 3 = 1 by kernel_rfl] at g2
  obtain ⟨y3, h3⟩ := hf 3 _ rfl
  have g3 : DataW.trod enc Tryd.prog w 0 (fun _ => true) true m 22 ((cs.drop 3).take (Tryd.prog.cellsOf 22)) = some y3 := h3
  rw [show Tryd.prog.cellsOf 22 = 32 by kernel_rfl] at g3
  obtain ⟨y4, h4⟩ := hf 4 _ rfl
  have g4 : DataW.trod enc Tryd.prog w 0 (fun _ => true) true m 66 ((cs.drop 35).take (Tryd.prog.cellsOf 66)) = some y4 := h4
  rw [show Tryd.prog.cellsOf 66 = 12 by kernel_rfl] at g4
  obtain ⟨y5, h5⟩ := hf 5 _ rfl
  have g5 : DataW.trod enc Tryd.prog w 0 (fun _ => true) true m 4 ((cs.drop 47).take (Tryd.prog.cellsOf 4)) = some y5 := h5
  rw [show Tryd.prog.cellsOf 4 = 1 by kernel_rfl] at g5
  obtain ⟨y6, h6⟩ := hf 6 _ rfl
  have g6 : DataW.trod enc Tryd.prog w 0 (fun _ => true) true m 23 ((cs.drop 48).take (Tryd.prog.cellsOf 23)) = some y6 := h6
  rw [show Tryd.prog.cellsOf 23 = 1 by kernel_rfl] at g6
  obtain ⟨b0, e0, w0⟩ := trod_one Tryd.underlying5 g0
  obtain ⟨b1, e1, -⟩ := trod_one Tryd.underlying3 g1
  obtain ⟨b2, e2, -⟩ := trod_one Tryd.underlying3 g2
  obtain ⟨kl, hkl, e3, w3⟩ := trod_ints Tryd.underlying22 Tryd.underlying5 (by kernel_rfl) (by kernel_rfl) g3
  obtain ⟨ml, hml, e4⟩ := trod_msg g4
  obtain ⟨b5, e5, -⟩ := DataW.trod_bool Tryd.underlying4 g5
  obtain ⟨a, l, c, e6⟩ : ∃ a l c, (cs.drop 48).take 1 = [.slice a l c] := by
    rcases open_slice Tryd.underlying23 g6 with ⟨hcs, _⟩ | ⟨a, l, c, m, n, D, Pl, hcs, _⟩
    · exact ⟨_, _, _, hcs⟩
    · exact ⟨_, _, _, hcs⟩
  rw [e6] at g6
  refine ⟨⟨b0, b1, b2, kl, ml, b5, a, l, c⟩, ⟨byte_of_wf w0, hkl, fun x hx => byte_of_wf (w3 x hx), hml, bytes_of_row (row_of_trod g6)⟩, ?_⟩
  rw [sp, e0, e1, e2, e3, e4, e5, e6]
  rfl
/-- a slice of Ops -/
def IsOps (w : World) (v : Value) : Prop := ∃ (A : Option Addr) (l c : Nat), v = .slice A l c ∧ (l = 0 ∨ ∃ b off, A = some ⟨b, off, none⟩ ∧ ∀ i, i < l → ∃ o : Op2, o.fine w ∧ ∀ j, j < 49 → w.cell? ⟨b, off + i * 49 + j, none⟩ = o.cells[j]?)
set_option maxRecDepth 100000 in
theorem mk_sl_sidesticklaw16_Op {H : Type} {enc : TypeId × Value → H} {w : World} {r : Reach} {base : Nat} {v : Value} {d : DataW H} {p : List MemPlace}
    (h : Value.okWide Tryd.prog w r base 74 v) (hd : DataW.Trod enc Tryd.prog w 0 (fun _ => true) true 74 v d p) : IsOps w v := by
  obtain ⟨a, len, cap, rfl⟩ := okWide_slice Tryd.underlying74 h
  obtain ⟨fuel, hf⟩ := hd
  rcases open_slice Tryd.underlying74 hf with ⟨hcs, -⟩ | ⟨x, l, c, m, n, D, Pl, hcs, -, hl, hm, hmm, -, hi⟩
  · simp [Value.cells] at hcs
    obtain ⟨rfl, rfl, rfl⟩ := hcs
    exact ⟨none, 0, 0, rfl, .inl rfl⟩
  · simp [Value.cells] at hcs
    obtain ⟨rfl, rfl, rfl⟩ := hcs
    simp only [if_true] at hmm
    subst hmm
    rw [show Tryd.prog.cellsOf 76 = 49 by kernel_rfl] at hi
    refine ⟨some x, len, m, rfl, ?_⟩
    have hc : ∀ i, i < len → ∃ o : Op2, o.fine w ∧ ∀ j, j < 49 → w.cell? ((x.add (i * 49)).add j) = o.cells[j]? := by
      intro i hil
      obtain ⟨cs', h1, h2⟩ := hi i (by omega)
      obtain ⟨o, ho, hcs⟩ := op_cells h2
      obtain ⟨-, -, h3⟩ := World.cells?_some h1
      exact ⟨o, ho, fun j hj => by rw [h3 j hj, hcs]⟩
    by_cases h0 : len = 0
    · exact .inl h0
    · have hx : x = ⟨x.block, x.off, none⟩ := by
        obtain ⟨o, -, hj⟩ := hc 0 (by omega)
        have c0 := hj 0 (by omega)
        have e1 : (x.add (0 * 49)).add 0 = x := by simp [Addr.add]
        rw [e1] at c0
        have := World.cell?_spot (c0.trans (show o.cells[0]? = some _ from rfl))
        cases x; simp_all
      refine .inr ⟨x.block, x.off, by rw [← hx], fun i hil => ?_⟩
      obtain ⟨o, ho, hj⟩ := hc i hil
      refine ⟨o, ho, fun j hjl => ?_⟩
      have h1 := hj j hjl
      rw [hx, add_off, add_off] at h1
      exact h1
end Go.Proofs.YtapednkmefbldaaDoor

/- The bytes of an Op. -/
namespace Go.Proofs.YtapednkmefbldaaDoor
open Go.RowKit

theorem op_len (o : Op2) (hk : o.key.length = 32) : o.cells.toArray.size = 49 := by simp [Op2.cells, hk, msgV_size]
theorem op_end (o : Op2) : o.cells = (([.int .u8 o.kind, .int .i64 o.src, .int .i64 o.role] : List Value) ++ o.key.map (Value.int .u8) ++ (msgV o.msg).toList) ++ [.bool o.raw, .slice o.a o.l o.c] := by simp [Op2.cells]
theorem op_c47 (o : Op2) (hk : o.key.length = 32) : o.cells.toArray[47]? = some (.bool o.raw) := by
  rw [List.getElem?_toArray, op_end, List.getElem?_append_right (by simp [hk, msgV_size])]
  simp [hk, msgV_size]
theorem op_c48 (o : Op2) (hk : o.key.length = 32) : o.cells.toArray[48]? = some (.slice o.a o.l o.c) := by
  rw [List.getElem?_toArray, op_end, List.getElem?_append_right (by simp [hk, msgV_size])]
  simp [hk, msgV_size]
theorem op_c0 (o : Op2) : o.cells.toArray[0]? = some (.int .u8 o.kind) := rfl
theorem op_c1 (o : Op2) : o.cells.toArray[1]? = some (.int .i64 o.src) := rfl
theorem op_c2 (o : Op2) : o.cells.toArray[2]? = some (.int .i64 o.role) := rfl
theorem op_key (o : Op2) (hk : o.key.length = 32) : o.cells.toArray.extract 3 (3 + 32) = u8V o.key := by
  have e : o.cells = ([.int .u8 o.kind, .int .i64 o.src, .int .i64 o.role] : List Value) ++ (o.key.map (Value.int .u8) ++ ((msgV o.msg).toList ++ [.bool o.raw, .slice o.a o.l o.c])) := by simp [Op2.cells]
  rw [e]
  exact extract_mid _ _ _ _ _ rfl (by simp [hk])
theorem op_msg (o : Op2) (hk : o.key.length = 32) : o.cells.toArray.extract 35 (35 + 12) = msgV o.msg := by
  have e : o.cells = (([.int .u8 o.kind, .int .i64 o.src, .int .i64 o.role] : List Value) ++ o.key.map (Value.int .u8)) ++ ((msgV o.msg).toList ++ [.bool o.raw, .slice o.a o.l o.c]) := by simp [Op2.cells]
  rw [e, extract_mid _ _ _ _ _ (by simp [hk]) (by simp [msgV_size])]
theorem op_one (o : Op2) : o.cells.toArray.all (·.oneCell') = true := by
  refine all_oneCell_toArray fun v hv => ?_
  have hm := msgV_one o.msg
  rw [Array.all_eq_true_iff_forall_mem] at hm
  simp only [Op2.cells, List.mem_append, List.mem_cons, List.not_mem_nil, or_false, List.mem_map] at hv
  rcases hv with rfl | rfl | rfl | ⟨x, -, rfl⟩ | hv | rfl | rfl
  · rfl
  · rfl
  · rfl
  · rfl
  · exact hm v (by simpa using hv)
  · rfl
  · rfl
/-- what bytes tells -/
def BytesP (w : World) (e : Ending) (w' : World) : Prop := (∃ (A : Option Addr) (n c : Nat) (xs : List Int), e = .returned (.slice A n c) ∧ xs.length = n ∧ n ≤ 1000 ∧ n ≤ c ∧ c ≤ 9223372036854775807 ∧ Row w' A xs) ∧ Below w.heap.size w w'
theorem szOf_le (k : Int) : szOf k ≤ 16 := by
  unfold szOf
  repeat' split
  all_goals omega
set_option maxRecDepth 100000 in
set_option maxHeartbeats 800000 in
theorem op_bytes_raw (o : Op2) (w : World) (ho : o.fine w) (hraw : o.raw = true) : Calls Tryd.prog 33 #[.agg o.cells.toArray] w (BytesP w) := by
  obtain ⟨A, xs, cap, e, h1, h2, h3, -⟩ := ho.row
  injection e with e1 e2 e3
  have c47 := op_c47 o ho.len
  have c48 := op_c48 o ho.len
  have hs := op_len o ho.len
  rw [e1, e2, e3] at c48
  rw [hraw] at c47
  obtain ⟨n, hn⟩ : ∃ n, xs.length = n := ⟨_, rfl⟩
  rw [hn] at c48 h1
  obtain ⟨k, hk⟩ : ∃ k : Nat, min n 60 = k := ⟨_, rfl⟩
  have hmk : Hid (min (n : Int) 60 = (k : Int)) := Lib.hid (by omega)
  have XR := Lib.hid (row_take h3 k)
  have XN : Hid ((xs.take k).length = k) := Lib.hid (by rw [List.length_take]; omega)
  have hk60 : k ≤ 60 := by omega
  have hkc : k ≤ cap := by omega
  generalize xs.take k = ys at *
  generalize o.cells.toArray = cs at *
  have K0 := Lib.hid (Blk.new w cs 76)
  have d47 : (w.alloc (.cells cs 76)).cell? ⟨w.heap.size, 47, none⟩ = some (.bool true) := by rw [K0.out.cell, c47]
  have d48 : (w.alloc (.cells cs 76)).cell? ⟨w.heap.size, 48, none⟩ = some (.slice A n cap) := by rw [K0.out.cell, c48]
  clear c47 c48 h3 hn hk e1 e2 e3 ho hraw
  go_enter Tryd.func33, Tryd.ntmps33
  go_wp2_with (first | ((with_reducible show wpList _ _ _ (⟨some 12, _, _, _, _, _⟩ :: _) _ _); (with_reducible refine wpList_min (p := (n : Int)) (q := 60) (r := (k : Int)) _ _ _ rfl rfl ?_ ?_ ?_ ?_); (· rfl); (· rfl); (· exact hmk.out)) | ((with_reducible show wpList _ _ _ (⟨some 13, _, _, _, _, _⟩ :: _) _ _); (with_reducible refine wpRow_run (wanted0 rfl) (run_op_front _ (.tmp 8) (.tmp 12) rfl A n cap k rfl rfl hkc) ?_)))
  go_ret
  have b1 := below_alloc1 w (.cells cs 76)
  exact ⟨⟨A, k, cap, ys, rfl, XN.out, by omega, hkc, h2, XR.out.below b1⟩, b1⟩
set_option maxRecDepth 100000 in
set_option maxHeartbeats 800000 in
theorem op_bytes_msg (o : Op2) (w : World) (ho : o.fine w) (hraw : o.raw = false) : Calls Tryd.prog 33 #[.agg o.cells.toArray] w (BytesP w) := by
  have CP := Lib.hid (fun W => rput_any o.msg ho.msg W)
  have CC := Lib.hid (fun (B : Option Addr) (m d : Nat) (b : List Int) (W : World) (hm : b.length = m) (hr : Row W B b) (h2 : m ≤ 100000) => rclose_any o.key b B m d o.src W ho.len ho.bytes hm hr h2)
  have c47 := op_c47 o ho.len
  have c1 := op_c1 o
  have hs := op_len o ho.len
  have hx1 := Lib.hid (op_key o ho.len)
  have hx2 := Lib.hid (op_msg o ho.len)
  have HKS : Hid ((u8V o.key).size = 32) := Lib.hid (by rw [u8V_size, ho.len])
  have HMS := Lib.hid (msgV_size o.msg)
  rw [hraw] at c47
  have SZ := fun bs (h : put8 o.msg = some bs) => put8_len h
  replace SZ := Lib.hid SZ
  clear ho hraw
  generalize o.cells.toArray = cs at *
  generalize u8V o.key = kv at *
  generalize hmv : msgV o.msg = mv at *
  generalize o.src = src at *
  generalize o.key = key at *
  have K0 := Lib.hid (Blk.new w cs 76)
  have d47 : (w.alloc (.cells cs 76)).cell? ⟨w.heap.size, 47, none⟩ = some (.bool false) := by rw [K0.out.cell, c47]
  have BB := Lib.hid (below_alloc1 w (.cells cs 76))
  clear c47 hmv
  go_enter Tryd.func33, Tryd.ntmps33
  go_wp2_with (((with_reducible show wpList _ _ _ (⟨_, .load 66 _, _, _, _, none⟩ :: _) _ _); (with_reducible refine wpBlk_mid (g := w.heap.size) (off := 35) (cs := mv) agg_msg ?_ ?_ K0 ?_ ?_ ?_); (· exact wanted0 rfl); (· exact ⟨rfl, rfl⟩); (· exact HMS.out); (· exact hx2.out)))
  clear d47
  generalize w.alloc (.cells cs 76) = w1 at *
  ((with_reducible refine (CP.out _).mono ?_))
  rintro e w2 hp
  obtain ⟨B, n, d, bs, ⟨k, rfl⟩, hbn, hb16, hbr, b2⟩ : ∃ (B : Option Addr) (n d : Nat) (bs : List Int), (∃ k : Int, e = .returned (.tuple #[.slice B n d, .int .i64 k])) ∧ bs.length = n ∧ n ≤ 16 ∧ Row w2 B bs ∧ Below w1.heap.size w1 w2 := by
    obtain ⟨h, hb⟩ := hp
    cases hpm : put8 o.msg with
    | none =>
      rw [hpm] at h
      exact ⟨none, 0, 0, [], ⟨1, h⟩, rfl, by omega, row_empty _ _, hb⟩
    | some bs =>
      rw [hpm] at h
      obtain ⟨A, c, base, he, hown⟩ := h
      have hl := SZ.out bs hpm
      have := szOf_le (o.msg.getD 0 0)
      exact ⟨A, bs.length, c, bs, ⟨0, he⟩, rfl, by omega, hown.row, hb⟩
  replace K0 := Lib.hid (K0.out.below b2)
  replace BB := Lib.hid (bt BB.out b2)
  have d1 : w2.cell? ⟨w.heap.size, 1, none⟩ = some (.int .i64 src) := by rw [K0.out.cell, c1]
  replace hbn := Lib.hid hbn
  replace hbr := Lib.hid hbr
  clear b2 hp c1 CP
  go_wp2_with (((with_reducible show wpList _ _ _ (⟨_, .load 22 _, _, _, _, none⟩ :: _) _ _); (with_reducible refine wpBlk_mid (g := w.heap.size) (off := 3) (cs := kv) agg_b32 ?_ ?_ K0 ?_ ?_ ?_); (· exact wanted0 rfl); (· exact ⟨rfl, rfl⟩); (· exact HKS.out); (· exact hx1.out)))
  ((with_reducible refine (CC.out B n d bs _ hbn.out hbr.out (by omega)).mono ?_))
  rintro e w3 ⟨⟨A', d', rfl, own⟩, b3⟩
  have hl3 : (bs ++ tagOf key src bs).length = n + 8 := by rw [List.length_append, tagOf_len, hbn.out]
  have hc3 := own_cap8 own
  rw [hl3] at hc3
  replace own := Lib.hid own
  replace BB := Lib.hid (bt BB.out b3)
  replace hl3 := Lib.hid hl3
  clear b3
  go_wp2_with fail
  go_ret
  exact ⟨⟨A', n + 8, d', _, rfl, hl3.out, by omega, hc3.1, hc3.2, own.out.row⟩, BB.out⟩
theorem op_bytes (o : Op2) (w : World) (ho : o.fine w) : Calls Tryd.prog 33 #[.agg o.cells.toArray] w (BytesP w) := by
  cases hr : o.raw with
  | true => exact op_bytes_raw o w ho hr
  | false => exact op_bytes_msg o w ho hr
end Go.Proofs.YtapednkmefbldaaDoor

/- The walk of TableApart. -/
namespace Go.Proofs.YtapednkmefbldaaDoor
open Go.RowKit

set_option maxRecDepth 100000 in
theorem built_beat2 (q : Int) : Tryd.prog.built 66 [(0, .int .i64 3), (1, .int .i64 q)] = some (msgV (beatL q)) := by kernel_rfl
def op0 : Op2 := ⟨0, 0, 0, zeros 32, z12 0, false, none, 0, 0⟩
theorem agg_op : AggT Tryd.prog 76 49 := ⟨⟨_, Tryd.underlying76, rfl⟩, by kernel_rfl⟩
set_option maxRecDepth 100000 in
theorem zeroT_op : ZeroT Tryd.prog 76 op0.cells.toArray := by
  intro ev o w ho
  unfold execOp
  simp only [ho]
  simp [go_sem]
  exact congrArg (fun c => w.alloc (.cells c 76)) (by kernel_rfl)
/-- cells that lie somewhere are loaded -/
theorem wpCells_load {P : Program} {ops : Array Oper} {rest : List Oper} {o : Oper} {a : Act} {w : World} {Q : Exit → Act → World → Prop} {T : TypeId} {n b off : Nat} {cs : List Value} (hT : AggT P T n) (hw : Region.wanted o (yielded ops a.tmps) = true) (hl : LoadMid o a T b off) (hr : Hid (w.rangeAt b off cs)) (hn : cs.length = n)
    (h : wpList P ops Q rest (a.put o.dst (.agg cs.toArray)) w) : wpList P ops Q (o :: rest) a w := by
  obtain ⟨⟨d, hu, hd⟩, hi⟩ := hT
  unfold LoadMid at hl
  split at hl
  · rename_i t x ho
    obtain ⟨rfl, hx⟩ := hl
    refine wpRow_run hw ?_ h
    have hrun := run_loadVar_mid w b off t cs d hr.out hu (by cases d <;> first | rfl | cases hd) (by rw [hi, hn])
    unfold execOp
    simp only [ho, hx, Instr.loadAt, Instr.sureAddr, Sem.run_bind, Sem.run_pure, Result.andThen_ok, hrun]
  · exact hl.elim
def WinAt (s : Nat) (win : Option (Nat × Nat)) : Prop := win = none ∨ ∃ q, win = some (s, q)
theorem winAt_new {s : Nat} {win : Option (Nat × Nat)} (h : WinAt s win) : (wsee win (s + 1)).2 = true ∧ WinAt (s + 1) (wsee win (s + 1)).1 := by
  rcases h with rfl | ⟨q, rfl⟩
  · exact ⟨rfl, .inr ⟨_, rfl⟩⟩
  · have h1 : s < s + 1 := by omega
    simp only [wsee, if_pos h1]
    exact ⟨trivial, .inr ⟨_, rfl⟩⟩
/-- the second link, as it stands -/
def Second (key : List Int) (s : Nat) (T : Tab) : Prop := T.ok ∧ ∃ (a m : Int) (win : Option (Nat × Nat)), T.ses 1 = ⟨true, a, m, 3, key, win⟩ ∧ WinAt s win
theorem Second.tok {key : List Int} {s : Nat} {T : Tab} (h : Second key s T) : T.ok := h.1
theorem Second.on2 {key : List Int} {s : Nat} {T : Tab} (h : Second key s T) : T.isOn 2 = true := by
  obtain ⟨-, a, m, win, e, -⟩ := h
  show (T.ses 1).on = true
  rw [e]
theorem Second.role2 {key : List Int} {s : Nat} {T : Tab} (h : Second key s T) : T.roleOf 2 = 3 := by
  obtain ⟨-, a, m, win, e, -⟩ := h
  show (if (T.ses 1).on then (T.ses 1).r else 0) = 3
  rw [e]
  rfl
theorem Second.keeps {key : List Int} {s : Nat} {T T' : Tab} (h : Second key s T) (k : Keeps T T') : Second key s T' := by
  obtain ⟨-, a, m, win, e, hw⟩ := h
  exact ⟨k.1, a, m, win, k.2.trans e, hw⟩
theorem ap_beat (g s : Nat) (T : Tab) (key : List Int) (B : Option Addr) (c : Nat) (w : World) (K : TabB w g T) (h : Second key s T) (hs : s ≤ 40) (hc : 13 ≤ c) (hc2 : c ≤ 9223372036854775807) (hr : Row w B (beatB ((s : Int) + 1) ++ tagOf key 2 (beatB ((s : Int) + 1)))) (hR : Roots w) :
    Calls Tryd.prog 28 #[.pointer (some ⟨g, 0, none⟩), .int .i64 2, .slice B 13 c] w fun e w' => e = .returned (.tuple #[.agg (msgV (beatL ((s : Int) + 1))), .int .i64 0]) ∧ (∃ T', Second key (s + 1) T' ∧ TabB w' g T') ∧ Only g w w' := by
  obtain ⟨hok, a, m, win, e, hw⟩ := h
  have hq : 0 ≤ (s : Int) + 1 ∧ (s : Int) + 1 ≤ 4294967295 := by omega
  have en : ((beatL ((s : Int) + 1)).getD 1 0).toNat = s + 1 := by show ((s : Int) + 1).toNat = s + 1; omega
  have hn := winAt_new hw
  have hk : (T.ses 1).key = key := by rw [e]
  have h := take_new g 1 T 2 (beatB ((s : Int) + 1)) (beatL ((s : Int) + 1)) B 13 c w K hok (by decide) (by decide) (by rw [e]) (beat_take _ hq) ⟨(by show (3 : Int) ≠ 1; decide), (by show (3 : Int) ≠ 2; decide)⟩ (by rw [beat_len _ hq]) hc hc2 (by omega) (by rw [hk]; exact hr) hR (by rw [en, e]; exact hn.1)
  refine h.mono ?_
  rintro e' w' ⟨he, kt, ho⟩
  refine ⟨he, ⟨_, ⟨?_, 0, max T.beat 0, (wsee win (s + 1)).1, ?_, hn.2⟩, kt⟩, ho⟩
  · exact hok.put 1 ⟨(hok.ses 1).len, (hok.ses 1).bytes, see_ok (hok.ses 1).win (by rw [en]; omega)⟩
  · rw [Tab.ses_put, en, e]
def RBy (g g11 : Nat) (src : Int) (cs : Array Value) (j : Nat) (v : Value) (w : World) : Prop := match j with
  | 0 => v = .pointer (some ⟨g, 0, none⟩)
  | 1 => v = .pointer (some ⟨g11, 1, none⟩)
  | 2 => v = .int .i64 src
  | 3 => v = .agg cs
  | _ => ∃ (A : Option Addr) (n c : Nat) (xs : List Int), v = .slice A n c ∧ xs.length = n ∧ n ≤ 1000 ∧ n ≤ c ∧ c ≤ 9223372036854775807 ∧ Row w A xs
theorem RBy_keep (g g11 : Nat) (src : Int) (cs : Array Value) : ∀ j v w w', j < 5 → RBy g g11 src cs j v w → BelR w w' → RBy g g11 src cs j v w' := by
  intro j v w w' hi h hb
  unfold RBy at *
  split at h
  case h_5 => obtain ⟨A, n, c, xs, e, h1, h2, h3, h4, k⟩ := h; exact ⟨A, n, c, xs, e, h1, h2, h3, h4, row_below k hb⟩
  all_goals exact h
set_option maxRecDepth 100000 in
set_option maxHeartbeats 3200000 in
theorem walk_TableApart (v0 v1 v2 : Value) (w : World) (hR : Roots w) (q0 : ∃ b0, Value.okWide Tryd.prog w .any b0 22 v0) (q1 : IsOps w v1) (q2 : ∃ n : Int, v2 = .int .u8 n ∧ 0 ≤ n ∧ n ≤ 255) :
    Calls Tryd.prog 8 #[v0, v1, v2] w fun e w' => e = .returned (.bool true) ∧ Below w.heap.size w w' := by
  obtain ⟨q, rfl, hq0, hq1⟩ := q2
  obtain ⟨A, m, cap, rfl, hx⟩ := q1
  obtain ⟨b2, q0⟩ := q0
  obtain ⟨key, rfl, KL, KB⟩ := flat_b32 _ _ _ q0
  have RT := Lib.hid hR
  have KS : Hid ((u8V key).size = 32) := Lib.hid (by rw [u8V_size, KL])
  have HX := Lib.hid hx
  obtain ⟨pv, hpv, hps, hp1, hp2⟩ := built_pol 4 3
  have CN := Lib.hid (fun W => tabf_new pv 4 3 W hps hp1 hp2)
  replace hpv := Lib.hid hpv
  replace KL := Lib.hid KL
  replace KB := Lib.hid KB
  clear q0 hR hx hps hp1 hp2
  obtain ⟨kv, hkv⟩ : ∃ x, x = u8V key := ⟨_, rfl⟩
  rw [← hkv] at KS ⊢
  replace hkv := Lib.hid hkv
  go_enter Tryd.func8, Tryd.ntmps8
  go_wp2_with fail
  have K5 := Lib.hid (Blk.new w kv 22)
  have BB := Lib.hid (below_alloc1 w (.cells kv 22))
  generalize w.alloc (.cells kv 22) = w1 at *
  ((with_reducible refine (shown16 _).mono ?_))
  rintro e w2 ⟨rfl, b2⟩
  replace K5 := Lib.hid (K5.out.below b2)
  replace BB := Lib.hid (bt BB.out b2)
  clear b2
  go_wp2_with ((with_reducible show wpList _ _ _ (⟨some 18, _, _, _, _, _⟩ :: _) _ _); refine wpList_build' rfl 62 _ rfl pv hpv.out ?_)
  have lk2 := K5.out.lt
  ((with_reducible refine (CN.out _).mono ?_))
  rintro e w3 ⟨g, hg, rfl, kt, b2⟩
  replace K5 := Lib.hid (K5.out.below b2)
  replace BB := Lib.hid (bt BB.out b2)
  have KT := Lib.hid kt
  have l6 : w.heap.size < g := by omega
  clear b2 CN kt hpv hg lk2
  go_wp2_with ((with_reducible show wpList _ _ _ (⟨_, .load 22 _, _, _, _, _⟩ :: _) _ _); (with_reducible refine wpBlk_load (g := w.heap.size) agg_b32 ?_ ?_ K5 ?_ ?_); (· (first | exact wanted0 rfl | exact wantedY rfl rfl rfl | (simp [Region.wanted, yielded]; done))); (· exact ⟨rfl, rfl⟩); (· exact KS.out))
  rw [hkv.out]
  ((with_reducible refine (st_ok g 1 (tab0 4 3) 2 3 key _ KT.out (tab0_ok 4 3) KL.out (by decide) (by decide) (by decide) (.inr (by decide))).mono ?_))
  rintro e w9 ⟨rfl, kt, o9⟩
  rw [← hkv.out]
  replace K5 := Lib.hid (o9.blk K5.out (Nat.ne_of_lt l6))
  replace BB := Lib.hid (BB.out.trans (o9.bel _ (Nat.le_of_lt l6) BB.out.size))
  replace KT := Lib.hid kt
  have S0 : Hid (Second key 0 ((tab0 4 3).put 1 (sesB true (max (tab0 4 3).beat 0) 3 key))) := Lib.hid ⟨(tab0_ok 4 3).put 1 (sesB_ok _ _ _ _ KL.out KB.out), 0, max 4 0, none, rfl, .inl rfl⟩
  clear kt o9
  go_wp2_with fail
  go_loopw [9, 10] (fun x y wr => ∃ (i s : Nat) (T : Tab), i ≤ 40 ∧ s ≤ i ∧ y = .int .i64 i ∧ x = .int .i64 s ∧ Second key s T ∧ Blk wr w.heap.size kv 22 ∧ TabB wr g T ∧ Below w.heap.size w wr) (fun _ y _ => 40 - (intOf y).toNat)
  case atStart => exact ⟨0, 0, _, by omega, by omega, rfl, rfl, S0.out, K5.out, KT.out, BB.out⟩
  case round =>
    clear K5 KT BB S0
    obtain ⟨i, s, T, hi40, hsi, rfl, rfl, HS, K5, KT, BB⟩ := hrel
    replace K5 := Lib.hid K5
    replace KT := Lib.hid KT
    replace BB := Lib.hid BB
    replace HS := Lib.hid HS
    by_cases hlt : i < m
    · by_cases hl2 : i < 40
      · have t1 : decide ((i : Int) < (m : Int)) = true := decide_eq_true (by omega)
        have t2 : decide ((i : Int) < 40) = true := decide_eq_true (by omega)
        obtain ⟨b, off, hA, hcx⟩ := HX.out.resolve_left (by omega)
        obtain ⟨o, hof, hoc⟩ := hcx i hlt
        subst hA
        have hsz := op_len o hof.len
        have hsz2 : o.cells.length = 49 := by simpa using hsz
        have RA : Hid (wr.rangeAt b (off + i * 49) o.cells) := Lib.hid (by
          intro j v hj
          have hjl : j < 49 := by
            rcases Nat.lt_or_ge j 49 with h | h
            · exact h
            · rw [List.getElem?_eq_none (by omega)] at hj; cases hj
          have hc := (hoc j hjl).trans hj
          rw [BB.out.cell (World.block_lt_of_cell? _ _ hc)]
          exact hc)
        have HOF : Hid (o.fine wr) := Lib.hid (hof.below BB.out)
        have KSO : Hid ((u8V o.key).size = 32) := Lib.hid (by rw [u8V_size, hof.len])
        have HKX := Lib.hid (op_key o hof.len)
        have HKL := Lib.hid hof.len
        have HKB := Lib.hid hof.bytes
        have OB := Lib.hid (fun W (h : o.fine W) => op_bytes o W h)
        have OS0 := Lib.hid (op_len op0 rfl)
        have OS := Lib.hid hsz
        have OS2 := Lib.hid hsz2
        have OO := Lib.hid (op_one o)
        have q0 := op_c0 o
        have q1 := op_c1 o
        have q2 := op_c2 o
        have hkd := hof.kind
        clear hcx hoc hof hsz hsz2
        go_wp2_with (first | ((with_reducible show wpList _ _ _ (⟨_, .load 76 _, _, _, _, none⟩ :: _) _ _); (with_reducible refine wpCells_load (b := b) (off := off + i * 49) (cs := o.cells) agg_op ?_ ?_ RA ?_ ?_); (· exact wanted0 rfl); (· exact ⟨rfl, rfl⟩); (· exact OS2.out)) | ((with_reducible show wpList _ _ _ (⟨_, .alloc 76, _, _, _, none⟩ :: _) _ _); (with_reducible refine wpRow_alloc zeroT_op ?_ ?_ ?_); (· exact wanted0 rfl); (· rfl); refine Marker.mk ?_))
        refine Marker.in ?_
        have lg9 := Blk.lt KT.out
        have l59 := K5.out.lt
        have K11 := Lib.hid (Blk.new wr op0.cells.toArray 76)
        have bel := below_alloc1 wr (.cells op0.cells.toArray 76)
        have HOW := Lib.hid (fun W (h : Below wr.heap.size wr W) => HOF.out.below h)
        clear HOF
        have BR := Lib.hid bel
        replace K5 := Lib.hid (K5.out.below bel)
        replace KT := Lib.hid (Blk.below KT.out bel)
        replace BB := Lib.hid (bt BB.out bel)
        clear bel RA
        have lw9 : wr.heap.size ≤ wr.heap.size := Nat.le_refl _
        generalize wr.alloc (.cells op0.cells.toArray 76) = w4 at *
        clear lw9
        generalize wr.heap.size = g11 at *
        obtain ⟨cs, hcs⟩ : ∃ x, x = o.cells.toArray := ⟨_, rfl⟩
        rw [← hcs] at HKX OB OS OO q0 q1 q2 ⊢
        clear hcs
        go_wp2_with (((with_reducible show wpList _ _ _ (⟨_, .store 76 _ _, _, _, _, none⟩ :: _) _ _); (with_reducible refine wpBlk_store (g := g11) (cs := cs) agg_op ?_ ?_ K11 ?_ ?_ ?_ ?_); (· exact wanted0 rfl); (· exact ⟨rfl, rfl, rfl⟩); (· exact OS0.out); (· exact OS.out); (· exact OO.out); refine Marker.mk ?_))
        refine Marker.in ?_
        replace K11 := Lib.hid (K11.out.setRow cs)
        replace K5 := Lib.hid (Blk.setRow_other K5.out g11 cs (by omega))
        replace KT := Lib.hid (Blk.setRow_other KT.out g11 cs (by omega))
        replace BB := Lib.hid (below_setRow (g := g11) BB.out (by omega) cs)
        replace BR := Lib.hid (below_setRow (g := g11) BR.out (Nat.le_refl _) cs)
        generalize w4.setRow g11 cs = w5 at *
        have c0 : w5.cell? ⟨g11, 0, none⟩ = some (.int .u8 o.kind) := by rw [K11.out.cell, q0]
        have c1 : w5.cell? ⟨g11, 1, none⟩ = some (.int .i64 o.src) := by rw [K11.out.cell, q1]
        have c2 : w5.cell? ⟨g11, 2, none⟩ = some (.int .i64 o.role) := by rw [K11.out.cell, q2]
        generalize o.kind = kd at *
        generalize o.src = src at *
        generalize o.role = role at *
        have hR5 := Lib.hid BB.out
        by_cases h2 : src = 2
        · have d2 : (src == 2) = true := by rw [beq_iff_eq]; exact h2
          replace h2 := Lib.hid h2
          go_wp2_with fail
          exact ⟨⟨i + 1, s, T, by omega, by omega, by simp, rfl, HS.out, K5.out, KT.out, BB.out⟩, by simp [intOf]; omega⟩
        · have d2 : (src == 2) = false := beq_eq_false_iff_ne.2 h2
          replace h2 := Lib.hid h2
          by_cases h3 : kd % 8 = 3
          · have d3 : (kd % 8 == 3) = true := by rw [beq_iff_eq]; exact h3
            replace h3 := Lib.hid h3
            go_wp2_with fail
            exact ⟨⟨i + 1, s, T, by omega, by omega, by simp, rfl, HS.out, K5.out, KT.out, BB.out⟩, by simp [intOf]; omega⟩
          · have d3 : (kd % 8 == 3) = false := beq_eq_false_iff_ne.2 h3
            replace h3 := Lib.hid h3
            by_cases k0 : kd % 8 = 0
            · have e0 : (kd % 8 == 0) = true := by rw [beq_iff_eq]; exact k0
              replace k0 := Lib.hid k0
              have kt1 : TabB w5 g T := KT.out
              go_wp2_with ((with_reducible show wpList _ _ _ (⟨_, .load 22 _, _, _, _, none⟩ :: _) _ _); (with_reducible refine wpBlk_mid (g := g11) (off := 3) (cs := u8V o.key) agg_b32 ?_ ?_ K11 ?_ ?_ ?_); (· exact wanted0 rfl); (· exact ⟨rfl, rfl⟩); (· exact KSO.out); (· exact HKX.out))
              ((with_reducible refine (ap_start g T src role o.key _ kt1 HS.out.tok HKL.out HKB.out h2.out).mono ?_))
              rintro e w6 ⟨⟨v, rfl⟩, ⟨T1, kp, kt⟩, o6⟩
              replace K5 := Lib.hid (o6.blk K5.out (Nat.ne_of_lt l6))
              replace BB := Lib.hid (BB.out.trans (o6.bel _ (Nat.le_of_lt l6) BB.out.size))
              replace KT := Lib.hid kt
              have HS1 := Lib.hid (HS.out.keeps kp)
              clear kt o6 kp c0 c1 c2 HS
              have BM := Lib.hid (built_beat2 ((s : Int) + 1))
              have hsq : 0 ≤ (s : Int) + 1 ∧ (s : Int) + 1 ≤ 4294967295 := by omega
              have HSQ := Lib.hid hsq
              have CP := Lib.hid (fun W => rput_any (beatL ((s : Int) + 1)) ⟨rfl, .inl rfl⟩ W)
              go_wp2_with ((with_reducible show wpList _ _ _ (⟨some 94, _, _, _, _, _⟩ :: _) _ _); refine wpList_build' rfl 66 _ rfl (msgV (beatL ((s : Int) + 1))) BM.out ?_)
              · exact ⟨⟨i + 1, s, T1, by omega, by omega, by simp, rfl, HS1.out, K5.out, KT.out, BB.out⟩, by simp [intOf]; omega⟩
              · ((with_reducible refine (CP.out _).mono ?_))
                rintro e w7 hp
                unfold RPutP at hp
                rw [beat_put _ HSQ.out] at hp
                obtain ⟨⟨A6, c6, base6, rfl, hown⟩, b6⟩ := hp
                rw [beat_len _ HSQ.out]
                replace K5 := Lib.hid (K5.out.below b6)
                replace KT := Lib.hid (Blk.below KT.out b6)
                replace BB := Lib.hid (bt BB.out b6)
                replace hown := Lib.hid hown.row
                clear b6 CP BM
                go_wp2_with ((with_reducible show wpList _ _ _ (⟨_, .load 22 _, _, _, _, _⟩ :: _) _ _); (with_reducible refine wpBlk_load (g := w.heap.size) agg_b32 ?_ ?_ K5 ?_ ?_); (· (first | exact wanted0 rfl | exact wantedY rfl rfl rfl | (simp [Region.wanted, yielded]; done))); (· exact ⟨rfl, rfl⟩); (· exact KS.out))
                rw [hkv.out]
                ((with_reducible refine (rclose_any key (beatB ((s : Int) + 1)) A6 5 c6 2 _ KL.out KB.out (beat_len _ HSQ.out) hown.out (by decide)).mono ?_))
                rintro e w8 ⟨⟨A7, c7, rfl, own7⟩, b7⟩
                rw [← hkv.out]
                replace K5 := Lib.hid (K5.out.below b7)
                replace KT := Lib.hid (Blk.below KT.out b7)
                replace BB := Lib.hid (bt BB.out b7)
                have h13 : Hid (13 ≤ c7 ∧ c7 ≤ 9223372036854775807) := Lib.hid (by have := own_cap8 own7; rw [List.length_append, beat_len _ HSQ.out, tagOf_len] at this; exact this)
                have HR7 := Lib.hid own7.row
                clear own7 b7 hown
                have kt1 : TabB w8 g T1 := KT.out
                go_wp2_with fail
                ((with_reducible refine (ap_beat g s T1 key A7 c7 _ kt1 HS1.out (by omega) h13.out.1 h13.out.2 HR7.out (RT.out.below BB.out)).mono ?_))
                rintro e w10 ⟨rfl, ⟨T2, HS2, kt⟩, o8⟩
                replace K5 := Lib.hid (o8.blk K5.out (Nat.ne_of_lt l6))
                replace BB := Lib.hid (BB.out.trans (o8.bel _ (Nat.le_of_lt l6) BB.out.size))
                replace KT := Lib.hid kt
                replace HS2 := Lib.hid HS2
                clear kt o8 kt1 HR7 h13
                go_wp2_with (((with_reducible show wpList _ _ _ (⟨_, .alloc 66, _, _, _, none⟩ :: _) _ _); (with_reducible refine wpRow_alloc zeroT_msgy ?_ ?_ ?_); (· exact wanted0 rfl); (· rfl); refine Marker.mk ?_))
                refine Marker.in ?_
                have lg9 := Blk.lt KT.out
                have l59 := K5.out.lt
                have K9 := Lib.hid (Blk.new w10 (msgV (z12 0)) 66)
                have bel := below_alloc1 w10 (.cells (msgV (z12 0)) 66)
                replace K5 := Lib.hid (K5.out.below bel)
                replace KT := Lib.hid (Blk.below KT.out bel)
                replace BB := Lib.hid (bt BB.out bel)
                clear bel
                generalize w10.alloc (.cells (msgV (z12 0)) 66) = w12 at *
                generalize w10.heap.size = g15 at *
                go_wp2_with (((with_reducible show wpList _ _ _ (⟨_, .store 66 _ _, _, _, _, none⟩ :: _) _ _); (with_reducible refine wpBlk_store (g := g15) (cs := msgV (beatL ((s : Int) + 1))) agg_msg ?_ ?_ K9 ?_ ?_ ?_ ?_); (· exact wanted0 rfl); (· exact ⟨rfl, rfl, rfl⟩); (· exact msgV_size _); (· exact msgV_size _); (· exact msgV_one _); refine Marker.mk ?_))
                refine Marker.in ?_
                replace K5 := Lib.hid (Blk.setRow_other K5.out g15 (msgV (beatL ((s : Int) + 1))) (by omega))
                replace KT := Lib.hid (Blk.setRow_other KT.out g15 (msgV (beatL ((s : Int) + 1))) (by omega))
                replace BB := Lib.hid (below_setRow (g := g15) BB.out (by omega) (msgV (beatL ((s : Int) + 1))))
                replace K9 := Lib.hid (K9.out.setRow (msgV (beatL ((s : Int) + 1))))
                generalize w12.setRow g15 (msgV (beatL ((s : Int) + 1))) = w13 at *
                have f1 : w13.cell? ⟨g15, 1, none⟩ = some (.int .i64 ((s : Int) + 1)) := by rw [K9.out.cell]; rfl
                go_wp2_with fail
                exact ⟨⟨i + 1, s + 1, T2, by omega, by omega, by simp, by simp, HS2.out, K5.out, KT.out, BB.out⟩, by simp [intOf]; omega⟩
            · have e0 : (kd % 8 == 0) = false := beq_eq_false_iff_ne.2 k0
              replace k0 := Lib.hid k0
              by_cases k1 : kd % 8 = 1
              · have e1 : (kd % 8 == 1) = true := by rw [beq_iff_eq]; exact k1
                replace k1 := Lib.hid k1
                have kt1 : TabB w5 g T := KT.out
                go_wp2_with fail
                ((with_reducible refine (ap_end g T src _ kt1 HS.out.tok h2.out).mono ?_))
                rintro e w6 ⟨⟨v, rfl⟩, ⟨T1, kp, kt⟩, o6⟩
                replace K5 := Lib.hid (o6.blk K5.out (Nat.ne_of_lt l6))
                replace BB := Lib.hid (BB.out.trans (o6.bel _ (Nat.le_of_lt l6) BB.out.size))
                replace KT := Lib.hid kt
                have HS1 := Lib.hid (HS.out.keeps kp)
                clear kt o6 kp c0 c1 c2 HS
                have BM := Lib.hid (built_beat2 ((s : Int) + 1))
                have hsq : 0 ≤ (s : Int) + 1 ∧ (s : Int) + 1 ≤ 4294967295 := by omega
                have HSQ := Lib.hid hsq
                have CP := Lib.hid (fun W => rput_any (beatL ((s : Int) + 1)) ⟨rfl, .inl rfl⟩ W)
                go_wp2_with ((with_reducible show wpList _ _ _ (⟨some 94, _, _, _, _, _⟩ :: _) _ _); refine wpList_build' rfl 66 _ rfl (msgV (beatL ((s : Int) + 1))) BM.out ?_)
                · exact ⟨⟨i + 1, s, T1, by omega, by omega, by simp, rfl, HS1.out, K5.out, KT.out, BB.out⟩, by simp [intOf]; omega⟩
                · ((with_reducible refine (CP.out _).mono ?_))
                  rintro e w7 hp
                  unfold RPutP at hp
                  rw [beat_put _ HSQ.out] at hp
                  obtain ⟨⟨A6, c6, base6, rfl, hown⟩, b6⟩ := hp
                  rw [beat_len _ HSQ.out]
                  replace K5 := Lib.hid (K5.out.below b6)
                  replace KT := Lib.hid (Blk.below KT.out b6)
                  replace BB := Lib.hid (bt BB.out b6)
                  replace hown := Lib.hid hown.row
                  clear b6 CP BM
                  go_wp2_with ((with_reducible show wpList _ _ _ (⟨_, .load 22 _, _, _, _, _⟩ :: _) _ _); (with_reducible refine wpBlk_load (g := w.heap.size) agg_b32 ?_ ?_ K5 ?_ ?_); (· (first | exact wanted0 rfl | exact wantedY rfl rfl rfl | (simp [Region.wanted, yielded]; done))); (· exact ⟨rfl, rfl⟩); (· exact KS.out))
                  rw [hkv.out]
                  ((with_reducible refine (rclose_any key (beatB ((s : Int) + 1)) A6 5 c6 2 _ KL.out KB.out (beat_len _ HSQ.out) hown.out (by decide)).mono ?_))
                  rintro e w8 ⟨⟨A7, c7, rfl, own7⟩, b7⟩
                  rw [← hkv.out]
                  replace K5 := Lib.hid (K5.out.below b7)
                  replace KT := Lib.hid (Blk.below KT.out b7)
                  replace BB := Lib.hid (bt BB.out b7)
                  have h13 : Hid (13 ≤ c7 ∧ c7 ≤ 9223372036854775807) := Lib.hid (by have := own_cap8 own7; rw [List.length_append, beat_len _ HSQ.out, tagOf_len] at this; exact this)
                  have HR7 := Lib.hid own7.row
                  clear own7 b7 hown
                  have kt1 : TabB w8 g T1 := KT.out
                  go_wp2_with fail
                  ((with_reducible refine (ap_beat g s T1 key A7 c7 _ kt1 HS1.out (by omega) h13.out.1 h13.out.2 HR7.out (RT.out.below BB.out)).mono ?_))
                  rintro e w10 ⟨rfl, ⟨T2, HS2, kt⟩, o8⟩
                  replace K5 := Lib.hid (o8.blk K5.out (Nat.ne_of_lt l6))
                  replace BB := Lib.hid (BB.out.trans (o8.bel _ (Nat.le_of_lt l6) BB.out.size))
                  replace KT := Lib.hid kt
                  replace HS2 := Lib.hid HS2
                  clear kt o8 kt1 HR7 h13
                  go_wp2_with (((with_reducible show wpList _ _ _ (⟨_, .alloc 66, _, _, _, none⟩ :: _) _ _); (with_reducible refine wpRow_alloc zeroT_msgy ?_ ?_ ?_); (· exact wanted0 rfl); (· rfl); refine Marker.mk ?_))
                  refine Marker.in ?_
                  have lg9 := Blk.lt KT.out
                  have l59 := K5.out.lt
                  have K9 := Lib.hid (Blk.new w10 (msgV (z12 0)) 66)
                  have bel := below_alloc1 w10 (.cells (msgV (z12 0)) 66)
                  replace K5 := Lib.hid (K5.out.below bel)
                  replace KT := Lib.hid (Blk.below KT.out bel)
                  replace BB := Lib.hid (bt BB.out bel)
                  clear bel
                  generalize w10.alloc (.cells (msgV (z12 0)) 66) = w12 at *
                  generalize w10.heap.size = g15 at *
                  go_wp2_with (((with_reducible show wpList _ _ _ (⟨_, .store 66 _ _, _, _, _, none⟩ :: _) _ _); (with_reducible refine wpBlk_store (g := g15) (cs := msgV (beatL ((s : Int) + 1))) agg_msg ?_ ?_ K9 ?_ ?_ ?_ ?_); (· exact wanted0 rfl); (· exact ⟨rfl, rfl, rfl⟩); (· exact msgV_size _); (· exact msgV_size _); (· exact msgV_one _); refine Marker.mk ?_))
                  refine Marker.in ?_
                  replace K5 := Lib.hid (Blk.setRow_other K5.out g15 (msgV (beatL ((s : Int) + 1))) (by omega))
                  replace KT := Lib.hid (Blk.setRow_other KT.out g15 (msgV (beatL ((s : Int) + 1))) (by omega))
                  replace BB := Lib.hid (below_setRow (g := g15) BB.out (by omega) (msgV (beatL ((s : Int) + 1))))
                  replace K9 := Lib.hid (K9.out.setRow (msgV (beatL ((s : Int) + 1))))
                  generalize w12.setRow g15 (msgV (beatL ((s : Int) + 1))) = w13 at *
                  have f1 : w13.cell? ⟨g15, 1, none⟩ = some (.int .i64 ((s : Int) + 1)) := by rw [K9.out.cell]; rfl
                  go_wp2_with fail
                  exact ⟨⟨i + 1, s + 1, T2, by omega, by omega, by simp, by simp, HS2.out, K5.out, KT.out, BB.out⟩, by simp [intOf]; omega⟩
              · have e1 : (kd % 8 == 1) = false := beq_eq_false_iff_ne.2 k1
                replace k1 := Lib.hid k1
                by_cases k2 : kd % 8 = 2
                · have e2 : (kd % 8 == 2) = true := by rw [beq_iff_eq]; exact k2
                  replace k2 := Lib.hid k2
                  have kt1 : TabB w5 g T := KT.out
                  go_wp2_with fail
                  ((with_reducible refine (ap_sample g T _ kt1 HS.out.tok).mono ?_))
                  rintro e w6 ⟨⟨v, rfl⟩, ⟨T1, kp, kt⟩, o6⟩
                  replace K5 := Lib.hid (o6.blk K5.out (Nat.ne_of_lt l6))
                  replace BB := Lib.hid (BB.out.trans (o6.bel _ (Nat.le_of_lt l6) BB.out.size))
                  replace KT := Lib.hid kt
                  have HS1 := Lib.hid (HS.out.keeps kp)
                  clear kt o6 kp c0 c1 c2 HS
                  have BM := Lib.hid (built_beat2 ((s : Int) + 1))
                  have hsq : 0 ≤ (s : Int) + 1 ∧ (s : Int) + 1 ≤ 4294967295 := by omega
                  have HSQ := Lib.hid hsq
                  have CP := Lib.hid (fun W => rput_any (beatL ((s : Int) + 1)) ⟨rfl, .inl rfl⟩ W)
                  go_wp2_with ((with_reducible show wpList _ _ _ (⟨some 94, _, _, _, _, _⟩ :: _) _ _); refine wpList_build' rfl 66 _ rfl (msgV (beatL ((s : Int) + 1))) BM.out ?_)
                  · exact ⟨⟨i + 1, s, T1, by omega, by omega, by simp, rfl, HS1.out, K5.out, KT.out, BB.out⟩, by simp [intOf]; omega⟩
                  · ((with_reducible refine (CP.out _).mono ?_))
                    rintro e w7 hp
                    unfold RPutP at hp
                    rw [beat_put _ HSQ.out] at hp
                    obtain ⟨⟨A6, c6, base6, rfl, hown⟩, b6⟩ := hp
                    rw [beat_len _ HSQ.out]
                    replace K5 := Lib.hid (K5.out.below b6)
                    replace KT := Lib.hid (Blk.below KT.out b6)
                    replace BB := Lib.hid (bt BB.out b6)
                    replace hown := Lib.hid hown.row
                    clear b6 CP BM
                    go_wp2_with ((with_reducible show wpList _ _ _ (⟨_, .load 22 _, _, _, _, _⟩ :: _) _ _); (with_reducible refine wpBlk_load (g := w.heap.size) agg_b32 ?_ ?_ K5 ?_ ?_); (· (first | exact wanted0 rfl | exact wantedY rfl rfl rfl | (simp [Region.wanted, yielded]; done))); (· exact ⟨rfl, rfl⟩); (· exact KS.out))
                    rw [hkv.out]
                    ((with_reducible refine (rclose_any key (beatB ((s : Int) + 1)) A6 5 c6 2 _ KL.out KB.out (beat_len _ HSQ.out) hown.out (by decide)).mono ?_))
                    rintro e w8 ⟨⟨A7, c7, rfl, own7⟩, b7⟩
                    rw [← hkv.out]
                    replace K5 := Lib.hid (K5.out.below b7)
                    replace KT := Lib.hid (Blk.below KT.out b7)
                    replace BB := Lib.hid (bt BB.out b7)
                    have h13 : Hid (13 ≤ c7 ∧ c7 ≤ 9223372036854775807) := Lib.hid (by have := own_cap8 own7; rw [List.length_append, beat_len _ HSQ.out, tagOf_len] at this; exact this)
                    have HR7 := Lib.hid own7.row
                    clear own7 b7 hown
                    have kt1 : TabB w8 g T1 := KT.out
                    go_wp2_with fail
                    ((with_reducible refine (ap_beat g s T1 key A7 c7 _ kt1 HS1.out (by omega) h13.out.1 h13.out.2 HR7.out (RT.out.below BB.out)).mono ?_))
                    rintro e w10 ⟨rfl, ⟨T2, HS2, kt⟩, o8⟩
                    replace K5 := Lib.hid (o8.blk K5.out (Nat.ne_of_lt l6))
                    replace BB := Lib.hid (BB.out.trans (o8.bel _ (Nat.le_of_lt l6) BB.out.size))
                    replace KT := Lib.hid kt
                    replace HS2 := Lib.hid HS2
                    clear kt o8 kt1 HR7 h13
                    go_wp2_with (((with_reducible show wpList _ _ _ (⟨_, .alloc 66, _, _, _, none⟩ :: _) _ _); (with_reducible refine wpRow_alloc zeroT_msgy ?_ ?_ ?_); (· exact wanted0 rfl); (· rfl); refine Marker.mk ?_))
                    refine Marker.in ?_
                    have lg9 := Blk.lt KT.out
                    have l59 := K5.out.lt
                    have K9 := Lib.hid (Blk.new w10 (msgV (z12 0)) 66)
                    have bel := below_alloc1 w10 (.cells (msgV (z12 0)) 66)
                    replace K5 := Lib.hid (K5.out.below bel)
                    replace KT := Lib.hid (Blk.below KT.out bel)
                    replace BB := Lib.hid (bt BB.out bel)
                    clear bel
                    generalize w10.alloc (.cells (msgV (z12 0)) 66) = w12 at *
                    generalize w10.heap.size = g15 at *
                    go_wp2_with (((with_reducible show wpList _ _ _ (⟨_, .store 66 _ _, _, _, _, none⟩ :: _) _ _); (with_reducible refine wpBlk_store (g := g15) (cs := msgV (beatL ((s : Int) + 1))) agg_msg ?_ ?_ K9 ?_ ?_ ?_ ?_); (· exact wanted0 rfl); (· exact ⟨rfl, rfl, rfl⟩); (· exact msgV_size _); (· exact msgV_size _); (· exact msgV_one _); refine Marker.mk ?_))
                    refine Marker.in ?_
                    replace K5 := Lib.hid (Blk.setRow_other K5.out g15 (msgV (beatL ((s : Int) + 1))) (by omega))
                    replace KT := Lib.hid (Blk.setRow_other KT.out g15 (msgV (beatL ((s : Int) + 1))) (by omega))
                    replace BB := Lib.hid (below_setRow (g := g15) BB.out (by omega) (msgV (beatL ((s : Int) + 1))))
                    replace K9 := Lib.hid (K9.out.setRow (msgV (beatL ((s : Int) + 1))))
                    generalize w12.setRow g15 (msgV (beatL ((s : Int) + 1))) = w13 at *
                    have f1 : w13.cell? ⟨g15, 1, none⟩ = some (.int .i64 ((s : Int) + 1)) := by rw [K9.out.cell]; rfl
                    go_wp2_with fail
                    exact ⟨⟨i + 1, s + 1, T2, by omega, by omega, by simp, by simp, HS2.out, K5.out, KT.out, BB.out⟩, by simp [intOf]; omega⟩
                · have e2 : (kd % 8 == 2) = false := beq_eq_false_iff_ne.2 k2
                  replace k2 := Lib.hid k2
                  go_wp2_with fail
                  refine wp_region_confR' belR_kept (by kernel_rfl) 5 (by kernel_rfl) (by simp) (by decide) (RBy g g11 src cs) (RBy_keep _ _ _ _) ?_ ?_
                  · simp only [ConfStepsR, List.take_succ_cons, List.take_zero, putAll, Act.put, List.setIfInBounds_toArray, List.set_cons_succ, List.set_cons_zero, and_true]
                    refine ⟨?_, ?_, ?_, ?_, ?_⟩
                    all_goals intro v w' hb hd
                    · exact conf_valueR belR_kept (wanted0 rfl) (by simp [go_sem]) rfl
                    · exact conf_valueR belR_kept (wanted0 rfl) (by simp [go_sem]) rfl
                    · have d1 : v 1 = .pointer (some ⟨g11, 1, none⟩) := hd.at 1 rfl
                      have hc : w'.cell? ⟨g11, 1, none⟩ = some (.int .i64 src) := by rw [(K11.out.below hb).cell, q1]
                      exact conf_valueR belR_kept (wanted0 rfl) (by simp [go_sem, d1, hc]) rfl
                    · exact conf_loadR belR_kept (g := g11) agg_op (wanted0 rfl) ⟨rfl, by simp [go_sem]⟩ (K11.out.below hb) OS.out rfl
                    · have d3 : v 3 = .agg cs := hd.at 3 rfl
                      refine conf_callR (f := 33) (args := #[v 3]) (wanted0 rfl) (by simp [go_sem]) ?_
                      rw [d3]
                      exact (OB.out w' (HOW.out w' (BR.out.trans (hb.mono (Nat.le_of_lt K11.out.lt))))).mono fun e w'' ⟨⟨A, n, c, xs, he, h1, h2, h3, h4, hr⟩, hb'⟩ => ⟨_, he, hb', A, n, c, xs, rfl, h1, h2, h3, h4, hr⟩
                  · intro v w6' hb hr
                    have d0 : v 0 = .pointer (some ⟨g, 0, none⟩) := hr 0 (by omega)
                    have d2' : v 2 = .int .i64 src := hr 2 (by omega)
                    obtain ⟨A7, n7, c7, ys, d4, hy1, hy2, hy3, hy4, hy5⟩ : ∃ (A : Option Addr) (n c : Nat) (xs : List Int), v 4 = .slice A n c ∧ xs.length = n ∧ n ≤ 1000 ∧ n ≤ c ∧ c ≤ 9223372036854775807 ∧ Row w6' A xs := hr 4 (by omega)
                    simp only [List.take_succ_cons, List.take_zero, List.drop_succ_cons, List.drop_zero, putAll, Act.put, List.setIfInBounds_toArray, List.set_cons_succ, List.set_cons_zero]
                    rw [d0, d2', d4]
                    replace K5 := Lib.hid (K5.out.below hb)
                    replace KT := Lib.hid (Blk.below KT.out hb)
                    replace BB := Lib.hid (bt BB.out hb)
                    replace hy5 := Lib.hid hy5
                    replace hy1 := Lib.hid hy1
                    clear hr hb d0 d2' d4
                    have kt1 : TabB w6' g T := KT.out
                    go_wp2_with fail
                    ((with_reducible refine (ap_take g T src ys A7 n7 c7 _ kt1 HS.out.tok h2.out hy1.out hy3 hy4 hy2 hy5.out (RT.out.below BB.out)).mono ?_))
                    rintro e w6 ⟨⟨v, rfl⟩, ⟨T1, kp, kt⟩, o6⟩
                    replace K5 := Lib.hid (o6.blk K5.out (Nat.ne_of_lt l6))
                    replace BB := Lib.hid (BB.out.trans (o6.bel _ (Nat.le_of_lt l6) BB.out.size))
                    replace KT := Lib.hid kt
                    have HS1 := Lib.hid (HS.out.keeps kp)
                    clear kt o6 kp c0 c1 c2 HS
                    have BM := Lib.hid (built_beat2 ((s : Int) + 1))
                    have hsq : 0 ≤ (s : Int) + 1 ∧ (s : Int) + 1 ≤ 4294967295 := by omega
                    have HSQ := Lib.hid hsq
                    have CP := Lib.hid (fun W => rput_any (beatL ((s : Int) + 1)) ⟨rfl, .inl rfl⟩ W)
                    go_wp2_with ((with_reducible show wpList _ _ _ (⟨some 94, _, _, _, _, _⟩ :: _) _ _); refine wpList_build' rfl 66 _ rfl (msgV (beatL ((s : Int) + 1))) BM.out ?_)
                    · exact ⟨⟨i + 1, s, T1, by omega, by omega, by simp, rfl, HS1.out, K5.out, KT.out, BB.out⟩, by simp [intOf]; omega⟩
                    · ((with_reducible refine (CP.out _).mono ?_))
                      rintro e w7 hp
                      unfold RPutP at hp
                      rw [beat_put _ HSQ.out] at hp
                      obtain ⟨⟨A6, c6, base6, rfl, hown⟩, b6⟩ := hp
                      rw [beat_len _ HSQ.out]
                      replace K5 := Lib.hid (K5.out.below b6)
                      replace KT := Lib.hid (Blk.below KT.out b6)
                      replace BB := Lib.hid (bt BB.out b6)
                      replace hown := Lib.hid hown.row
                      clear b6 CP BM
                      go_wp2_with ((with_reducible show wpList _ _ _ (⟨_, .load 22 _, _, _, _, _⟩ :: _) _ _); (with_reducible refine wpBlk_load (g := w.heap.size) agg_b32 ?_ ?_ K5 ?_ ?_); (· (first | exact wanted0 rfl | exact wantedY rfl rfl rfl | (simp [Region.wanted, yielded]; done))); (· exact ⟨rfl, rfl⟩); (· exact KS.out))
                      rw [hkv.out]
                      ((with_reducible refine (rclose_any key (beatB ((s : Int) + 1)) A6 5 c6 2 _ KL.out KB.out (beat_len _ HSQ.out) hown.out (by decide)).mono ?_))
                      rintro e w8 ⟨⟨A7, c7, rfl, own7⟩, b7⟩
                      rw [← hkv.out]
                      replace K5 := Lib.hid (K5.out.below b7)
                      replace KT := Lib.hid (Blk.below KT.out b7)
                      replace BB := Lib.hid (bt BB.out b7)
                      have h13 : Hid (13 ≤ c7 ∧ c7 ≤ 9223372036854775807) := Lib.hid (by have := own_cap8 own7; rw [List.length_append, beat_len _ HSQ.out, tagOf_len] at this; exact this)
                      have HR7 := Lib.hid own7.row
                      clear own7 b7 hown
                      have kt1 : TabB w8 g T1 := KT.out
                      go_wp2_with fail
                      ((with_reducible refine (ap_beat g s T1 key A7 c7 _ kt1 HS1.out (by omega) h13.out.1 h13.out.2 HR7.out (RT.out.below BB.out)).mono ?_))
                      rintro e w10 ⟨rfl, ⟨T2, HS2, kt⟩, o8⟩
                      replace K5 := Lib.hid (o8.blk K5.out (Nat.ne_of_lt l6))
                      replace BB := Lib.hid (BB.out.trans (o8.bel _ (Nat.le_of_lt l6) BB.out.size))
                      replace KT := Lib.hid kt
                      replace HS2 := Lib.hid HS2
                      clear kt o8 kt1 HR7 h13
                      go_wp2_with (((with_reducible show wpList _ _ _ (⟨_, .alloc 66, _, _, _, none⟩ :: _) _ _); (with_reducible refine wpRow_alloc zeroT_msgy ?_ ?_ ?_); (· exact wanted0 rfl); (· rfl); refine Marker.mk ?_))
                      refine Marker.in ?_
                      have lg9 := Blk.lt KT.out
                      have l59 := K5.out.lt
                      have K9 := Lib.hid (Blk.new w10 (msgV (z12 0)) 66)
                      have bel := below_alloc1 w10 (.cells (msgV (z12 0)) 66)
                      replace K5 := Lib.hid (K5.out.below bel)
                      replace KT := Lib.hid (Blk.below KT.out bel)
                      replace BB := Lib.hid (bt BB.out bel)
                      clear bel
                      generalize w10.alloc (.cells (msgV (z12 0)) 66) = w12 at *
                      generalize w10.heap.size = g15 at *
                      go_wp2_with (((with_reducible show wpList _ _ _ (⟨_, .store 66 _ _, _, _, _, none⟩ :: _) _ _); (with_reducible refine wpBlk_store (g := g15) (cs := msgV (beatL ((s : Int) + 1))) agg_msg ?_ ?_ K9 ?_ ?_ ?_ ?_); (· exact wanted0 rfl); (· exact ⟨rfl, rfl, rfl⟩); (· exact msgV_size _); (· exact msgV_size _); (· exact msgV_one _); refine Marker.mk ?_))
                      refine Marker.in ?_
                      replace K5 := Lib.hid (Blk.setRow_other K5.out g15 (msgV (beatL ((s : Int) + 1))) (by omega))
                      replace KT := Lib.hid (Blk.setRow_other KT.out g15 (msgV (beatL ((s : Int) + 1))) (by omega))
                      replace BB := Lib.hid (below_setRow (g := g15) BB.out (by omega) (msgV (beatL ((s : Int) + 1))))
                      replace K9 := Lib.hid (K9.out.setRow (msgV (beatL ((s : Int) + 1))))
                      generalize w12.setRow g15 (msgV (beatL ((s : Int) + 1))) = w13 at *
                      have f1 : w13.cell? ⟨g15, 1, none⟩ = some (.int .i64 ((s : Int) + 1)) := by rw [K9.out.cell]; rfl
                      go_wp2_with fail
                      exact ⟨⟨i + 1, s + 1, T2, by omega, by omega, by simp, by simp, HS2.out, K5.out, KT.out, BB.out⟩, by simp [intOf]; omega⟩
      ·
        have t1 : decide ((i : Int) < (m : Int)) = true := decide_eq_true (by omega)
        have t2 : decide ((i : Int) < 40) = false := decide_eq_false (by omega)
        have kt1 : TabB wr g T := KT.out
        go_wp2_with fail
        ((with_reducible refine (tabf_on g T 2 _ kt1 HS.out.tok).mono ?_))
        rintro e w15 ⟨rfl, rfl⟩
        rw [HS.out.on2]
        go_wp2_with fail
        ((with_reducible refine (tabf_role g T 2 _ kt1 HS.out.tok).mono ?_))
        rintro e w15 ⟨rfl, rfl⟩
        rw [HS.out.role2]
        go_wp2_with fail
        go_ret
        exact ⟨rfl, BB.out⟩
    ·
      have t1 : decide ((i : Int) < (m : Int)) = false := decide_eq_false (by omega)
      have kt1 : TabB wr g T := KT.out
      go_wp2_with fail
      ((with_reducible refine (tabf_on g T 2 _ kt1 HS.out.tok).mono ?_))
      rintro e w15 ⟨rfl, rfl⟩
      rw [HS.out.on2]
      go_wp2_with fail
      ((with_reducible refine (tabf_role g T 2 _ kt1 HS.out.tok).mono ?_))
      rintro e w15 ⟨rfl, rfl⟩
      rw [HS.out.role2]
      go_wp2_with fail
      go_ret
      exact ⟨rfl, BB.out⟩
end Go.Proofs.YtapednkmefbldaaDoor
