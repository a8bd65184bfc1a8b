/- Several texts in one. -/
import Derived.Test.YtapednkmefbldaaDoorJtd
import Derived.Test.YtapednkmefbldaaDoorJrp
import Derived.Test.YtapednkmefbldaaDoorJr9
import Derived.Test.YtapednkmefbldaaDoorBe
import Derived.Test.YtapednkmefbldaaDoorConv
import Derived.Test.YtapednkmefbldaaDoorOwnB
import Derived.Deep.Slices

/- The table, in plain Lean: a beat that is sealed is taken. -/
namespace Go.Proofs.YtapednkmefbldaaDoor
open Go.RowKit

def beatL (q : Int) : List Int := [3, q, 0, 0, 0, 0, 0, 0, 0, 0, 0, 0]
def beatB (q : Int) : List Int := [3] ++ be q 4
theorem beat_put (q : Int) (h : 0 ≤ q ∧ q ≤ 4294967295) : put8 (beatL q) = some (beatB q) := put8_lit3 q h
theorem beat_take (q : Int) (h : 0 ≤ q ∧ q ≤ 4294967295) : take8 (beatB q) = some (beatL q) := take8_put rfl (beat_put q h)
theorem beat_len (q : Int) (h : 0 ≤ q ∧ q ≤ 4294967295) : (beatB q).length = 5 := put8_len (beat_put q h)
theorem seal_is (key b : List Int) (s : Int) : isSealed key s (b ++ tagOf key s b) := by
  have hl := tagOf_len key s b
  unfold isSealed
  rw [List.length_append, hl, Nat.add_sub_cancel, List.take_left]
  exact ⟨by omega, rfl⟩
theorem take_sealed {T : Tab} {i : Nat} {b : List Int} (hi : i < 3) (hon : (T.ses i).on = true) : T.take ((i : Int) + 1) (b ++ tagOf (T.ses i).key ((i : Int) + 1) b) = takeM T i b := by
  have e2 : ((i : Int) + 1 - 1).toNat = i := by omega
  have hl := tagOf_len (T.ses i).key ((i : Int) + 1) b
  unfold Tab.take
  rw [e2, if_pos ⟨by omega, hon⟩, if_pos (seal_is _ _ _), List.length_append, hl, Nat.add_sub_cancel, List.take_left]
theorem takeM_msg {T : Tab} {i : Nat} {b l : List Int} (h : take8 b = some l) (hk : l.getD 0 0 ≠ 1 ∧ l.getD 0 0 ≠ 2) (hs : (wsee (T.ses i).win (l.getD 1 0).toNat).2 = true) :
    takeM T i b = ⟨T.put i ⟨true, 0, max T.beat 0, (T.ses i).r, (T.ses i).key, (wsee (T.ses i).win (l.getD 1 0).toNat).1⟩, l, 0⟩ := by
  unfold takeM
  rw [h]
  simp only
  rw [if_neg (by omega), if_pos hs]
theorem takeM_old {T : Tab} {i : Nat} {b l : List Int} (h : take8 b = some l) (hk : l.getD 0 0 ≠ 1 ∧ l.getD 0 0 ≠ 2) (hs : (wsee (T.ses i).win (l.getD 1 0).toNat).2 = false) :
    takeM T i b = ⟨T, z12 0, 15⟩ := by
  unfold takeM
  rw [h]
  simp only
  rw [if_neg (by omega), if_neg (by rw [hs]; exact Bool.false_ne_true)]
theorem Tab.many_put0 (T : Tab) (s : Ses) : (T.put 0 s).many = T.many - (if T.s0.on then 1 else 0) + (if s.on then 1 else 0) := by simp only [Tab.many, Tab.put]; omega
theorem Tab.many_put1 (T : Tab) (s : Ses) : (T.put 1 s).many = T.many - (if T.s1.on then 1 else 0) + (if s.on then 1 else 0) := by simp only [Tab.many, Tab.put]; omega
theorem Tab.many_put2 (T : Tab) (s : Ses) : (T.put 2 s).many = T.many - (if T.s2.on then 1 else 0) + (if s.on then 1 else 0) := by simp only [Tab.many, Tab.put]; omega
theorem Tab.many_in (T : Tab) : 0 ≤ T.many ∧ T.many ≤ 3 := by
  unfold Tab.many
  constructor <;> (split <;> split <;> split <;> omega)
theorem blk_ne {w : World} {a b : Nat} {x y : Array Value} {S R : TypeId} (h : Blk w a x S) (k : Blk w b y R) (hne : S ≠ R) : a ≠ b := by
  rintro rfl
  have e : some (Obj.cells x S (0, 0)) = some (Obj.cells y R (0, 0)) := h.symm.trans k
  injection e with e
  injection e with e1 e2
  exact hne e2
theorem st_ok (g k : Nat) (T : Tab) (src role : Int) (key : List Int) (w : World) (K : TabB w g T) (h : T.ok) (hk : key.length = 32) (hk3 : k < 3) (hs : src = (k : Int) + 1) (hr : 0 ≤ role ∧ role ≤ 3) (hc : (T.ses k).on = true ∨ T.many < T.most) :
    Calls Tryd.prog 27 #[.pointer (some ⟨g, 0, none⟩), .int .i64 src, .int .i64 role, .agg (u8V key)] w fun e w' => e = .returned (.int .i64 0) ∧ TabB w' g (T.put k (sesB true (max T.beat 0) role key)) ∧ Only g w w' := by
  refine (tabf_start g T src role key w K h hk).mono ?_
  have e2 : (src - 1).toNat = k := by omega
  rintro e w' ⟨h, ho⟩
  rw [e2, if_pos ⟨by omega, hr⟩, if_neg (by rintro ⟨h1, h2⟩; rcases hc with hc | hc; · rw [hc] at h1; cases h1
                                            · omega)] at h
  exact ⟨h.1, h.2, ho⟩
theorem st_full (g k : Nat) (T : Tab) (src role : Int) (key : List Int) (w : World) (K : TabB w g T) (h : T.ok) (hk : key.length = 32) (hk3 : k < 3) (hs : src = (k : Int) + 1) (hr : 0 ≤ role ∧ role ≤ 3) (hc : (T.ses k).on = false) (hm : T.most ≤ T.many) :
    Calls Tryd.prog 27 #[.pointer (some ⟨g, 0, none⟩), .int .i64 src, .int .i64 role, .agg (u8V key)] w fun e w' => e = .returned (.int .i64 19) ∧ TabB w' g T ∧ Only g w w' := by
  refine (tabf_start g T src role key w K h hk).mono ?_
  have e2 : (src - 1).toNat = k := by omega
  rintro e w' ⟨h, ho⟩
  rw [e2, if_pos ⟨by omega, hr⟩, if_pos ⟨hc, hm⟩] at h
  exact ⟨h.1, h.2, ho⟩
theorem st_bad (g : Nat) (T : Tab) (src role : Int) (key : List Int) (w : World) (K : TabB w g T) (h : T.ok) (hk : key.length = 32) (hb : ¬ ((src = 1 ∨ src = 2 ∨ src = 3) ∧ 0 ≤ role ∧ role ≤ 3)) :
    Calls Tryd.prog 27 #[.pointer (some ⟨g, 0, none⟩), .int .i64 src, .int .i64 role, .agg (u8V key)] w fun e w' => e = .returned (.int .i64 1) ∧ TabB w' g T ∧ Only g w w' := by
  refine (tabf_start g T src role key w K h hk).mono ?_
  rintro e w' ⟨h, ho⟩
  rw [if_neg hb] at h
  exact ⟨h.1, h.2, ho⟩
theorem en_on (g k : Nat) (T : Tab) (src : Int) (w : World) (K : TabB w g T) (h : T.ok) (hk3 : k < 3) (hs : src = (k : Int) + 1) (hc : (T.ses k).on = true) :
    Calls Tryd.prog 26 #[.pointer (some ⟨g, 0, none⟩), .int .i64 src] w fun e w' => e = .returned (.bool true) ∧ TabB w' g (T.put k ses0) ∧ Only g w w' := by
  refine (tabf_end g T src w K h).mono ?_
  have e2 : (src - 1).toNat = k := by omega
  rintro e w' ⟨h, ho⟩
  rw [e2, if_pos (by omega), if_pos hc] at h
  exact ⟨h.1, h.2, ho⟩
theorem en_off (g k : Nat) (T : Tab) (src : Int) (w : World) (K : TabB w g T) (h : T.ok) (hk3 : k < 3) (hs : src = (k : Int) + 1) (hc : (T.ses k).on = false) :
    Calls Tryd.prog 26 #[.pointer (some ⟨g, 0, none⟩), .int .i64 src] w fun e w' => e = .returned (.bool false) ∧ TabB w' g T ∧ Only g w w' := by
  refine (tabf_end g T src w K h).mono ?_
  have e2 : (src - 1).toNat = k := by omega
  rintro e w' ⟨h, ho⟩
  rw [e2, if_pos (by omega), if_neg (by rw [hc]; exact Bool.false_ne_true)] at h
  exact ⟨h.1, h.2, ho⟩
theorem en_bad (g : Nat) (T : Tab) (src : Int) (w : World) (K : TabB w g T) (h : T.ok) (hb : ¬ (src = 1 ∨ src = 2 ∨ src = 3)) :
    Calls Tryd.prog 26 #[.pointer (some ⟨g, 0, none⟩), .int .i64 src] w fun e w' => e = .returned (.bool false) ∧ TabB w' g T ∧ Only g w w' := by
  refine (tabf_end g T src w K h).mono ?_
  rintro e w' ⟨h, ho⟩
  rw [if_neg hb] at h
  exact ⟨h.1, h.2, ho⟩
/-- one who just began is taken -/
theorem take_first (g k : Nat) (T : Tab) (src role mb q : Int) (key : List Int) (B : Option Addr) (c : Nat) (w : World) (K : TabB w g (T.put k (sesB true mb role key))) (h : T.ok) (hk : key.length = 32) (hkb : ∀ x ∈ key, 0 ≤ x ∧ x ≤ 255) (hk3 : k < 3) (hs : src = (k : Int) + 1) (hq : 0 ≤ q ∧ q ≤ 4294967295)
    (hc : 13 ≤ c) (hc2 : c ≤ 9223372036854775807) (hr : Row w B (beatB q ++ tagOf key src (beatB q))) (hR : Roots w) :
    Calls Tryd.prog 28 #[.pointer (some ⟨g, 0, none⟩), .int .i64 src, .slice B 13 c] w fun e w' => e = .returned (.tuple #[.agg (msgV (beatL q)), .int .i64 0]) ∧ TabB w' g (T.put k ⟨true, 0, max T.beat 0, role, key, some (q.toNat, 1)⟩) ∧ Only g w w' := by
  have ht := take_sealed (T := T.put k (sesB true mb role key)) (i := k) (b := beatB q) hk3 (by rw [Tab.ses_put]; rfl)
  rw [Tab.ses_put, ← hs, show (sesB true mb role key).key = key from rfl, takeM_msg (beat_take q hq) ⟨(by show (3 : Int) ≠ 1; decide), (by show (3 : Int) ≠ 2; decide)⟩ (by rw [Tab.ses_put]; rfl), Tab.ses_put, Tab.put_put, (Tab.put_beat T k _).1] at ht
  refine (tabf_take g _ src _ B 13 c w K (h.put k (sesB_ok true mb role key hk hkb)) (by rw [List.length_append, beat_len q hq, tagOf_len]) hc hc2 (by omega) hr hR).mono ?_
  rw [ht]
  rintro e w' ⟨he, hk, ho⟩
  exact ⟨he, hk, ho⟩
end Go.Proofs.YtapednkmefbldaaDoor

/- The reference of chapter 9: Open. -/
namespace Go.Proofs.YtapednkmefbldaaDoor
open Go.RowKit

set_option maxRecDepth 100000 in
set_option maxHeartbeats 800000 in
theorem ropen_short (key : List Int) (A : Option Addr) (n c : Nat) (s : Int) (w : World) (hn : n < 8) :
    Calls Tryd.prog 35 #[.agg (u8V key), .int .i64 s, .slice A n c] w fun e w' => e = .returned (.tuple #[.slice none 0 0, .int .i64 14]) ∧ Below w.heap.size w w' := by
  have t1 : decide ((n : Int) - 8 < 0) = true := decide_eq_true (by omega)
  go_enter Tryd.func35, Tryd.ntmps35
  go_wp2_with fail
  have BB := Lib.hid (below_alloc1 w (.cells (u8V key) 22))
  generalize w.alloc (.cells (u8V key) 22) = w1 at *
  go_quiet (fail)
  go_wp2_with fail
  go_ret2
  exact ⟨rfl, below_drewN BB.out _⟩
def RROp (key : List Int) (s : Int) (tg : List Int) (same : Bool) (A : Option Addr) (m c : Nat) (bd : List Int) (s1 s2 : ByteArray) (i : Nat) (v : Value) (w : World) : Prop := match i with
  | 0 => v = .int .i64 (m : Int)
  | 1 => v = .bool false
  | 2 => v = .bool false
  | 3 => v = .agg (u8V key)
  | 4 => v = .int .i64 s
  | 5 => v = .slice A (m + 8) c
  | 6 => v = .int .i64 (m : Int)
  | 7 => v = .slice A m c
  | 8 => ∃ A' d', v = .slice A' (m + 8) d' ∧ Row w A' (bd ++ tg)
  | 9 => v = .string s1
  | 10 => v = .slice A (m + 8) c
  | 11 => v = .string s2
  | 12 => v = .bool (!same)
  | _ => v = .bool (!same)
theorem RROp_keep (key : List Int) (s : Int) (tg : List Int) (same : Bool) (A : Option Addr) (m c : Nat) (bd : List Int) (s1 s2 : ByteArray) : ∀ i v w w', i < 14 → RROp key s tg same A m c bd s1 s2 i v w → BelR w w' → RROp key s tg same A m c bd s1 s2 i v w' := by
  intro i v w w' hi h hb
  unfold RROp at *
  split at h
  case h_9 => obtain ⟨g, d, e, k⟩ := h; exact ⟨g, d, e, k.below hb⟩
  all_goals exact h
set_option maxRecDepth 100000 in
set_option maxHeartbeats 800000 in
theorem ropen_bad (key xs : List Int) (A : Option Addr) (m c : Nat) (s : Int) (w : World) (hl : key.length = 32) (hkb : ∀ x ∈ key, 0 ≤ x ∧ x ≤ 255) (hm : xs.length = m + 8) (hr : Row w A xs) (hm2 : m ≤ 100000) (hc : m + 8 ≤ c) (hx : xs ≠ xs.take m ++ tagOf key s (xs.take m)) :
    Calls Tryd.prog 35 #[.agg (u8V key), .int .i64 s, .slice A (m + 8) c] w fun e w' => e = .returned (.tuple #[.slice none 0 0, .int .i64 14]) ∧ Below w.heap.size w w' := by
  have HL := Lib.hid hl
  have HKB := Lib.hid hkb
  have HM := Lib.hid hm
  have HR := Lib.hid hr
  have BL : (xs.take m).length = m := by rw [List.length_take]; omega
  have RB := fun (W : World) (hb : Below w.heap.size w W) => row_take (hr.below hb) m
  have TL := tagOf_len key s (xs.take m)
  have CC := fun (W : World) (hb : Below w.heap.size w W) => rclose_any key (xs.take m) A m c s W hl hkb BL (RB W hb) hm2
  have TB := tagOf_bytes key s (xs.take m)
  have SM : decide (xs.take m ++ tagOf key s (xs.take m) = xs) = false := decide_eq_false (fun h => hx h.symm)
  have hst : ((strOfNums (xs.take m ++ tagOf key s (xs.take m))).toList == (strOfNums xs).toList) = false := by
    rw [str_beq (fun x hx => (List.mem_append.1 hx).elim (fun h => hr.2 x (List.mem_of_mem_take h)) (fun h => TB x h)) hr.2]
    exact SM
  generalize tagOf key s (xs.take m) = tg at *
  generalize xs.take m = bd at *
  have CL2 : (bd ++ tg).length = m + 8 := by rw [List.length_append, BL, TL]
  have CV1 := fun (W : World) (A' : Option Addr) (d' : Nat) (k : Row W A' (bd ++ tg)) => conv_row (W := W) (a := A') (xs := bd ++ tg) (m + 8) d' CL2 k
  have CV2 := fun (W : World) (hb : Below w.heap.size w W) => conv_row (W := W) (a := A) (xs := xs) (m + 8) c hm (hr.below hb)
  generalize strOfNums (bd ++ tg) = s1 at *
  generalize strOfNums xs = s2 at *
  replace CC := Lib.hid CC
  replace BL := Lib.hid BL
  replace TL := Lib.hid TL
  replace CL2 := Lib.hid CL2
  replace RB := Lib.hid RB
  replace SM := Lib.hid SM
  replace CV1 := Lib.hid CV1
  replace CV2 := Lib.hid CV2
  replace hst := Lib.hid hst
  clear hl hkb hm hr hx TB
  have i0 : IntKind.i64.wrap (m : Int) = m := IntWalk.i64_in _ (by omega)
  have t0 : decide ((m : Int) < 0) = false := decide_eq_false (by omega)
  go_enter Tryd.func35, Tryd.ntmps35
  go_wp2_with fail
  have K3 := Lib.hid (Blk.new w (u8V key) 22)
  have BB := Lib.hid (below_alloc1 w (.cells (u8V key) 22))
  generalize w.alloc (.cells (u8V key) 22) = w1 at *
  refine wp_region_confR' belR_kept (by kernel_rfl) 14 (by kernel_rfl) (by simp) (by decide) (RROp key s tg false A m c bd s1 s2) (RROp_keep _ _ _ _ _ _ _ _ _ _) ?_ ?_
  · simp only [ConfStepsR, List.take_succ_cons, List.take_zero, putAll, Act.put, List.setIfInBounds_toArray, List.set_cons_succ, List.set_cons_zero, and_true]
    refine ⟨?_, ?_, ?_, ?_, ?_, ?_, ?_, ?_, ?_, ?_, ?_, ?_, ?_, ?_⟩
    all_goals intro v w' hb hd
    · exact conf_valueR belR_kept (wanted0 rfl) (by simp [go_sem]) rfl
    · have d0 : v 0 = .int .i64 (m : Int) := hd.at 0 rfl
      exact conf_valueR belR_kept (wanted0 rfl) (by simp [go_sem, d0, t0]) rfl
    · have d1 : v 1 = .bool false := hd.at 1 rfl
      exact conf_valueR belR_kept (wanted0 rfl) (by simp [go_sem, d1]) rfl
    · have g2 : v 2 = .bool false := hd.at 2 rfl
      exact conf_loadR belR_kept (g := w.heap.size) agg_b32 (wantedY rfl rfl (congrArg some g2)) ⟨rfl, by simp [go_sem]⟩ (K3.out.below hb) (by rw [u8V_size, HL.out]) rfl
    · have g2 : v 2 = .bool false := hd.at 2 rfl
      exact conf_valueR belR_kept (wantedY rfl rfl (congrArg some g2)) (by simp [go_sem]) rfl
    · have g2 : v 2 = .bool false := hd.at 2 rfl
      exact conf_valueR belR_kept (wantedY rfl rfl (congrArg some g2)) (by simp [go_sem]) rfl
    · have g2 : v 2 = .bool false := hd.at 2 rfl
      exact conf_valueR belR_kept (wantedY rfl rfl (congrArg some g2)) (by simp [go_sem]) rfl
    · have g2 : v 2 = .bool false := hd.at 2 rfl
      have d5 : v 5 = .slice A (m + 8) c := hd.at 5 rfl
      have d6 : v 6 = .int .i64 (m : Int) := hd.at 6 rfl
      exact conf_valueR belR_kept (wantedY rfl rfl (congrArg some g2)) (run_op_front _ (.tmp 17) (.tmp 18) rfl A (m + 8) c m (by simp [go_sem, d5]) (by simp [go_sem, d6]) (by omega)) rfl
    · have g2 : v 2 = .bool false := hd.at 2 rfl
      have d3 : v 3 = .agg (u8V key) := hd.at 3 rfl
      have d4 : v 4 = .int .i64 s := hd.at 4 rfl
      have d7 : v 7 = .slice A m c := hd.at 7 rfl
      refine conf_callR (f := 29) (args := #[v 3, v 4, v 7]) (wantedY rfl rfl (congrArg some g2)) (by simp [go_sem]) ?_
      rw [d3, d4, d7]
      exact (CC.out w' (bt BB.out hb)).mono fun e w'' ⟨⟨A', d', he, o⟩, hb'⟩ => ⟨_, he, hb', A', d', rfl, o.row⟩
    · have g2 : v 2 = .bool false := hd.at 2 rfl
      obtain ⟨A', d', d8, r8⟩ : ∃ A' d', v 8 = .slice A' (m + 8) d' ∧ Row w' A' (bd ++ tg) := hd.at 8 rfl
      exact conf_valueR belR_kept (wantedY rfl rfl (congrArg some g2)) (by simp [go_sem, d8, CV1.out w' A' d' r8]) rfl
    · have g2 : v 2 = .bool false := hd.at 2 rfl
      exact conf_valueR belR_kept (wantedY rfl rfl (congrArg some g2)) (by simp [go_sem]) rfl
    · have g2 : v 2 = .bool false := hd.at 2 rfl
      have d10 : v 10 = .slice A (m + 8) c := hd.at 10 rfl
      exact conf_valueR belR_kept (wantedY rfl rfl (congrArg some g2)) (by simp [go_sem, d10, CV2.out w' (bt BB.out hb)]) rfl
    · have g2 : v 2 = .bool false := hd.at 2 rfl
      have d9 : v 9 = .string s1 := hd.at 9 rfl
      have d11 : v 11 = .string s2 := hd.at 11 rfl
      exact conf_valueR belR_kept (wantedY rfl rfl (congrArg some g2)) (by simp [go_sem, d9, d11, hst.out]) rfl
    · have d2 : v 2 = .bool false := hd.at 2 rfl
      have d12 : v 12 = .bool (!false) := hd.at 12 rfl
      exact conf_valueR belR_kept (wanted0 rfl) (by simp [go_sem, d2, d12]) rfl
  · intro v w' hb hr
    have d13 : v 13 = .bool (!false) := hr 13 (by omega)
    simp only [List.take_succ_cons, List.take_zero, List.drop_succ_cons, List.drop_zero, putAll, Act.put, List.setIfInBounds_toArray, List.set_cons_succ, List.set_cons_zero]
    rw [d13]
    replace BB := Lib.hid (bt BB.out hb)
    clear hr hb d13 K3 CC
    go_wp2_with fail
    go_ret2
    exact ⟨rfl, BB.out⟩
set_option maxRecDepth 100000 in
set_option maxHeartbeats 800000 in
theorem ropen_good (key xs : List Int) (A : Option Addr) (m c : Nat) (s : Int) (w : World) (hl : key.length = 32) (hkb : ∀ x ∈ key, 0 ≤ x ∧ x ≤ 255) (hm : xs.length = m + 8) (hr : Row w A xs) (hm2 : m ≤ 100000) (hc : m + 8 ≤ c) (hx : xs = xs.take m ++ tagOf key s (xs.take m)) :
    Calls Tryd.prog 35 #[.agg (u8V key), .int .i64 s, .slice A (m + 8) c] w fun e w' => (∃ A' d', e = .returned (.tuple #[.slice A' m d', .int .i64 0]) ∧ Own w' w.heap.size A' d' (xs.take m)) ∧ Below w.heap.size w w' := by
  have HL := Lib.hid hl
  have HKB := Lib.hid hkb
  have HM := Lib.hid hm
  have HR := Lib.hid hr
  have BL : (xs.take m).length = m := by rw [List.length_take]; omega
  have RB := fun (W : World) (hb : Below w.heap.size w W) => row_take (hr.below hb) m
  have TL := tagOf_len key s (xs.take m)
  have CC := fun (W : World) (hb : Below w.heap.size w W) => rclose_any key (xs.take m) A m c s W hl hkb BL (RB W hb) hm2
  have TB := tagOf_bytes key s (xs.take m)
  have SM : decide (xs.take m ++ tagOf key s (xs.take m) = xs) = true := decide_eq_true hx.symm
  have hst : ((strOfNums (xs.take m ++ tagOf key s (xs.take m))).toList == (strOfNums xs).toList) = true := by
    rw [str_beq (fun x hx => (List.mem_append.1 hx).elim (fun h => hr.2 x (List.mem_of_mem_take h)) (fun h => TB x h)) hr.2]
    exact SM
  generalize tagOf key s (xs.take m) = tg at *
  generalize xs.take m = bd at *
  have CL2 : (bd ++ tg).length = m + 8 := by rw [List.length_append, BL, TL]
  have CV1 := fun (W : World) (A' : Option Addr) (d' : Nat) (k : Row W A' (bd ++ tg)) => conv_row (W := W) (a := A') (xs := bd ++ tg) (m + 8) d' CL2 k
  have CV2 := fun (W : World) (hb : Below w.heap.size w W) => conv_row (W := W) (a := A) (xs := xs) (m + 8) c hm (hr.below hb)
  generalize strOfNums (bd ++ tg) = s1 at *
  generalize strOfNums xs = s2 at *
  replace CC := Lib.hid CC
  replace BL := Lib.hid BL
  replace TL := Lib.hid TL
  replace CL2 := Lib.hid CL2
  replace RB := Lib.hid RB
  replace SM := Lib.hid SM
  replace CV1 := Lib.hid CV1
  replace CV2 := Lib.hid CV2
  replace hst := Lib.hid hst
  clear hl hkb hm hr hx TB
  have i0 : IntKind.i64.wrap (m : Int) = m := IntWalk.i64_in _ (by omega)
  have t0 : decide ((m : Int) < 0) = false := decide_eq_false (by omega)
  go_enter Tryd.func35, Tryd.ntmps35
  go_wp2_with fail
  have K3 := Lib.hid (Blk.new w (u8V key) 22)
  have BB := Lib.hid (below_alloc1 w (.cells (u8V key) 22))
  generalize w.alloc (.cells (u8V key) 22) = w1 at *
  refine wp_region_confR' belR_kept (by kernel_rfl) 14 (by kernel_rfl) (by simp) (by decide) (RROp key s tg true A m c bd s1 s2) (RROp_keep _ _ _ _ _ _ _ _ _ _) ?_ ?_
  · simp only [ConfStepsR, List.take_succ_cons, List.take_zero, putAll, Act.put, List.setIfInBounds_toArray, List.set_cons_succ, List.set_cons_zero, and_true]
    refine ⟨?_, ?_, ?_, ?_, ?_, ?_, ?_, ?_, ?_, ?_, ?_, ?_, ?_, ?_⟩
    all_goals intro v w' hb hd
    · exact conf_valueR belR_kept (wanted0 rfl) (by simp [go_sem]) rfl
    · have d0 : v 0 = .int .i64 (m : Int) := hd.at 0 rfl
      exact conf_valueR belR_kept (wanted0 rfl) (by simp [go_sem, d0, t0]) rfl
    · have d1 : v 1 = .bool false := hd.at 1 rfl
      exact conf_valueR belR_kept (wanted0 rfl) (by simp [go_sem, d1]) rfl
    · have g2 : v 2 = .bool false := hd.at 2 rfl
      exact conf_loadR belR_kept (g := w.heap.size) agg_b32 (wantedY rfl rfl (congrArg some g2)) ⟨rfl, by simp [go_sem]⟩ (K3.out.below hb) (by rw [u8V_size, HL.out]) rfl
    · have g2 : v 2 = .bool false := hd.at 2 rfl
      exact conf_valueR belR_kept (wantedY rfl rfl (congrArg some g2)) (by simp [go_sem]) rfl
    · have g2 : v 2 = .bool false := hd.at 2 rfl
      exact conf_valueR belR_kept (wantedY rfl rfl (congrArg some g2)) (by simp [go_sem]) rfl
    · have g2 : v 2 = .bool false := hd.at 2 rfl
      exact conf_valueR belR_kept (wantedY rfl rfl (congrArg some g2)) (by simp [go_sem]) rfl
    · have g2 : v 2 = .bool false := hd.at 2 rfl
      have d5 : v 5 = .slice A (m + 8) c := hd.at 5 rfl
      have d6 : v 6 = .int .i64 (m : Int) := hd.at 6 rfl
      exact conf_valueR belR_kept (wantedY rfl rfl (congrArg some g2)) (run_op_front _ (.tmp 17) (.tmp 18) rfl A (m + 8) c m (by simp [go_sem, d5]) (by simp [go_sem, d6]) (by omega)) rfl
    · have g2 : v 2 = .bool false := hd.at 2 rfl
      have d3 : v 3 = .agg (u8V key) := hd.at 3 rfl
      have d4 : v 4 = .int .i64 s := hd.at 4 rfl
      have d7 : v 7 = .slice A m c := hd.at 7 rfl
      refine conf_callR (f := 29) (args := #[v 3, v 4, v 7]) (wantedY rfl rfl (congrArg some g2)) (by simp [go_sem]) ?_
      rw [d3, d4, d7]
      exact (CC.out w' (bt BB.out hb)).mono fun e w'' ⟨⟨A', d', he, o⟩, hb'⟩ => ⟨_, he, hb', A', d', rfl, o.row⟩
    · have g2 : v 2 = .bool false := hd.at 2 rfl
      obtain ⟨A', d', d8, r8⟩ : ∃ A' d', v 8 = .slice A' (m + 8) d' ∧ Row w' A' (bd ++ tg) := hd.at 8 rfl
      exact conf_valueR belR_kept (wantedY rfl rfl (congrArg some g2)) (by simp [go_sem, d8, CV1.out w' A' d' r8]) rfl
    · have g2 : v 2 = .bool false := hd.at 2 rfl
      exact conf_valueR belR_kept (wantedY rfl rfl (congrArg some g2)) (by simp [go_sem]) rfl
    · have g2 : v 2 = .bool false := hd.at 2 rfl
      have d10 : v 10 = .slice A (m + 8) c := hd.at 10 rfl
      exact conf_valueR belR_kept (wantedY rfl rfl (congrArg some g2)) (by simp [go_sem, d10, CV2.out w' (bt BB.out hb)]) rfl
    · have g2 : v 2 = .bool false := hd.at 2 rfl
      have d9 : v 9 = .string s1 := hd.at 9 rfl
      have d11 : v 11 = .string s2 := hd.at 11 rfl
      exact conf_valueR belR_kept (wantedY rfl rfl (congrArg some g2)) (by simp [go_sem, d9, d11, hst.out]) rfl
    · have d2 : v 2 = .bool false := hd.at 2 rfl
      have d12 : v 12 = .bool (!true) := hd.at 12 rfl
      exact conf_valueR belR_kept (wanted0 rfl) (by simp [go_sem, d2, d12]) rfl
  · intro v w' hb hr
    have d13 : v 13 = .bool (!true) := hr 13 (by omega)
    simp only [List.take_succ_cons, List.take_zero, List.drop_succ_cons, List.drop_zero, putAll, Act.put, List.setIfInBounds_toArray, List.set_cons_succ, List.set_cons_zero]
    rw [d13]
    replace BB := Lib.hid (bt BB.out hb)
    clear hr hb d13 K3 CC
    go_wp2_with (first | ((with_reducible show wpList _ _ _ (⟨some 29, _, _, _, _, _⟩ :: _) _ _); (with_reducible refine wpRow_run (wanted0 rfl) (run_op_front _ (.tmp 27) (.tmp 28) rfl A (m + 8) c m rfl rfl (by omega)) ?_)) | (at_builtin; refine Marker.mk ?_))
    refine Marker.in ?_
    have l1 := BB.out.size
    have o1 := own_lit w' w.heap.size l1
    have b1 := below_alloc1 w' (.cells #[] 5)
    replace BB := Lib.hid (bt BB.out b1)
    have r1 := RB.out _ BB.out
    generalize w'.alloc (.cells #[] 5) = w2 at *
    refine wpList_append_bytes _ rfl (.tmp 26) (.tmp 29) rfl w.heap.size _ 0 0 [] rfl rfl o1 A c m bd BL.out rfl r1 (by omega) BB.out.size ?_
    intro A1 cap1 w4 o4 b4
    rw [Nat.zero_add]
    rw [List.nil_append] at o4
    replace BB := Lib.hid (BB.out.trans b4)
    replace o4 := Lib.hid o4
    clear b4 r1 o1 b1 l1
    go_wp2_with fail
    go_ret2
    exact ⟨⟨_, _, rfl, o4.out⟩, BB.out⟩
/-- what Open tells -/
theorem ropen_any (key xs : List Int) (A : Option Addr) (n c : Nat) (s : Int) (w : World) (hl : key.length = 32) (hkb : ∀ x ∈ key, 0 ≤ x ∧ x ≤ 255) (hn : xs.length = n) (hr : Row w A xs) (hn2 : n ≤ 1000) (hc : n ≤ c) :
    Calls Tryd.prog 35 #[.agg (u8V key), .int .i64 s, .slice A n c] w fun e w' => (∃ A' m d', e = .returned (.tuple #[.slice A' m d', .int .i64 (if isSealed key s xs then 0 else 14)])) ∧ Below w.heap.size w w' := by
  by_cases h8 : n < 8
  · have hno : ¬ isSealed key s xs := fun h => by have := h.1; omega
    rw [if_neg hno]
    exact (ropen_short key A n c s w h8).mono fun e w' ⟨h, b⟩ => ⟨⟨_, _, _, h⟩, b⟩
  · obtain ⟨m, rfl⟩ : ∃ m, n = m + 8 := ⟨n - 8, by omega⟩
    have e1 : isSealed key s xs ↔ xs = xs.take m ++ tagOf key s (xs.take m) := by
      unfold isSealed
      rw [hn, Nat.add_sub_cancel]
      exact ⟨fun h => h.2, fun h => ⟨by omega, h⟩⟩
    by_cases hx : xs = xs.take m ++ tagOf key s (xs.take m)
    · rw [if_pos (e1.2 hx)]
      exact (ropen_good key xs A m c s w hl hkb hn hr (by omega) hc hx).mono fun e w' ⟨⟨A', d', h, _⟩, b⟩ => ⟨⟨_, _, _, h⟩, b⟩
    · rw [if_neg (fun h => hx (e1.1 h))]
      exact (ropen_bad key xs A m c s w hl hkb hn hr (by omega) hc hx).mono fun e w' ⟨h, b⟩ => ⟨⟨_, _, _, h⟩, b⟩
end Go.Proofs.YtapednkmefbldaaDoor

/- The table: Take of what is sealed, and of what is not, in general. -/
namespace Go.Proofs.YtapednkmefbldaaDoor
open Go.RowKit

/-- a new message of one who is there -/
theorem take_new (g k : Nat) (T : Tab) (src : Int) (bs l : List Int) (B : Option Addr) (n c : Nat) (w : World) (K : TabB w g T) (h : T.ok) (hk3 : k < 3) (hs : src = (k : Int) + 1) (hon : (T.ses k).on = true) (ht : take8 bs = some l) (hkd : l.getD 0 0 ≠ 1 ∧ l.getD 0 0 ≠ 2)
    (hn : bs.length + 8 = n) (hnc : n ≤ c) (hc2 : c ≤ 9223372036854775807) (hs2 : n ≤ 1000) (hr : Row w B (bs ++ tagOf (T.ses k).key src bs)) (hR : Roots w) (hb : (wsee (T.ses k).win (l.getD 1 0).toNat).2 = true) :
    Calls Tryd.prog 28 #[.pointer (some ⟨g, 0, none⟩), .int .i64 src, .slice B n c] w fun e w' => e = .returned (.tuple #[.agg (msgV l), .int .i64 0]) ∧ TabB w' g (T.put k ⟨true, 0, max T.beat 0, (T.ses k).r, (T.ses k).key, (wsee (T.ses k).win (l.getD 1 0).toNat).1⟩) ∧ Only g w w' := by
  subst hs
  have e := take_sealed (T := T) (i := k) (b := bs) hk3 hon
  rw [takeM_msg ht hkd hb] at e
  refine (tabf_take g T _ _ B n c w K h (by rw [List.length_append, tagOf_len, hn]) hnc hc2 hs2 hr hR).mono ?_
  rw [e]
  rintro e w' ⟨he, hk, ho⟩
  exact ⟨he, hk, ho⟩
/-- an old one -/
theorem take_old (g k : Nat) (T : Tab) (src : Int) (bs l : List Int) (B : Option Addr) (n c : Nat) (w : World) (K : TabB w g T) (h : T.ok) (hk3 : k < 3) (hs : src = (k : Int) + 1) (hon : (T.ses k).on = true) (ht : take8 bs = some l) (hkd : l.getD 0 0 ≠ 1 ∧ l.getD 0 0 ≠ 2)
    (hn : bs.length + 8 = n) (hnc : n ≤ c) (hc2 : c ≤ 9223372036854775807) (hs2 : n ≤ 1000) (hr : Row w B (bs ++ tagOf (T.ses k).key src bs)) (hR : Roots w) (hb : (wsee (T.ses k).win (l.getD 1 0).toNat).2 = false) :
    Calls Tryd.prog 28 #[.pointer (some ⟨g, 0, none⟩), .int .i64 src, .slice B n c] w fun e w' => e = .returned (.tuple #[.agg (msgV (z12 0)), .int .i64 15]) ∧ TabB w' g T ∧ Only g w w' := by
  subst hs
  have e := take_sealed (T := T) (i := k) (b := bs) hk3 hon
  rw [takeM_old ht hkd hb] at e
  refine (tabf_take g T _ _ B n c w K h (by rw [List.length_append, tagOf_len, hn]) hnc hc2 hs2 hr hR).mono ?_
  rw [e]
  rintro e w' ⟨he, hk, ho⟩
  exact ⟨he, hk, ho⟩
/-- what is not sealed -/
theorem take_unsealed (g k : Nat) (T : Tab) (src : Int) (xs : List Int) (B : Option Addr) (n c : Nat) (w : World) (K : TabB w g T) (h : T.ok) (hk3 : k < 3) (hs : src = (k : Int) + 1) (hon : (T.ses k).on = true) (hx : ¬ isSealed (T.ses k).key src xs)
    (hn : xs.length = n) (hnc : n ≤ c) (hc2 : c ≤ 9223372036854775807) (hs2 : n ≤ 1000) (hr : Row w B xs) (hR : Roots w) :
    Calls Tryd.prog 28 #[.pointer (some ⟨g, 0, none⟩), .int .i64 src, .slice B n c] w fun e w' => e = .returned (.tuple #[.agg (msgV (z12 0)), .int .i64 14]) ∧ TabB w' g T ∧ Only g w w' := by
  have e2 : (src - 1).toNat = k := by omega
  have e : T.take src xs = ⟨T, z12 0, 14⟩ := by
    unfold Tab.take
    rw [e2, if_pos ⟨by omega, hon⟩, if_neg hx]
  refine (tabf_take g T src xs B n c w K h hn hnc hc2 hs2 hr hR).mono ?_
  rw [e]
  rintro e w' ⟨he, hk, ho⟩
  exact ⟨he, hk, ho⟩
def byeL (q : Int) : List Int := [4, q, 0, 0, 0, 0, 0, 0, 0, 0, 0, 0]
def byeB (q : Int) : List Int := [4] ++ be q 4
theorem bye_put (q : Int) (h : 0 ≤ q ∧ q ≤ 4294967295) : put8 (byeL q) = some (byeB q) := put8_lit4 q h
theorem bye_take (q : Int) (h : 0 ≤ q ∧ q ≤ 4294967295) : take8 (byeB q) = some (byeL q) := take8_put rfl (bye_put q h)
theorem bye_len (q : Int) (h : 0 ≤ q ∧ q ≤ 4294967295) : (byeB q).length = 5 := put8_len (bye_put q h)
end Go.Proofs.YtapednkmefbldaaDoor

/- Rows of rows of bytes that came in. -/
namespace Go.Proofs.YtapednkmefbldaaDoor
open Go.RowKit Go.ChangeShapes Go.WideShapes Go.Deep

theorem add_off (b o i : Nat) : (⟨b, o, none⟩ : Addr).add i = ⟨b, o + i, none⟩ := by unfold Addr.add; split <;> simp_all
theorem row_of_trod1 {H : Type} {enc : TypeId × Value → H} {w : World} {fuel : Nat} {V : Value} {x : DataW H × List MemPlace} (hf : DataW.trod enc Tryd.prog w 0 (fun _ => true) true fuel 23 [V] = some x) : IsRow .u8 w V := by
  rcases open_slice Tryd.underlying23 hf with ⟨hcs, _⟩ | ⟨a, l, c, m, n, D, Pl, hcs, _⟩
  · simp only [List.cons.injEq, and_true] at hcs
    subst hcs
    exact row_of_trod hf
  · simp only [List.cons.injEq, and_true] at hcs
    subst hcs
    exact row_of_trod hf
/-- a slice of slices of bytes -/
def IsRows (w : World) (v : Value) : Prop := ∃ (A : Option Addr) (l c : Nat), v = .slice A l c ∧ (l = 0 ∨ ∃ b off, A = some ⟨b, off, none⟩ ∧ ∀ i, i < l → ∃ u, w.cell? ⟨b, off + i, none⟩ = some u ∧ IsRow .u8 w u)
set_option maxRecDepth 100000 in
theorem mk_sl_sl_uint8 {H : Type} {enc : TypeId × Value → H} {w : World} {r : Reach} {base : Nat} {v : Value} {d : DataW H} {p : List MemPlace}
    (h : Value.okWide Tryd.prog w r base 79 v) (hd : DataW.Trod enc Tryd.prog w 0 (fun _ => true) true 79 v d p) : IsRows w v := by
  obtain ⟨a, len, cap, rfl⟩ := okWide_slice Tryd.underlying79 h
  obtain ⟨fuel, hf⟩ := hd
  rcases open_slice1 Tryd.underlying79 (by kernel_rfl) hf with ⟨hcs, -⟩ | ⟨x, l, c, m, n, V, D, Pl, hcs, -, hl, hm, hmm, -, hi⟩
  · simp [Value.cells] at hcs
    obtain ⟨rfl, rfl, rfl⟩ := hcs
    exact ⟨none, 0, 0, rfl, .inl rfl⟩
  · simp [Value.cells] at hcs
    obtain ⟨rfl, rfl, rfl⟩ := hcs
    simp only [if_true] at hmm
    subst hmm
    refine ⟨some x, len, m, rfl, ?_⟩
    by_cases h0 : len = 0
    · exact .inl h0
    · have c0 := (hi 0 (by omega)).1
      have hx : x = ⟨x.block, x.off, none⟩ := by
        have e1 : x.add 0 = x := by simp [Addr.add]
        rw [e1] at c0
        have := World.cell?_spot c0
        cases x; simp_all
      refine .inr ⟨x.block, x.off, by rw [← hx], fun i hil => ?_⟩
      obtain ⟨h1, h2⟩ := hi i (by omega)
      rw [hx] at h1
      refine ⟨V i, ?_, row_of_trod1 h2⟩
      rw [← add_off]
      exact h1
end Go.Proofs.YtapednkmefbldaaDoor

/- The walk of TableRefuses. -/
namespace Go.Proofs.YtapednkmefbldaaDoor
open Go.RowKit

set_option maxRecDepth 100000 in
theorem built_bye (q : Int) : Tryd.prog.built 66 [(0, .int .i64 4), (1, .int .i64 q)] = some (msgV (byeL q)) := by kernel_rfl
def rT1 (key : List Int) : Tab := (tab0 2 3).put 0 (sesB true (max 2 0) 1 key)
def rT2 (key : List Int) (q : Int) : Tab := (rT1 key).put 0 ⟨true, 0, max 2 0, 1, key, some (q.toNat, 1)⟩
def rT3 (key : List Int) (q : Int) : Tab := (rT2 key q).put 0 ⟨true, 1, max 2 0, 1, key, some (q.toNat, 1)⟩
def rT4 (key : List Int) (q : Int) : Tab := (rT3 key q).put 0 ses0
theorem rT1_ok (key : List Int) (hl : key.length = 32) (hb : ∀ x ∈ key, 0 ≤ x ∧ x ≤ 255) : (rT1 key).ok := (tab0_ok 2 3).put 0 (sesB_ok _ _ _ _ hl hb)
theorem rT2_ok (key : List Int) (q : Int) (hl : key.length = 32) (hb : ∀ x ∈ key, 0 ≤ x ∧ x ≤ 255) (hq : 0 ≤ q ∧ q ≤ 4294967295) : (rT2 key q).ok := (rT1_ok key hl hb).put 0 ⟨hl, hb, by show q.toNat ≤ 4294967295; omega, by decide⟩
theorem rT3_ok (key : List Int) (q : Int) (hl : key.length = 32) (hb : ∀ x ∈ key, 0 ≤ x ∧ x ≤ 255) (hq : 0 ≤ q ∧ q ≤ 4294967295) : (rT3 key q).ok := (rT2_ok key q hl hb hq).put 0 ⟨hl, hb, by show q.toNat ≤ 4294967295; omega, by decide⟩
theorem rT4_ok (key : List Int) (q : Int) (hl : key.length = 32) (hb : ∀ x ∈ key, 0 ≤ x ∧ x ≤ 255) (hq : 0 ≤ q ∧ q ≤ 4294967295) : (rT4 key q).ok := (rT3_ok key q hl hb hq).put 0 ses0_ok
theorem bye_old (q : Nat) : (wsee (some (q, 1)) q).2 = false := by
  have h1 : ¬ q < q := by omega
  have h2 : q - q < 64 := by omega
  simp [wsee]
theorem ref_take1 (g : Nat) (key ys : List Int) (A4 : Option Addr) (k4 c4 : Nat) (W : World) (hl : key.length = 32) (hb : ∀ x ∈ key, 0 ≤ x ∧ x ≤ 255) (kt : TabB W g (rT1 key)) (hx : ¬ isSealed key 1 ys) (hn : ys.length = k4) (hnc : k4 ≤ c4) (hc : c4 ≤ 9223372036854775807) (h60 : k4 ≤ 60) (hr : Row W A4 ys) (hR : Roots W) :
    Calls Tryd.prog 28 #[.pointer (some ⟨g, 0, none⟩), .int .i64 1, .slice A4 k4 c4] W fun e w' => e = .returned (.tuple #[.agg (msgV (z12 0)), .int .i64 14]) ∧ TabB w' g (rT1 key) ∧ Only g W w' :=
  take_unsealed g 0 (rT1 key) 1 ys A4 k4 c4 W kt (rT1_ok key hl hb) (by decide) (by decide) rfl hx hn hnc hc (by omega) hr hR
theorem ref_on1 (g : Nat) (key : List Int) (W : World) (hl : key.length = 32) (hb : ∀ x ∈ key, 0 ≤ x ∧ x ≤ 255) (kt : TabB W g (rT1 key)) :
    Calls Tryd.prog 34 #[.pointer (some ⟨g, 0, none⟩), .int .i64 1] W fun e w' => e = .returned (.bool true) ∧ W = w' := tabf_on g (rT1 key) 1 W kt (rT1_ok key hl hb)
theorem ref_on4 (g : Nat) (key : List Int) (q : Int) (W : World) (hl : key.length = 32) (hb : ∀ x ∈ key, 0 ≤ x ∧ x ≤ 255) (hq : 0 ≤ q ∧ q ≤ 4294967295) (kt : TabB W g (rT4 key q)) :
    Calls Tryd.prog 34 #[.pointer (some ⟨g, 0, none⟩), .int .i64 1] W fun e w' => e = .returned (.bool false) ∧ W = w' := tabf_on g (rT4 key q) 1 W kt (rT4_ok key q hl hb hq)
theorem ref_take2 (g : Nat) (key : List Int) (q : Int) (B : Option Addr) (c : Nat) (W : World) (hl : key.length = 32) (hb : ∀ x ∈ key, 0 ≤ x ∧ x ≤ 255) (hq : 0 ≤ q ∧ q ≤ 4294967295) (kt : TabB W g (rT1 key)) (hc : 13 ≤ c) (hc2 : c ≤ 9223372036854775807) (hr : Row W B (byeB q ++ tagOf key 1 (byeB q))) (hR : Roots W) :
    Calls Tryd.prog 28 #[.pointer (some ⟨g, 0, none⟩), .int .i64 1, .slice B 13 c] W fun e w' => e = .returned (.tuple #[.agg (msgV (byeL q)), .int .i64 0]) ∧ TabB w' g (rT2 key q) ∧ Only g W w' :=
  take_new g 0 (rT1 key) 1 (byeB q) (byeL q) B 13 c W kt (rT1_ok key hl hb) (by decide) (by decide) rfl (bye_take q hq) ⟨(by show (4 : Int) ≠ 1; decide), (by show (4 : Int) ≠ 2; decide)⟩ (by rw [bye_len q hq]) hc hc2 (by omega) hr hR rfl
theorem ref_tick1 (g : Nat) (key : List Int) (q : Int) (W : World) (hl : key.length = 32) (hb : ∀ x ∈ key, 0 ≤ x ∧ x ≤ 255) (hq : 0 ≤ q ∧ q ≤ 4294967295) (kt : TabB W g (rT2 key q)) :
    Calls Tryd.prog 36 #[.pointer (some ⟨g, 0, none⟩)] W fun e w' => e = .returned (.slice none 0 0) ∧ TabB w' g (rT3 key q) ∧ Only g W w' :=
  tick_not g (rT2 key q) W kt (rT2_ok key q hl hb hq) rfl rfl rfl rfl (by show (-9223372036854775808 : Int) ≤ 0; decide) (by show (max 2 0 : Int) ≤ 9223372036854775807; decide) (by show sat 0 (max 2 0) < max 2 0; decide)
theorem ref_take3 (g : Nat) (key : List Int) (q : Int) (B : Option Addr) (c : Nat) (W : World) (hl : key.length = 32) (hb : ∀ x ∈ key, 0 ≤ x ∧ x ≤ 255) (hq : 0 ≤ q ∧ q ≤ 4294967295) (kt : TabB W g (rT3 key q)) (hc : 13 ≤ c) (hc2 : c ≤ 9223372036854775807) (hr : Row W B (byeB q ++ tagOf key 1 (byeB q))) (hR : Roots W) :
    Calls Tryd.prog 28 #[.pointer (some ⟨g, 0, none⟩), .int .i64 1, .slice B 13 c] W fun e w' => e = .returned (.tuple #[.agg (msgV (z12 0)), .int .i64 15]) ∧ TabB w' g (rT3 key q) ∧ Only g W w' :=
  take_old g 0 (rT3 key q) 1 (byeB q) (byeL q) B 13 c W kt (rT3_ok key q hl hb hq) (by decide) (by decide) rfl (bye_take q hq) ⟨(by show (4 : Int) ≠ 1; decide), (by show (4 : Int) ≠ 2; decide)⟩ (by rw [bye_len q hq]) hc hc2 (by omega) hr hR (bye_old q.toNat)
theorem ref_tick2 (g : Nat) (key : List Int) (q : Int) (W : World) (hl : key.length = 32) (hb : ∀ x ∈ key, 0 ≤ x ∧ x ≤ 255) (hq : 0 ≤ q ∧ q ≤ 4294967295) (kt : TabB W g (rT3 key q)) :
    Calls Tryd.prog 36 #[.pointer (some ⟨g, 0, none⟩)] W fun e w' => ∃ (r c : Nat), W.heap.size ≤ r ∧ e = .returned (.slice (some ⟨r, 0, none⟩) 1 c) ∧ w'.cell? ⟨r, 0, none⟩ = some (.int .i64 1) ∧ TabB w' g (rT4 key q) ∧ Only g W w' :=
  tick_due1 g (rT3 key q) W kt (rT3_ok key q hl hb hq) rfl rfl rfl rfl (by show (-9223372036854775808 : Int) ≤ 1; decide) (by show (max 2 0 : Int) ≤ 9223372036854775807; decide) (by show (max 2 0 : Int) ≤ sat 1 (max 2 0); decide)
def RRw (b off m cap i : Nat) (A4 : Option Addr) (n4 c4 k4 : Nat) (j : Nat) (v : Value) (_w : World) : Prop := match j with
  | 0 => v = .slice (some ⟨b, off, none⟩) m cap
  | 1 => v = .int .i64 (i : Int)
  | 2 => v = .pointer (some ⟨b, off + i, none⟩)
  | 3 => v = .slice A4 n4 c4
  | 4 => v = .slice (some ⟨b, off, none⟩) m cap
  | 5 => v = .int .i64 (i : Int)
  | 6 => v = .pointer (some ⟨b, off + i, none⟩)
  | 7 => v = .slice A4 n4 c4
  | 8 => v = .int .i64 (n4 : Int)
  | 9 => v = .int .i64 (k4 : Int)
  | _ => v = .slice A4 k4 c4
theorem RRw_keep (b off m cap i : Nat) (A4 : Option Addr) (n4 c4 k4 : Nat) : ∀ j v w w', j < 11 → RRw b off m cap i A4 n4 c4 k4 j v w → BelR w w' → RRw b off m cap i A4 n4 c4 k4 j v w' := by
  intro j v w w' hi h hb
  unfold RRw at *
  split at h
  all_goals exact h
set_option maxRecDepth 100000 in
set_option maxHeartbeats 3200000 in
theorem walk_TableRefuses (v0 v1 v2 : Value) (w : World) (hR : Roots w) (q0 : ∃ b0, Value.okWide Tryd.prog w .any b0 22 v0) (q1 : IsRows w v1) (q2 : ∃ n : Int, v2 = .int .u32 n ∧ 0 ≤ n ∧ n ≤ 4294967295) :
    Calls Tryd.prog 9 #[v0, v1, v2] w fun e w' => e = .returned (.bool true) ∧ Below w.heap.size w w' := by
  obtain ⟨q, rfl, hq0, hq1⟩ := q2
  obtain ⟨A, m, cap, rfl, hx⟩ := q1
  obtain ⟨b2, q0⟩ := q0
  obtain ⟨key, rfl, KL, KB⟩ := flat_b32 _ _ _ q0
  have RT := Lib.hid hR
  have HQ := Lib.hid (show 0 ≤ q ∧ q ≤ 4294967295 from ⟨hq0, hq1⟩)
  have CP := Lib.hid (fun W => rput_any (byeL q) ⟨rfl, .inl rfl⟩ W)
  have BM := Lib.hid (built_bye q)
  have KS : Hid ((u8V key).size = 32) := Lib.hid (by rw [u8V_size, KL])
  have HX := Lib.hid hx
  obtain ⟨pv, hpv, hps, hp1, hp2⟩ := built_pol 2 3
  have CN := Lib.hid (fun W => tabf_new pv 2 3 W hps hp1 hp2)
  replace hpv := Lib.hid hpv
  replace KL := Lib.hid KL
  replace KB := Lib.hid KB
  clear q0 hR hx hps hp1 hp2
  obtain ⟨kv, hkv⟩ : ∃ x, x = u8V key := ⟨_, rfl⟩
  rw [← hkv] at KS ⊢
  replace hkv := Lib.hid hkv
  go_enter Tryd.func9, Tryd.ntmps9
  go_wp2_with fail
  have K5 := Lib.hid (Blk.new w kv 22)
  have BB := Lib.hid (below_alloc1 w (.cells kv 22))
  generalize w.alloc (.cells kv 22) = w1 at *
  ((with_reducible refine (shown16 _).mono ?_))
  rintro e w2 ⟨rfl, b2⟩
  replace K5 := Lib.hid (K5.out.below b2)
  replace BB := Lib.hid (bt BB.out b2)
  clear b2
  go_wp2_with ((with_reducible show wpList _ _ _ (⟨some 24, _, _, _, _, _⟩ :: _) _ _); refine wpList_build' rfl 62 _ rfl pv hpv.out ?_)
  have lk2 := K5.out.lt
  ((with_reducible refine (CN.out _).mono ?_))
  rintro e w3 ⟨g, hg, rfl, kt, b2⟩
  replace K5 := Lib.hid (K5.out.below b2)
  replace BB := Lib.hid (bt BB.out b2)
  have KT := Lib.hid kt
  have l6 : w.heap.size < g := by omega
  clear b2 CN kt hpv hg lk2
  go_wp2_with ((with_reducible show wpList _ _ _ (⟨_, .load 22 _, _, _, _, _⟩ :: _) _ _); (with_reducible refine wpBlk_load (g := w.heap.size) agg_b32 ?_ ?_ K5 ?_ ?_); (· (first | exact wanted0 rfl | exact wantedY rfl rfl rfl | (simp [Region.wanted, yielded]; done))); (· exact ⟨rfl, rfl⟩); (· exact KS.out))
  rw [hkv.out]
  ((with_reducible refine (st_ok g 0 (tab0 2 3) 1 1 key _ KT.out (tab0_ok 2 3) KL.out (by decide) (by decide) (by decide) (.inr (by decide))).mono ?_))
  rintro e w9 ⟨rfl, kt, o9⟩
  rw [← hkv.out]
  replace K5 := Lib.hid (o9.blk K5.out (Nat.ne_of_lt l6))
  replace BB := Lib.hid (BB.out.trans (o9.bel _ (Nat.le_of_lt l6) BB.out.size))
  replace KT : Hid (TabB w9 g (rT1 key)) := Lib.hid kt
  clear kt o9
  go_wp2_with fail
  go_loopw [9] (fun y wr => ∃ (i : Nat), i ≤ 30 ∧ y = .int .i64 i ∧ Blk wr w.heap.size kv 22 ∧ TabB wr g (rT1 key) ∧ Below w.heap.size w wr) (fun y _ => 30 - (intOf y).toNat)
  case atStart => exact ⟨0, by omega, rfl, K5.out, KT.out, BB.out⟩
  case round =>
    clear K5 KT BB
    obtain ⟨i, hi30, rfl, K5, KT, BB⟩ := hrel
    replace K5 := Lib.hid K5
    replace KT := Lib.hid KT
    replace BB := Lib.hid BB
    by_cases hlt : i < m
    · by_cases hl2 : i < 30
      · have t1 : decide ((i : Int) < (m : Int)) = true := decide_eq_true (by omega)
        have t2 : decide ((i : Int) < 30) = true := decide_eq_true (by omega)
        obtain ⟨b, off, hA, hcx⟩ := HX.out.resolve_left (by omega)
        obtain ⟨u, hcu, hu⟩ := hcx i hlt
        obtain ⟨A4, xs, c4, rfl, hx1, hx2, hx3, hx4⟩ := bytes_of_row hu
        subst hA
        obtain ⟨n4, hn4⟩ : ∃ n, xs.length = n := ⟨_, rfl⟩
        rw [hn4] at hcu hx1
        have lb := World.block_lt_of_cell? _ _ hcu
        have hcr : ∀ W, BelR wr W → W.cell? ⟨b, off + i, none⟩ = some (.slice A4 n4 c4) := fun W hb => by rw [Below.cell hb (Nat.lt_of_lt_of_le lb BB.out.size), BB.out.cell lb]; exact hcu
        obtain ⟨k4, hk4⟩ : ∃ k : Nat, min n4 60 = k := ⟨_, rfl⟩
        have hmk : min (n4 : Int) 60 = (k4 : Int) := by omega
        have XR := Lib.hid (row_take hx3 k4)
        have XN : Hid ((xs.take k4).length = k4) := Lib.hid (by rw [List.length_take]; omega)
        have hk60 : k4 ≤ 60 := by omega
        have hkc : k4 ≤ c4 := by omega
        generalize xs.take k4 = ys at *
        replace hmk := Lib.hid hmk
        clear hcx hcu hu hx3 hx4 hn4 hk4 hx1 lb
        go_wp2_with fail
        refine wp_region_confR' belR_kept (by kernel_rfl) 11 (by kernel_rfl) (by simp) (by decide) (RRw b off m cap i A4 n4 c4 k4) (RRw_keep _ _ _ _ _ _ _ _ _) ?_ ?_
        · simp only [ConfStepsR, List.take_succ_cons, List.take_zero, putAll, Act.put, List.setIfInBounds_toArray, List.set_cons_succ, List.set_cons_zero, and_true]
          refine ⟨?_, ?_, ?_, ?_, ?_, ?_, ?_, ?_, ?_, ?_, ?_⟩
          all_goals intro v w' hb hd
          · exact conf_valueR belR_kept (wanted0 rfl) (by simp [go_sem]) rfl
          · exact conf_valueR belR_kept (wanted0 rfl) (by simp [go_sem]) rfl
          · have d0 : v 0 = .slice (some ⟨b, off, none⟩) m cap := hd.at 0 rfl
            have d1 : v 1 = .int .i64 (i : Int) := hd.at 1 rfl
            exact conf_valueR belR_kept (wanted0 rfl) (by simp [go_sem, d0, d1, hlt]) rfl
          · have d2 : v 2 = .pointer (some ⟨b, off + i, none⟩) := hd.at 2 rfl
            have hc : w'.cell? ⟨b, off + i, none⟩ = some (.slice A4 n4 c4) := hcr w' hb
            exact conf_valueR belR_kept (wanted0 rfl) (by simp [go_sem, d2, hc]) rfl
          · exact conf_valueR belR_kept (wanted0 rfl) (by simp [go_sem]) rfl
          · exact conf_valueR belR_kept (wanted0 rfl) (by simp [go_sem]) rfl
          · have d4 : v 4 = .slice (some ⟨b, off, none⟩) m cap := hd.at 4 rfl
            have d5 : v 5 = .int .i64 (i : Int) := hd.at 5 rfl
            exact conf_valueR belR_kept (wanted0 rfl) (by simp [go_sem, d4, d5, hlt]) rfl
          · have d6 : v 6 = .pointer (some ⟨b, off + i, none⟩) := hd.at 6 rfl
            have hc : w'.cell? ⟨b, off + i, none⟩ = some (.slice A4 n4 c4) := hcr w' hb
            exact conf_valueR belR_kept (wanted0 rfl) (by simp [go_sem, d6, hc]) rfl
          · have d7 : v 7 = .slice A4 n4 c4 := hd.at 7 rfl
            exact conf_valueR belR_kept (wanted0 rfl) (by simp [go_sem, d7]) rfl
          · have d8 : v 8 = .int .i64 (n4 : Int) := hd.at 8 rfl
            exact conf_valueR belR_kept (wanted0 rfl) (by simp [go_sem, d8, run_min_i64, hmk.out]) rfl
          · have d3 : v 3 = .slice A4 n4 c4 := hd.at 3 rfl
            have d9 : v 9 = .int .i64 (k4 : Int) := hd.at 9 rfl
            exact conf_valueR belR_kept (wanted0 rfl) (run_op_front _ (.tmp 51) (.tmp 57) rfl A4 n4 c4 k4 (by simp [go_sem, d3]) (by simp [go_sem, d9]) hkc) rfl
        · intro v w4 hb hr
          have d10 : v 10 = .slice A4 k4 c4 := hr 10 (by omega)
          simp only [List.take_succ_cons, List.take_zero, List.drop_succ_cons, List.drop_zero, putAll, Act.put, List.setIfInBounds_toArray, List.set_cons_succ, List.set_cons_zero]
          rw [d10]
          replace K5 := Lib.hid (K5.out.below hb)
          replace KT := Lib.hid (Blk.below KT.out hb)
          replace BB := Lib.hid (bt BB.out hb)
          clear hr hb d10 hcr hmk
          go_wp2_with ((with_reducible show wpList _ _ _ (⟨_, .load 22 _, _, _, _, _⟩ :: _) _ _); (with_reducible refine wpBlk_load (g := w.heap.size) agg_b32 ?_ ?_ K5 ?_ ?_); (· (first | exact wanted0 rfl | exact wantedY rfl rfl rfl | (simp [Region.wanted, yielded]; done))); (· exact ⟨rfl, rfl⟩); (· exact KS.out))
          rw [hkv.out]
          ((with_reducible refine (ropen_any key ys A4 k4 c4 1 _ KL.out KB.out XN.out (XR.out.below BB.out) (by omega) hkc).mono ?_))
          rintro e w5 ⟨⟨A5, m5, d5, rfl⟩, b5⟩
          rw [← hkv.out]
          replace K5 := Lib.hid (K5.out.below b5)
          replace KT := Lib.hid (Blk.below KT.out b5)
          replace BB := Lib.hid (bt BB.out b5)
          clear b5
          by_cases hsl : isSealed key 1 ys
          · rw [if_pos hsl]
            replace hsl := Lib.hid hsl
            go_wp2_with fail
            exact ⟨⟨i + 1, by omega, by simp, K5.out, KT.out, BB.out⟩, by simp [intOf]; omega⟩
          · rw [if_neg hsl]
            replace hsl := Lib.hid hsl
            have kt1 : TabB w5 g (rT1 key) := KT.out
            go_wp2_with fail
            ((with_reducible refine (ref_take1 g key ys A4 k4 c4 _ KL.out KB.out kt1 hsl.out XN.out hkc hx2 hk60 (XR.out.below BB.out) (RT.out.below BB.out)).mono ?_))
            rintro e w6 ⟨rfl, kt, o6⟩
            replace K5 := Lib.hid (o6.blk K5.out (Nat.ne_of_lt l6))
            replace BB := Lib.hid (BB.out.trans (o6.bel _ (Nat.le_of_lt l6) BB.out.size))
            replace KT := Lib.hid kt
            clear kt o6 kt1
            go_wp2_with (((with_reducible show wpList _ _ _ (⟨_, .alloc 66, _, _, _, none⟩ :: _) _ _); (with_reducible refine wpRow_alloc zeroT_msgy ?_ ?_ ?_); (· exact wanted0 rfl); (· rfl); refine Marker.mk ?_))
            refine Marker.in ?_
            have lg9 := Blk.lt KT.out
            have l59 := K5.out.lt
            have K9 := Lib.hid (Blk.new w6 (msgV (z12 0)) 66)
            have bel := below_alloc1 w6 (.cells (msgV (z12 0)) 66)
            replace K5 := Lib.hid (K5.out.below bel)
            replace KT := Lib.hid (Blk.below KT.out bel)
            replace BB := Lib.hid (bt BB.out bel)
            clear bel
            generalize w6.alloc (.cells (msgV (z12 0)) 66) = w7 at *
            generalize w6.heap.size = g13 at *
            go_wp2_with (((with_reducible show wpList _ _ _ (⟨_, .store 66 _ _, _, _, _, none⟩ :: _) _ _); (with_reducible refine wpBlk_store (g := g13) (cs := msgV (z12 0)) agg_msg ?_ ?_ K9 ?_ ?_ ?_ ?_); (· exact wanted0 rfl); (· exact ⟨rfl, rfl, rfl⟩); (· exact msgV_size _); (· exact msgV_size _); (· exact msgV_one _); refine Marker.mk ?_))
            refine Marker.in ?_
            replace K5 := Lib.hid (Blk.setRow_other K5.out g13 (msgV (z12 0)) (by omega))
            replace KT := Lib.hid (Blk.setRow_other KT.out g13 (msgV (z12 0)) (by omega))
            replace BB := Lib.hid (below_setRow (g := g13) BB.out (by omega) (msgV (z12 0)))
            replace K9 := Lib.hid (K9.out.setRow (msgV (z12 0)))
            generalize w7.setRow g13 (msgV (z12 0)) = w8 at *
            have NQ : ∀ W, (binOp .neq 66 (.agg (msgV (z12 0))) (.agg (msgV (z12 0)))).run Tryd.prog W = .ok (.bool false) W := fun W => by
              have := neq_msg (z12 0) (z12 0) ⟨rfl, .inl rfl⟩ ⟨rfl, .inl rfl⟩ W
              simpa using this
            have MS := Lib.hid (msgV_size (z12 0))
            have BZ := Lib.hid built_zero
            generalize msgV (z12 0) = zv at *
            go_wp2_with (first | ((with_reducible show wpList _ _ _ (⟨some 77, _, _, _, _, _⟩ :: _) _ _); (refine wpRow_run (v := .agg zv) ?_ (run_op_build rfl BZ.out) ?_); (· first | exact wantedY rfl rfl rfl | exact wanted0 rfl | (simp [Region.wanted, yielded]; done))) | ((with_reducible show wpList _ _ _ (⟨_, .load 66 _, _, _, _, _⟩ :: _) _ _); (with_reducible refine wpBlk_load (g := g13) agg_msg ?_ ?_ K9 ?_ ?_); (· (first | exact wanted0 rfl | exact wantedY rfl rfl rfl | (simp [Region.wanted, yielded]; done))); (· exact ⟨rfl, rfl⟩); (· exact MS.out)))
            have kt1 : TabB w8 g (rT1 key) := KT.out
            ((with_reducible refine (ref_on1 g key _ KL.out KB.out kt1).mono ?_))
            rintro e w11 ⟨rfl, rfl⟩
            clear NQ
            go_wp2_with fail
            exact ⟨⟨i + 1, by omega, by simp, K5.out, KT.out, BB.out⟩, by simp [intOf]; omega⟩
      ·
        have t1 : decide ((i : Int) < (m : Int)) = true := decide_eq_true (by omega)
        have t2 : decide ((i : Int) < 30) = false := decide_eq_false (by omega)
        have kt1 : TabB wr g (rT1 key) := KT.out
        go_wp2_with (((with_reducible show wpList _ _ _ (⟨some 88, _, _, _, _, _⟩ :: _) _ _); refine wpList_build' rfl 66 _ rfl (msgV (byeL q)) BM.out ?_))
        ((with_reducible refine (CP.out _).mono ?_))
        rintro e w6 hp
        unfold RPutP at hp
        rw [bye_put q HQ.out] at hp
        obtain ⟨⟨A6, c6, base6, rfl, hown⟩, b6⟩ := hp
        rw [bye_len q HQ.out]
        replace K5 := Lib.hid (K5.out.below b6)
        replace KT := Lib.hid (Blk.below KT.out b6)
        replace BB := Lib.hid (bt BB.out b6)
        replace hown := Lib.hid hown.row
        clear b6 kt1
        go_wp2_with ((with_reducible show wpList _ _ _ (⟨_, .load 22 _, _, _, _, _⟩ :: _) _ _); (with_reducible refine wpBlk_load (g := w.heap.size) agg_b32 ?_ ?_ K5 ?_ ?_); (· (first | exact wanted0 rfl | exact wantedY rfl rfl rfl | (simp [Region.wanted, yielded]; done))); (· exact ⟨rfl, rfl⟩); (· exact KS.out))
        rw [hkv.out]
        ((with_reducible refine (rclose_any key (byeB q) A6 5 c6 1 _ KL.out KB.out (bye_len q HQ.out) hown.out (by decide)).mono ?_))
        rintro e w7 ⟨⟨A7, c7, rfl, own7⟩, b7⟩
        rw [← hkv.out]
        replace K5 := Lib.hid (K5.out.below b7)
        replace KT := Lib.hid (Blk.below KT.out b7)
        replace BB := Lib.hid (bt BB.out b7)
        have LN : (byeB q ++ tagOf key 1 (byeB q)).length = 13 := by rw [List.length_append, bye_len q HQ.out, tagOf_len]
        have h13 : Hid (13 ≤ c7 ∧ c7 ≤ 9223372036854775807) := Lib.hid (by have := own_cap8 own7; rw [LN] at this; exact this)
        obtain ⟨g7, cur, rfl, -, kb7, hcur, -⟩ := own_blk own7 (by omega)
        have K7 := Lib.hid kb7
        have R7 : Hid (∀ W, Blk W g7 cur 5 → Row W (some ⟨g7, 0, none⟩) (byeB q ++ tagOf key 1 (byeB q))) := Lib.hid (by
          intro W k
          have := row_cur k hcur own7.row.2 0 13
          rwa [List.drop_zero, List.take_of_length_le (by omega)] at this)
        have n7 : Hid (g7 ≠ g) := Lib.hid (blk_ne K7.out KT.out (by decide))
        clear own7 b7 kb7 hcur LN hown CP BM
        have kt1 : TabB w7 g (rT1 key) := KT.out
        go_wp2_with fail
        ((with_reducible refine (ref_take2 g key q _ c7 _ KL.out KB.out HQ.out kt1 h13.out.1 h13.out.2 (R7.out _ K7.out) (RT.out.below BB.out)).mono ?_))
        rintro e w8 ⟨rfl, kt, o8⟩
        replace K5 := Lib.hid (o8.blk K5.out (Nat.ne_of_lt l6))
        replace K7 := Lib.hid (o8.blk K7.out n7.out)
        replace BB := Lib.hid (BB.out.trans (o8.bel _ (Nat.le_of_lt l6) BB.out.size))
        replace KT := Lib.hid kt
        clear kt o8 kt1
        go_wp2_with (((with_reducible show wpList _ _ _ (⟨_, .alloc 66, _, _, _, none⟩ :: _) _ _); (with_reducible refine wpRow_alloc zeroT_msgy ?_ ?_ ?_); (· exact wanted0 rfl); (· rfl); refine Marker.mk ?_))
        refine Marker.in ?_
        have lg9 := Blk.lt KT.out
        have l79 := K7.out.lt
        have l59 := K5.out.lt
        have K9 := Lib.hid (Blk.new w8 (msgV (z12 0)) 66)
        have bel := below_alloc1 w8 (.cells (msgV (z12 0)) 66)
        replace K5 := Lib.hid (K5.out.below bel)
        replace K7 := Lib.hid (K7.out.below bel)
        replace KT := Lib.hid (Blk.below KT.out bel)
        replace BB := Lib.hid (bt BB.out bel)
        clear bel
        generalize w8.alloc (.cells (msgV (z12 0)) 66) = w10 at *
        generalize w8.heap.size = g18 at *
        go_wp2_with (((with_reducible show wpList _ _ _ (⟨_, .store 66 _ _, _, _, _, none⟩ :: _) _ _); (with_reducible refine wpBlk_store (g := g18) (cs := msgV (byeL q)) agg_msg ?_ ?_ K9 ?_ ?_ ?_ ?_); (· exact wanted0 rfl); (· exact ⟨rfl, rfl, rfl⟩); (· exact msgV_size _); (· exact msgV_size _); (· exact msgV_one _); refine Marker.mk ?_))
        refine Marker.in ?_
        replace K5 := Lib.hid (Blk.setRow_other K5.out g18 (msgV (byeL q)) (by omega))
        replace K7 := Lib.hid (Blk.setRow_other K7.out g18 (msgV (byeL q)) (by omega))
        replace KT := Lib.hid (Blk.setRow_other KT.out g18 (msgV (byeL q)) (by omega))
        replace BB := Lib.hid (below_setRow (g := g18) BB.out (by omega) (msgV (byeL q)))
        have K18 := Lib.hid (K9.out.setRow (msgV (byeL q)))
        have n18 : g18 ≠ g := by omega
        have n18b : g ≠ g18 := by omega
        clear K9 lg9 l79 l59
        generalize w10.setRow g18 (msgV (byeL q)) = w11 at *
        have kt1 : TabB w11 g (rT2 key q) := KT.out
        go_wp2_with fail
        ((with_reducible refine (ref_tick1 g key q _ KL.out KB.out HQ.out kt1).mono ?_))
        rintro e w12 ⟨rfl, kt, o8⟩
        replace K5 := Lib.hid (o8.blk K5.out (Nat.ne_of_lt l6))
        replace K7 := Lib.hid (o8.blk K7.out n7.out)
        replace K18 := Lib.hid (o8.blk K18.out n18)
        replace BB := Lib.hid (BB.out.trans (o8.bel _ (Nat.le_of_lt l6) BB.out.size))
        clear o8 kt1 KT
        go_wp2_with fail
        ((with_reducible refine (ref_take3 g key q _ c7 _ KL.out KB.out HQ.out kt h13.out.1 h13.out.2 (R7.out _ K7.out) (RT.out.below BB.out)).mono ?_))
        rintro e w13 ⟨rfl, kt2, o8⟩
        replace K18 := Lib.hid (o8.blk K18.out n18)
        replace BB := Lib.hid (BB.out.trans (o8.bel _ (Nat.le_of_lt l6) BB.out.size))
        have KT := Lib.hid kt2
        clear o8 kt kt2 K5 K7
        go_wp2_with (((with_reducible show wpList _ _ _ (⟨_, .alloc 66, _, _, _, none⟩ :: _) _ _); (with_reducible refine wpRow_alloc zeroT_msgy ?_ ?_ ?_); (· exact wanted0 rfl); (· rfl); refine Marker.mk ?_))
        refine Marker.in ?_
        have lg9 := Blk.lt KT.out
        have l18 := K18.out.lt
        have K9 := Lib.hid (Blk.new w13 (msgV (z12 0)) 66)
        have bel := below_alloc1 w13 (.cells (msgV (z12 0)) 66)
        replace K18 := Lib.hid (K18.out.below bel)
        replace KT := Lib.hid (Blk.below KT.out bel)
        replace BB := Lib.hid (bt BB.out bel)
        clear bel
        have lb13 : w.heap.size ≤ w13.heap.size := by omega
        generalize w13.alloc (.cells (msgV (z12 0)) 66) = w14 at *
        generalize w13.heap.size = g20 at *
        go_wp2_with (((with_reducible show wpList _ _ _ (⟨_, .store 66 _ _, _, _, _, none⟩ :: _) _ _); (with_reducible refine wpBlk_store (g := g20) (cs := msgV (z12 0)) agg_msg ?_ ?_ K9 ?_ ?_ ?_ ?_); (· exact wanted0 rfl); (· exact ⟨rfl, rfl, rfl⟩); (· exact msgV_size _); (· exact msgV_size _); (· exact msgV_one _); refine Marker.mk ?_))
        refine Marker.in ?_
        replace K18 := Lib.hid (Blk.setRow_other K18.out g20 (msgV (z12 0)) (by omega))
        replace KT := Lib.hid (Blk.setRow_other KT.out g20 (msgV (z12 0)) (by omega))
        replace BB := Lib.hid (below_setRow (g := g20) BB.out (by omega) (msgV (z12 0)))
        clear K9 lg9 l18 lb13
        generalize w14.setRow g20 (msgV (z12 0)) = w15 at *
        have kt1 : TabB w15 g (rT3 key q) := KT.out
        go_wp2_with fail
        ((with_reducible refine (ref_tick2 g key q _ KL.out KB.out HQ.out kt1).mono ?_))
        rintro e w16 ⟨r, cr, hr9, rfl, cr0, kt, o8⟩
        replace K18 := Lib.hid (o8.blk K18.out n18)
        replace BB := Lib.hid (BB.out.trans (o8.bel _ (Nat.le_of_lt l6) BB.out.size))
        clear o8 kt1 KT hr9
        have f0 : w16.cell? ⟨g18, 0, none⟩ = some (.int .i64 4) := by rw [K18.out.cell]; rfl
        have f1 : w16.cell? ⟨g18, 1, none⟩ = some (.int .i64 q) := by rw [K18.out.cell]; rfl
        go_wp2_with fail
        ((with_reducible refine (ref_on4 g key q _ KL.out KB.out HQ.out kt).mono ?_))
        rintro e w17 ⟨rfl, rfl⟩
        go_wp2_with fail
        go_ret
        exact ⟨rfl, BB.out⟩
    ·
      have t1 : decide ((i : Int) < (m : Int)) = false := decide_eq_false (by omega)
      have kt1 : TabB wr g (rT1 key) := KT.out
      go_wp2_with (((with_reducible show wpList _ _ _ (⟨some 88, _, _, _, _, _⟩ :: _) _ _); refine wpList_build' rfl 66 _ rfl (msgV (byeL q)) BM.out ?_))
      ((with_reducible refine (CP.out _).mono ?_))
      rintro e w6 hp
      unfold RPutP at hp
      rw [bye_put q HQ.out] at hp
      obtain ⟨⟨A6, c6, base6, rfl, hown⟩, b6⟩ := hp
      rw [bye_len q HQ.out]
      replace K5 := Lib.hid (K5.out.below b6)
      replace KT := Lib.hid (Blk.below KT.out b6)
      replace BB := Lib.hid (bt BB.out b6)
      replace hown := Lib.hid hown.row
      clear b6 kt1
      go_wp2_with ((with_reducible show wpList _ _ _ (⟨_, .load 22 _, _, _, _, _⟩ :: _) _ _); (with_reducible refine wpBlk_load (g := w.heap.size) agg_b32 ?_ ?_ K5 ?_ ?_); (· (first | exact wanted0 rfl | exact wantedY rfl rfl rfl | (simp [Region.wanted, yielded]; done))); (· exact ⟨rfl, rfl⟩); (· exact KS.out))
      rw [hkv.out]
      ((with_reducible refine (rclose_any key (byeB q) A6 5 c6 1 _ KL.out KB.out (bye_len q HQ.out) hown.out (by decide)).mono ?_))
      rintro e w7 ⟨⟨A7, c7, rfl, own7⟩, b7⟩
      rw [← hkv.out]
      replace K5 := Lib.hid (K5.out.below b7)
      replace KT := Lib.hid (Blk.below KT.out b7)
      replace BB := Lib.hid (bt BB.out b7)
      have LN : (byeB q ++ tagOf key 1 (byeB q)).length = 13 := by rw [List.length_append, bye_len q HQ.out, tagOf_len]
      have h13 : Hid (13 ≤ c7 ∧ c7 ≤ 9223372036854775807) := Lib.hid (by have := own_cap8 own7; rw [LN] at this; exact this)
      obtain ⟨g7, cur, rfl, -, kb7, hcur, -⟩ := own_blk own7 (by omega)
      have K7 := Lib.hid kb7
      have R7 : Hid (∀ W, Blk W g7 cur 5 → Row W (some ⟨g7, 0, none⟩) (byeB q ++ tagOf key 1 (byeB q))) := Lib.hid (by
        intro W k
        have := row_cur k hcur own7.row.2 0 13
        rwa [List.drop_zero, List.take_of_length_le (by omega)] at this)
      have n7 : Hid (g7 ≠ g) := Lib.hid (blk_ne K7.out KT.out (by decide))
      clear own7 b7 kb7 hcur LN hown CP BM
      have kt1 : TabB w7 g (rT1 key) := KT.out
      go_wp2_with fail
      ((with_reducible refine (ref_take2 g key q _ c7 _ KL.out KB.out HQ.out kt1 h13.out.1 h13.out.2 (R7.out _ K7.out) (RT.out.below BB.out)).mono ?_))
      rintro e w8 ⟨rfl, kt, o8⟩
      replace K5 := Lib.hid (o8.blk K5.out (Nat.ne_of_lt l6))
      replace K7 := Lib.hid (o8.blk K7.out n7.out)
      replace BB := Lib.hid (BB.out.trans (o8.bel _ (Nat.le_of_lt l6) BB.out.size))
      replace KT := Lib.hid kt
      clear kt o8 kt1
      go_wp2_with (((with_reducible show wpList _ _ _ (⟨_, .alloc 66, _, _, _, none⟩ :: _) _ _); (with_reducible refine wpRow_alloc zeroT_msgy ?_ ?_ ?_); (· exact wanted0 rfl); (· rfl); refine Marker.mk ?_))
      refine Marker.in ?_
      have lg9 := Blk.lt KT.out
      have l79 := K7.out.lt
      have l59 := K5.out.lt
      have K9 := Lib.hid (Blk.new w8 (msgV (z12 0)) 66)
      have bel := below_alloc1 w8 (.cells (msgV (z12 0)) 66)
      replace K5 := Lib.hid (K5.out.below bel)
      replace K7 := Lib.hid (K7.out.below bel)
      replace KT := Lib.hid (Blk.below KT.out bel)
      replace BB := Lib.hid (bt BB.out bel)
      clear bel
      generalize w8.alloc (.cells (msgV (z12 0)) 66) = w10 at *
      generalize w8.heap.size = g18 at *
      go_wp2_with (((with_reducible show wpList _ _ _ (⟨_, .store 66 _ _, _, _, _, none⟩ :: _) _ _); (with_reducible refine wpBlk_store (g := g18) (cs := msgV (byeL q)) agg_msg ?_ ?_ K9 ?_ ?_ ?_ ?_); (· exact wanted0 rfl); (· exact ⟨rfl, rfl, rfl⟩); (· exact msgV_size _); (· exact msgV_size _); (· exact msgV_one _); refine Marker.mk ?_))
      refine Marker.in ?_
      replace K5 := Lib.hid (Blk.setRow_other K5.out g18 (msgV (byeL q)) (by omega))
      replace K7 := Lib.hid (Blk.setRow_other K7.out g18 (msgV (byeL q)) (by omega))
      replace KT := Lib.hid (Blk.setRow_other KT.out g18 (msgV (byeL q)) (by omega))
      replace BB := Lib.hid (below_setRow (g := g18) BB.out (by omega) (msgV (byeL q)))
      have K18 := Lib.hid (K9.out.setRow (msgV (byeL q)))
      have n18 : g18 ≠ g := by omega
      have n18b : g ≠ g18 := by omega
      clear K9 lg9 l79 l59
      generalize w10.setRow g18 (msgV (byeL q)) = w11 at *
      have kt1 : TabB w11 g (rT2 key q) := KT.out
      go_wp2_with fail
      ((with_reducible refine (ref_tick1 g key q _ KL.out KB.out HQ.out kt1).mono ?_))
      rintro e w12 ⟨rfl, kt, o8⟩
      replace K5 := Lib.hid (o8.blk K5.out (Nat.ne_of_lt l6))
      replace K7 := Lib.hid (o8.blk K7.out n7.out)
      replace K18 := Lib.hid (o8.blk K18.out n18)
      replace BB := Lib.hid (BB.out.trans (o8.bel _ (Nat.le_of_lt l6) BB.out.size))
      clear o8 kt1 KT
      go_wp2_with fail
      ((with_reducible refine (ref_take3 g key q _ c7 _ KL.out KB.out HQ.out kt h13.out.1 h13.out.2 (R7.out _ K7.out) (RT.out.below BB.out)).mono ?_))
      rintro e w13 ⟨rfl, kt2, o8⟩
      replace K18 := Lib.hid (o8.blk K18.out n18)
      replace BB := Lib.hid (BB.out.trans (o8.bel _ (Nat.le_of_lt l6) BB.out.size))
      have KT := Lib.hid kt2
      clear o8 kt kt2 K5 K7
      go_wp2_with (((with_reducible show wpList _ _ _ (⟨_, .alloc 66, _, _, _, none⟩ :: _) _ _); (with_reducible refine wpRow_alloc zeroT_msgy ?_ ?_ ?_); (· exact wanted0 rfl); (· rfl); refine Marker.mk ?_))
      refine Marker.in ?_
      have lg9 := Blk.lt KT.out
      have l18 := K18.out.lt
      have K9 := Lib.hid (Blk.new w13 (msgV (z12 0)) 66)
      have bel := below_alloc1 w13 (.cells (msgV (z12 0)) 66)
      replace K18 := Lib.hid (K18.out.below bel)
      replace KT := Lib.hid (Blk.below KT.out bel)
      replace BB := Lib.hid (bt BB.out bel)
      clear bel
      have lb13 : w.heap.size ≤ w13.heap.size := by omega
      generalize w13.alloc (.cells (msgV (z12 0)) 66) = w14 at *
      generalize w13.heap.size = g20 at *
      go_wp2_with (((with_reducible show wpList _ _ _ (⟨_, .store 66 _ _, _, _, _, none⟩ :: _) _ _); (with_reducible refine wpBlk_store (g := g20) (cs := msgV (z12 0)) agg_msg ?_ ?_ K9 ?_ ?_ ?_ ?_); (· exact wanted0 rfl); (· exact ⟨rfl, rfl, rfl⟩); (· exact msgV_size _); (· exact msgV_size _); (· exact msgV_one _); refine Marker.mk ?_))
      refine Marker.in ?_
      replace K18 := Lib.hid (Blk.setRow_other K18.out g20 (msgV (z12 0)) (by omega))
      replace KT := Lib.hid (Blk.setRow_other KT.out g20 (msgV (z12 0)) (by omega))
      replace BB := Lib.hid (below_setRow (g := g20) BB.out (by omega) (msgV (z12 0)))
      clear K9 lg9 l18 lb13
      generalize w14.setRow g20 (msgV (z12 0)) = w15 at *
      have kt1 : TabB w15 g (rT3 key q) := KT.out
      go_wp2_with fail
      ((with_reducible refine (ref_tick2 g key q _ KL.out KB.out HQ.out kt1).mono ?_))
      rintro e w16 ⟨r, cr, hr9, rfl, cr0, kt, o8⟩
      replace K18 := Lib.hid (o8.blk K18.out n18)
      replace BB := Lib.hid (BB.out.trans (o8.bel _ (Nat.le_of_lt l6) BB.out.size))
      clear o8 kt1 KT hr9
      have f0 : w16.cell? ⟨g18, 0, none⟩ = some (.int .i64 4) := by rw [K18.out.cell]; rfl
      have f1 : w16.cell? ⟨g18, 1, none⟩ = some (.int .i64 q) := by rw [K18.out.cell]; rfl
      go_wp2_with fail
      ((with_reducible refine (ref_on4 g key q _ KL.out KB.out HQ.out kt).mono ?_))
      rintro e w17 ⟨rfl, rfl⟩
      go_wp2_with fail
      go_ret
      exact ⟨rfl, BB.out⟩
end Go.Proofs.YtapednkmefbldaaDoor
