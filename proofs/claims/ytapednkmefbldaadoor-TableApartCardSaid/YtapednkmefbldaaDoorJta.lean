/- Several texts in one. -/
import Derived.Test.YtapednkmefbldaaDoorNum
import Derived.Test.YtapednkmefbldaaDoorWin
import Derived.Test.YtapednkmefbldaaDoorStep
import Derived.Test.YtapednkmefbldaaDoorMinMax
import Derived.Test.YtapednkmefbldaaDoorCopy
import Derived.Deep.MidRow
import Derived.Test.YtapednkmefbldaaDoorQt
import Derived.Test.YtapednkmefbldaaDoorMacO

/- The table: its cells; tick's timers; whether one is there. -/
namespace Go.Proofs.YtapednkmefbldaaDoor
open Go.RowKit

def wcells : Option (Nat × Nat) → List Value
  | none => [.bool false, .int .i64 0, .int .u64 0]
  | some (h, s) => [.bool true, .int .i64 h, .int .u64 s]
theorem wval_cells (v : Option (Nat × Nat)) : wval v = .agg (wcells v).toArray := by rcases v with _ | ⟨h, s⟩ <;> rfl
theorem wcells_len (v : Option (Nat × Nat)) : (wcells v).length = 3 := by rcases v with _ | ⟨h, s⟩ <;> rfl
/-- a session: whether it is on, how long it is silent and may be, its role, key, window -/
structure Ses where
  on : Bool
  (a m r : Int)
  key : List Int
  win : Option (Nat × Nat)
def prs (on : Bool) (a m : Int) : List Value := [.bool on, .int .i64 a, .int .i64 m]
def Ses.v (s : Ses) : List Value := prs s.on s.a s.m ++ ([.int .i64 s.r] ++ (s.key.map (Value.int .u8) ++ wcells s.win))
def ses0 : Ses := ⟨false, 0, 0, 0, zeros 32, none⟩
structure Ses.ok (s : Ses) : Prop where
  len : s.key.length = 32
  bytes : ∀ x ∈ s.key, 0 ≤ x ∧ x ≤ 255
  win : wok s.win
theorem ses0_ok : ses0.ok := ⟨rfl, zeros_bytes 32, trivial⟩
theorem Ses.v_len {s : Ses} (h : s.key.length = 32) : s.v.length = 39 := by simp [Ses.v, prs, h, wcells_len]
structure Tab where
  son : Bool
  (sa sm : Int)
  (s0 s1 s2 : Ses)
  (beat most : Int)
def Tab.ses (T : Tab) : Nat → Ses
  | 0 => T.s0
  | 1 => T.s1
  | _ => T.s2
def Tab.put (T : Tab) : Nat → Ses → Tab
  | 0, s => { T with s0 := s }
  | 1, s => { T with s1 := s }
  | _, s => { T with s2 := s }
def Tab.hd (T : Tab) : List Value := [.bool T.son, .int .i64 T.sa, .int .i64 T.sm]
def Tab.tl (T : Tab) : List Value := [.int .i64 T.beat, .int .i64 T.most]
def Tab.v (T : Tab) : List Value := T.hd ++ (T.s0.v ++ (T.s1.v ++ (T.s2.v ++ T.tl)))
def Tab.pre (T : Tab) : Nat → List Value
  | 0 => T.hd
  | 1 => T.hd ++ T.s0.v
  | _ => T.hd ++ T.s0.v ++ T.s1.v
def Tab.post (T : Tab) : Nat → List Value
  | 0 => T.s1.v ++ (T.s2.v ++ T.tl)
  | 1 => T.s2.v ++ T.tl
  | _ => T.tl
structure Tab.ok (T : Tab) : Prop where
  s0 : T.s0.ok
  s1 : T.s1.ok
  s2 : T.s2.ok
theorem Tab.ok.ses {T : Tab} (h : T.ok) (i : Nat) : (T.ses i).ok := by
  match i with
  | 0 => exact h.s0
  | 1 => exact h.s1
  | _ + 2 => exact h.s2
theorem Tab.ok.put {T : Tab} (h : T.ok) (i : Nat) {s : Ses} (hs : s.ok) : (T.put i s).ok := by
  match i with
  | 0 => exact ⟨hs, h.s1, h.s2⟩
  | 1 => exact ⟨h.s0, hs, h.s2⟩
  | _ + 2 => exact ⟨h.s0, h.s1, hs⟩
theorem Tab.v_split (T : Tab) (i : Nat) : T.v = T.pre i ++ ((T.ses i).v ++ T.post i) := by
  match i with
  | 0 => rfl
  | 1 => simp [Tab.v, Tab.pre, Tab.post, Tab.ses]
  | _ + 2 => simp [Tab.v, Tab.pre, Tab.post, Tab.ses]
theorem Tab.put_split (T : Tab) (i : Nat) (s : Ses) : (T.put i s).v = T.pre i ++ (s.v ++ T.post i) := by
  match i with
  | 0 => rfl
  | 1 => simp [Tab.v, Tab.pre, Tab.post, Tab.put, Tab.hd, Tab.tl]
  | _ + 2 => simp [Tab.v, Tab.pre, Tab.post, Tab.put, Tab.hd, Tab.tl]
/-- where a session lies -/
def so (i : Nat) : Nat := match i with | 0 => 3 | 1 => 42 | _ => 81
theorem Tab.pre_len {T : Tab} (h : T.ok) (i : Nat) : (T.pre i).length = so i := by
  match i with
  | 0 => rfl
  | 1 => simp [Tab.pre, so, Tab.hd, Ses.v_len h.s0.len]
  | _ + 2 => simp [Tab.pre, so, Tab.hd, Ses.v_len h.s0.len, Ses.v_len h.s1.len]
def TabB (W : World) (g : Nat) (T : Tab) : Prop := Blk W g T.v.toArray 101

/-! ### a part of a block -/
theorem blk_mid {W : World} {g o : Nat} {pre old post : List Value} {S : TypeId} (K : Blk W g (pre ++ (old ++ post)).toArray S) (ho : pre.length = o) (j : Nat) (hj : j < old.length) : W.cell? ⟨g, o + j, none⟩ = old[j]? := by
  rw [K.cell (o + j), List.getElem?_toArray, List.getElem?_append_right (by omega), List.getElem?_append_left (by omega)]
  congr 1
  omega
theorem blk_there {W : World} {g o n : Nat} {cs : Array Value} {S : TypeId} (K : Blk W g cs S) (h : o + n ≤ cs.size) : W.there g o n := fun j hj => by
  refine ⟨?_, K.frozen _⟩
  rw [K.cell, Array.getElem?_eq_getElem (by omega)]
  rfl
/-- what a walk leaves that wrote in block g alone -/
structure Only (g : Nat) (W w' : World) : Prop where
  size : W.heap.size ≤ w'.heap.size
  keep : ∀ k, k ≠ g → k < W.heap.size → w'.heap[k]? = W.heap[k]?
  bel : ∀ b, b ≤ g → b ≤ W.heap.size → Below b W w'
theorem Only.refl (g : Nat) (W : World) : Only g W W := ⟨Nat.le_refl _, fun _ _ _ => rfl, fun _ _ _ => Below.refl _ _⟩
theorem Only.trans {g : Nat} {a b c : World} (h : Only g a b) (k : Only g b c) : Only g a c :=
  ⟨Nat.le_trans h.size k.size, fun i hi hl => (k.keep i hi (Nat.lt_of_lt_of_le hl h.size)).trans (h.keep i hi hl), fun i hi hl => (h.bel i hi hl).trans (k.bel i hi (Nat.le_trans hl h.size))⟩
theorem Only.of_below {g : Nat} {W w' : World} (h : Below W.heap.size W w') : Only g W w' :=
  ⟨h.size, fun k _ hl => h.block k hl, fun b _ hb => h.mono hb⟩
theorem Only.blk {g g2 : Nat} {W w' : World} {cs : Array Value} {S : TypeId} (h : Only g W w') (K : Blk W g2 cs S) (hne : g2 ≠ g) : Blk w' g2 cs S := (h.keep g2 hne K.lt).trans K
theorem only_cell {g : Nat} {W : World} (p : Nat) (v : Value) : Only g W (W.setCell ⟨g, p, none⟩ v) :=
  ⟨by simp [World.setCell], fun k hk _ => Below.heap_setCell _ _ _ _ hk, fun b hb _ => (Below.refl b W).setCell (p := ⟨g, p, none⟩) hb v⟩
theorem only_cells {g : Nat} : ∀ (vs : List Value) (o : Nat) (W : World), Only g W (W.setCells g o vs)
  | [], _, W => Only.refl g W
  | v :: r, o, W => (only_cell o v).trans (only_cells r (o + 1) _)
theorem blk_setMid {g : Nat} {post : List Value} {S : TypeId} : ∀ (vs old pre : List Value) (o : Nat) (W : World), Blk W g (pre ++ (old ++ post)).toArray S → vs.length = old.length → pre.length = o → Blk (W.setCells g o vs) g (pre ++ (vs ++ post)).toArray S
  | [], old, pre, o, W, K, hl, ho => by
    have : old = [] := List.eq_nil_of_length_eq_zero hl.symm
    subst this
    exact K
  | v :: vs, [], pre, o, W, K, hl, ho => by simp at hl
  | v :: vs, x :: old, pre, o, W, K, hl, ho => by
    have k1 := K.set o v
    have e : (pre ++ (x :: old ++ post)).toArray.setIfInBounds o v = ((pre ++ [v]) ++ (old ++ post)).toArray := by
      rw [List.setIfInBounds_toArray]
      congr 1
      rw [List.set_append_right _ _ (by omega), ho, Nat.sub_self]
      simp
    rw [e] at k1
    have k2 := blk_setMid vs old (pre ++ [v]) (o + 1) _ k1 (by simpa using hl) (by simp [ho])
    rw [World.setCells]
    simpa using k2

/-! ### tick -/
theorem agg_timer : AggT Tryd.prog 91 2 := ⟨⟨_, Tryd.underlying91, rfl⟩, by kernel_rfl⟩
set_option maxRecDepth 100000 in
set_option maxHeartbeats 400000 in
theorem tick_start (most : Int) (w : World) :
    Calls Tryd.prog 60 #[.int .i64 most] w fun e w' => e = .returned (.agg #[.int .i64 0, .int .i64 (max most 0)]) ∧ Below w.heap.size w w' := by
  obtain ⟨mb, hmb⟩ : ∃ m, max most 0 = m := ⟨_, rfl⟩
  rw [hmb]
  go_enter Tryd.func60, Tryd.ntmps60
  go_wp2_with ((with_reducible refine wpList_max (p := most) (q := 0) (r := mb) _ _ _ rfl rfl ?_ ?_ ?_ ?_); (· rfl); (· rfl); (· exact hmb))
  refine bodyPost_ret (by simp [results, Tryd.results60, go_sem]) rfl ⟨rfl, ?_⟩
  exact below_alloc1 w _
set_option maxRecDepth 100000 in
set_option maxHeartbeats 400000 in
theorem tick_step (a m : Int) (w : World) (h1 : -9223372036854775808 ≤ a) (h3 : m ≤ 9223372036854775807) :
    Calls Tryd.prog 65 #[.agg #[.int .i64 a, .int .i64 m]] w fun e w' => e = .returned (.agg #[.int .i64 (sat a m), .int .i64 m]) ∧ Below w.heap.size w w' := by
  have CS := Lib.hid (fun W => sat_any a m W h1 h3)
  generalize sat a m = r at *
  clear h1 h3
  go_enter Tryd.func65, Tryd.ntmps65
  go_wp2_with fail
  ((with_reducible refine (CS.out _).mono ?_))
  rintro e w' ⟨rfl, rfl⟩
  go_wp2_with fail
  refine bodyPost_ret (by simp [results, Tryd.results65, go_sem]) rfl ⟨rfl, ?_⟩
  exact below_alloc2 w _ _
set_option maxRecDepth 100000 in
set_option maxHeartbeats 400000 in
theorem tick_due (a m : Int) (w : World) :
    Calls Tryd.prog 66 #[.agg #[.int .i64 a, .int .i64 m]] w fun e w' => e = .returned (.bool (decide (m ≤ a))) ∧ Below w.heap.size w w' := by
  obtain ⟨b, hb⟩ : ∃ b, decide (m ≤ a) = b := ⟨_, rfl⟩
  rw [hb]
  go_enter Tryd.func66, Tryd.ntmps66
  go_wp2_with fail
  go_ret
  exact ⟨rfl, below_alloc1 w _⟩

/-! ### whether one is there -/
set_option maxRecDepth 100000 in
set_option maxHeartbeats 400000 in
theorem heard_any (g o : Nat) (pre post : List Value) (x y z : Value) (S : TypeId) (beat : Int) (w : World) (K : Blk w g (pre ++ ([x, y, z] ++ post)).toArray S) (ho : pre.length = o) :
    Calls Tryd.prog 49 #[.pointer (some ⟨g, o, none⟩), .int .i64 beat] w fun e w' => e = .returned (.tuple #[]) ∧ Blk w' g (pre ++ (prs true 0 (max beat 0) ++ post)).toArray S ∧ Only g w w' := by
  have c0 : w.cell? ⟨g, o, none⟩ = some x := blk_mid (old := [x, y, z]) K ho 0 (by simp)
  have f0 : w.frozen? ⟨g, o, none⟩ = false := K.frozen o
  have K1 : Hid (Blk (w.setCell ⟨g, o, none⟩ (.bool true)) g (pre ++ ([Value.bool true, y, z] ++ post)).toArray S) := Lib.hid (blk_setMid (post := [y, z] ++ post) [.bool true] [x] pre o w (by simpa using K) rfl ho)
  have ON := Lib.hid (only_cell (g := g) (W := w) o (.bool true))
  have HO := Lib.hid ho
  have CT := Lib.hid (fun W => tick_start beat W)
  generalize max beat 0 = mb at *
  clear K ho
  go_enter Tryd.func49, Tryd.ntmps49
  go_wp2_with fail
  clear c0 f0
  generalize w.setCell ⟨g, o, none⟩ (.bool true) = w1 at *
  ((with_reducible refine (CT.out _).mono ?_))
  rintro e w2 ⟨rfl, b2⟩
  replace K1 := Lib.hid (K1.out.below b2)
  replace ON := Lib.hid (ON.out.trans (Only.of_below b2))
  clear b2 CT
  have K2 : Hid (Blk (w2.setCells g (o + 1) [.int .i64 0, .int .i64 mb]) g (pre ++ (prs true 0 mb ++ post)).toArray S) := Lib.hid (by
    have := blk_setMid (g := g) (post := post) (S := S) [.int .i64 0, .int .i64 mb] [y, z] (pre ++ [.bool true]) (o + 1) w2 (by simpa [prs] using K1.out) rfl (by simp [HO.out])
    simpa [prs] using this)
  have ON2 := Lib.hid (ON.out.trans (only_cells (g := g) [.int .i64 0, .int .i64 mb] (o + 1) w2))
  have HS : Hid (o + 1 + 2 ≤ (pre ++ ([Value.bool true, y, z] ++ post)).toArray.size) := Lib.hid (by have := HO.out; simp [prs]; omega)
  have c1 : w2.cell? ⟨g, o + 1, none⟩ = some y := blk_mid (old := [Value.bool true, y, z]) K1.out HO.out 1 (by simp)
  have c2 : w2.cell? ⟨g, o + 1 + 1, none⟩ = some z := blk_mid (old := [Value.bool true, y, z]) K1.out HO.out 2 (by simp)
  have f1 : w2.frozen? ⟨g, o + 1, none⟩ = false := K1.out.frozen _
  have f2 : w2.frozen? ⟨g, o + 1 + 1, none⟩ = false := K1.out.frozen _
  go_wp2_with fail
  go_end0
  exact ⟨rfl, K2.out, ON2.out⟩
set_option maxRecDepth 100000 in
set_option maxHeartbeats 400000 in
theorem over_off (g o : Nat) (pre post : List Value) (y z : Value) (S : TypeId) (w : World) (K : Blk w g (pre ++ ([Value.bool false, y, z] ++ post)).toArray S) (ho : pre.length = o) :
    Calls Tryd.prog 53 #[.pointer (some ⟨g, o, none⟩)] w fun e w' => e = .returned (.bool false) ∧ w = w' := by
  have c0 : w.cell? ⟨g, o, none⟩ = some (.bool false) := blk_mid (old := [Value.bool false, y, z]) K ho 0 (by simp)
  clear K ho
  go_enter Tryd.func53, Tryd.ntmps53
  go_wp2_with fail
  go_ret
  exact ⟨rfl, rfl⟩
set_option maxRecDepth 100000 in
set_option maxHeartbeats 800000 in
theorem over_on (g o : Nat) (pre post : List Value) (a m : Int) (S : TypeId) (w : World) (K : Blk w g (pre ++ (prs true a m ++ post)).toArray S) (ho : pre.length = o) (h1 : -9223372036854775808 ≤ a) (h3 : m ≤ 9223372036854775807) :
    Calls Tryd.prog 53 #[.pointer (some ⟨g, o, none⟩)] w fun e w' => e = .returned (.bool (decide (m ≤ sat a m))) ∧ Blk w' g (pre ++ (prs true (sat a m) m ++ post)).toArray S ∧ Only g w w' := by
  have c0 : w.cell? ⟨g, o, none⟩ = some (.bool true) := blk_mid (old := prs true a m) K ho 0 (by simp [prs])
  have c1 : w.cell? ⟨g, o + 1, none⟩ = some (.int .i64 a) := blk_mid (old := prs true a m) K ho 1 (by simp [prs])
  have c2 : w.cell? ⟨g, o + 2, none⟩ = some (.int .i64 m) := blk_mid (old := prs true a m) K ho 2 (by simp [prs])
  have CS := Lib.hid (fun W => tick_step a m W h1 h3)
  have CD := Lib.hid (fun W => tick_due (sat a m) m W)
  generalize sat a m = r at *
  generalize decide (m ≤ r) = rb at *
  have KK := Lib.hid K
  have HO := Lib.hid ho
  clear K ho h1 h3
  go_enter Tryd.func53, Tryd.ntmps53
  go_wp2_with fail
  ((with_reducible refine (CS.out _).mono ?_))
  rintro e w2 ⟨rfl, b2⟩
  replace KK := Lib.hid (KK.out.below b2)
  have ON : Hid (Only g w w2) := Lib.hid (Only.of_below b2)
  clear b2 CS c0 c1 c2
  have K2 : Hid (Blk (w2.setCells g (o + 1) [.int .i64 r, .int .i64 m]) g (pre ++ (prs true r m ++ post)).toArray S) := Lib.hid (by
    have := blk_setMid (g := g) (post := post) (S := S) [.int .i64 r, .int .i64 m] [.int .i64 a, .int .i64 m] (pre ++ [.bool true]) (o + 1) w2 (by simpa [prs] using KK.out) rfl (by simp [HO.out])
    simpa [prs] using this)
  have ON2 := Lib.hid (ON.out.trans (only_cells (g := g) [.int .i64 r, .int .i64 m] (o + 1) w2))
  have HS : Hid (o + 1 + 2 ≤ (pre ++ (prs true a m ++ post)).toArray.size) := Lib.hid (by have := HO.out; simp [prs]; omega)
  have c1 : w2.cell? ⟨g, o + 1, none⟩ = some (.int .i64 a) := blk_mid (old := prs true a m) KK.out HO.out 1 (by simp [prs])
  have c2 : w2.cell? ⟨g, o + 1 + 1, none⟩ = some (.int .i64 m) := blk_mid (old := prs true a m) KK.out HO.out 2 (by simp [prs])
  have f1 : w2.frozen? ⟨g, o + 1, none⟩ = false := KK.out.frozen _
  have f2 : w2.frozen? ⟨g, o + 1 + 1, none⟩ = false := KK.out.frozen _
  go_wp2_with ((with_reducible show wpList _ _ _ (⟨some 19, _, _, _, _, _⟩ :: _) _ _); refine Marker.mk ?_)
  refine Marker.in ?_
  clear c1 c2 f1 f2
  rw [show (w2.setCell ⟨g, o + 1, none⟩ (.int .i64 r)).setCell ⟨g, o + 1 + 1, none⟩ (.int .i64 m) = w2.setCells g (o + 1) [.int .i64 r, .int .i64 m] from rfl]
  generalize w2.setCells g (o + 1) [.int .i64 r, .int .i64 m] = w3 at *
  have c1 : w3.cell? ⟨g, o + 1, none⟩ = some (.int .i64 r) := blk_mid (old := prs true r m) K2.out HO.out 1 (by simp [prs])
  have c2 : w3.cell? ⟨g, o + 2, none⟩ = some (.int .i64 m) := blk_mid (old := prs true r m) K2.out HO.out 2 (by simp [prs])
  go_wp2_with fail
  ((with_reducible refine (CD.out _).mono ?_))
  rintro e w4 ⟨rfl, b4⟩
  go_wp2_with fail
  go_ret
  exact ⟨rfl, K2.out.below b4, ON2.out.trans (Only.of_below b4)⟩
end Go.Proofs.YtapednkmefbldaaDoor

/- The table's functions. -/
namespace Go.Proofs.YtapednkmefbldaaDoor
open Go.RowKit

/-- the cells of a session in its table -/
theorem tab_ses {W : World} {g : Nat} {T : Tab} (K : TabB W g T) (h : T.ok) (i j : Nat) (hj : j < 39) : W.cell? ⟨g, so i + j, none⟩ = (T.ses i).v[j]? := by
  unfold TabB at K
  rw [T.v_split i] at K
  exact blk_mid K (Tab.pre_len h i) j (by rw [Ses.v_len (h.ses i).len]; exact hj)
theorem tab_beat {W : World} {g : Nat} {T : Tab} (K : TabB W g T) (h : T.ok) : W.cell? ⟨g, 120, none⟩ = some (.int .i64 T.beat) ∧ W.cell? ⟨g, 121, none⟩ = some (.int .i64 T.most) := by
  have e : T.v = (T.hd ++ T.s0.v ++ T.s1.v ++ T.s2.v) ++ (T.tl ++ []) := by simp [Tab.v]
  unfold TabB at K
  rw [e] at K
  have hl : (T.hd ++ T.s0.v ++ T.s1.v ++ T.s2.v).length = 120 := by simp [Tab.hd, Ses.v_len h.s0.len, Ses.v_len h.s1.len, Ses.v_len h.s2.len]
  exact ⟨blk_mid K hl 0 (by simp [Tab.tl]), blk_mid K hl 1 (by simp [Tab.tl])⟩
theorem tab_son {W : World} {g : Nat} {T : Tab} (K : TabB W g T) : W.cell? ⟨g, 0, none⟩ = some (.bool T.son) := by
  unfold TabB at K
  rw [K.cell 0, List.getElem?_toArray]
  rfl
theorem tab_size {W : World} {g : Nat} {T : Tab} (_ : TabB W g T) (h : T.ok) : T.v.toArray.size = 122 := by
  simp [Tab.v, Tab.hd, Tab.tl, Ses.v_len h.s0.len, Ses.v_len h.s1.len, Ses.v_len h.s2.len]
theorem TabB.below {W w' : World} {g : Nat} {T : Tab} (K : TabB W g T) (hb : Below W.heap.size W w') : TabB w' g T := Blk.below K hb
/-- what 'of' tells -/
def Tab.of (T : Tab) (g : Nat) (src : Int) : Value :=
  if src = 1 ∨ src = 2 ∨ src = 3 then (if (T.ses (src - 1).toNat).on then .pointer (some ⟨g, so (src - 1).toNat, none⟩) else .pointer none) else .pointer none
set_option maxRecDepth 100000 in
set_option maxHeartbeats 400000 in
theorem tabf_of_out (g : Nat) (src : Int) (w : World) (h : src < 1 ∨ 3 < src) :
    Calls Tryd.prog 48 #[.pointer (some ⟨g, 0, none⟩), .int .i64 src] w fun e w' => e = .returned (.pointer none) ∧ w = w' := by
  by_cases h1 : src < 1
  · have d1 : decide (src < 1) = true := decide_eq_true h1
    go_enter Tryd.func48, Tryd.ntmps48
    go_wp2_with fail
    go_ret
    exact ⟨rfl, rfl⟩
  · have d1 : decide (src < 1) = false := decide_eq_false h1
    have d2 : decide (3 < src) = true := decide_eq_true (by omega)
    clear h
    go_enter Tryd.func48, Tryd.ntmps48
    go_wp2_with fail
    go_ret
    exact ⟨rfl, rfl⟩
set_option maxRecDepth 100000 in
set_option maxHeartbeats 400000 in
theorem tabf_of_1_true (g : Nat) (w : World) (c : w.cell? ⟨g, 3, none⟩ = some (.bool true)) :
    Calls Tryd.prog 48 #[.pointer (some ⟨g, 0, none⟩), .int .i64 1] w fun e w' => e = .returned (.pointer (some ⟨g, 3, none⟩)) ∧ w = w' := by
  go_enter Tryd.func48, Tryd.ntmps48
  go_wp2_with fail
  go_ret
  exact ⟨rfl, rfl⟩
set_option maxRecDepth 100000 in
set_option maxHeartbeats 400000 in
theorem tabf_of_1_false (g : Nat) (w : World) (c : w.cell? ⟨g, 3, none⟩ = some (.bool false)) :
    Calls Tryd.prog 48 #[.pointer (some ⟨g, 0, none⟩), .int .i64 1] w fun e w' => e = .returned (.pointer none) ∧ w = w' := by
  go_enter Tryd.func48, Tryd.ntmps48
  go_wp2_with fail
  go_ret
  exact ⟨rfl, rfl⟩
set_option maxRecDepth 100000 in
set_option maxHeartbeats 400000 in
theorem tabf_of_2_true (g : Nat) (w : World) (c : w.cell? ⟨g, 42, none⟩ = some (.bool true)) :
    Calls Tryd.prog 48 #[.pointer (some ⟨g, 0, none⟩), .int .i64 2] w fun e w' => e = .returned (.pointer (some ⟨g, 42, none⟩)) ∧ w = w' := by
  go_enter Tryd.func48, Tryd.ntmps48
  go_wp2_with fail
  go_ret
  exact ⟨rfl, rfl⟩
set_option maxRecDepth 100000 in
set_option maxHeartbeats 400000 in
theorem tabf_of_2_false (g : Nat) (w : World) (c : w.cell? ⟨g, 42, none⟩ = some (.bool false)) :
    Calls Tryd.prog 48 #[.pointer (some ⟨g, 0, none⟩), .int .i64 2] w fun e w' => e = .returned (.pointer none) ∧ w = w' := by
  go_enter Tryd.func48, Tryd.ntmps48
  go_wp2_with fail
  go_ret
  exact ⟨rfl, rfl⟩
set_option maxRecDepth 100000 in
set_option maxHeartbeats 400000 in
theorem tabf_of_3_true (g : Nat) (w : World) (c : w.cell? ⟨g, 81, none⟩ = some (.bool true)) :
    Calls Tryd.prog 48 #[.pointer (some ⟨g, 0, none⟩), .int .i64 3] w fun e w' => e = .returned (.pointer (some ⟨g, 81, none⟩)) ∧ w = w' := by
  go_enter Tryd.func48, Tryd.ntmps48
  go_wp2_with fail
  go_ret
  exact ⟨rfl, rfl⟩
set_option maxRecDepth 100000 in
set_option maxHeartbeats 400000 in
theorem tabf_of_3_false (g : Nat) (w : World) (c : w.cell? ⟨g, 81, none⟩ = some (.bool false)) :
    Calls Tryd.prog 48 #[.pointer (some ⟨g, 0, none⟩), .int .i64 3] w fun e w' => e = .returned (.pointer none) ∧ w = w' := by
  go_enter Tryd.func48, Tryd.ntmps48
  go_wp2_with fail
  go_ret
  exact ⟨rfl, rfl⟩
theorem tabf_of (g : Nat) (T : Tab) (src : Int) (w : World) (K : TabB w g T) (h : T.ok) :
    Calls Tryd.prog 48 #[.pointer (some ⟨g, 0, none⟩), .int .i64 src] w fun e w' => e = .returned (T.of g src) ∧ w = w' := by
  unfold Tab.of
  by_cases hs : src = 1 ∨ src = 2 ∨ src = 3
  · rw [if_pos hs]
    have c := tab_ses K h (src - 1).toNat 0 (by omega)
    rcases hs with rfl | rfl | rfl
    · replace c : w.cell? ⟨g, 3, none⟩ = some (.bool (T.ses 0).on) := c
      show Calls _ _ _ _ fun e w' => e = .returned (if (T.ses 0).on then .pointer (some ⟨g, 3, none⟩) else .pointer none) ∧ w = w'
      cases hb : (T.ses 0).on with
      | true => rw [hb] at c; exact tabf_of_1_true g w c
      | false => rw [hb] at c; exact tabf_of_1_false g w c
    · replace c : w.cell? ⟨g, 42, none⟩ = some (.bool (T.ses 1).on) := c
      show Calls _ _ _ _ fun e w' => e = .returned (if (T.ses 1).on then .pointer (some ⟨g, 42, none⟩) else .pointer none) ∧ w = w'
      cases hb : (T.ses 1).on with
      | true => rw [hb] at c; exact tabf_of_2_true g w c
      | false => rw [hb] at c; exact tabf_of_2_false g w c
    · replace c : w.cell? ⟨g, 81, none⟩ = some (.bool (T.ses 2).on) := c
      show Calls _ _ _ _ fun e w' => e = .returned (if (T.ses 2).on then .pointer (some ⟨g, 81, none⟩) else .pointer none) ∧ w = w'
      cases hb : (T.ses 2).on with
      | true => rw [hb] at c; exact tabf_of_3_true g w c
      | false => rw [hb] at c; exact tabf_of_3_false g w c
  · rw [if_neg hs]
    exact tabf_of_out g src w (by omega)
/-- is a source there -/
def Tab.isOn (T : Tab) (src : Int) : Bool := if src = 4 then true else if src = 0 then T.son else if src = 1 ∨ src = 2 ∨ src = 3 then (T.ses (src - 1).toNat).on else false
def Tab.roleOf (T : Tab) (src : Int) : Int := if src = 1 ∨ src = 2 ∨ src = 3 then (if (T.ses (src - 1).toNat).on then (T.ses (src - 1).toNat).r else 0) else 0
def Tab.many (T : Tab) : Int := (if T.s0.on then 1 else 0) + (if T.s1.on then 1 else 0) + (if T.s2.on then 1 else 0)
/-- a source with a session, or without -/
theorem tabf_cases (T : Tab) (g : Nat) (src : Int) : (T.of g src = .pointer none ∧ (src ≠ 4 → src ≠ 0 → T.isOn src = false) ∧ T.roleOf src = 0) ∨ (∃ i : Nat, i < 3 ∧ src = (i : Int) + 1 ∧ (T.ses i).on = true ∧ T.of g src = .pointer (some ⟨g, so i, none⟩) ∧ T.isOn src = true ∧ T.roleOf src = (T.ses i).r) := by
  unfold Tab.of Tab.isOn Tab.roleOf
  by_cases hs : src = 1 ∨ src = 2 ∨ src = 3
  · obtain ⟨i, hi, e⟩ : ∃ i : Nat, i < 3 ∧ src = (i : Int) + 1 := ⟨(src - 1).toNat, by omega, by omega⟩
    have e2 : (src - 1).toNat = i := by omega
    simp only [if_pos hs, e2]
    rw [if_neg (show src ≠ 4 by omega), if_neg (show src ≠ 0 by omega)]
    cases hb : (T.ses i).on with
    | true => exact .inr ⟨i, hi, e, hb, rfl, rfl, rfl⟩
    | false => exact .inl ⟨rfl, fun _ _ => rfl, rfl⟩
  · simp only [if_neg hs]
    exact .inl ⟨trivial, fun h4 h0 => by rw [if_neg h4, if_neg h0], trivial⟩
set_option maxRecDepth 100000 in
set_option maxHeartbeats 400000 in
theorem tabf_on (g : Nat) (T : Tab) (src : Int) (w : World) (K : TabB w g T) (h : T.ok) :
    Calls Tryd.prog 34 #[.pointer (some ⟨g, 0, none⟩), .int .i64 src] w fun e w' => e = .returned (.bool (T.isOn src)) ∧ w = w' := by
  by_cases h4 : src = 4
  · subst h4
    show Calls _ _ _ _ fun e w' => e = .returned (.bool true) ∧ w = w'
    clear K h
    go_enter Tryd.func34, Tryd.ntmps34
    go_wp2_with fail
    go_ret
    exact ⟨rfl, rfl⟩
  by_cases h0 : src = 0
  · subst h0
    show Calls _ _ _ _ fun e w' => e = .returned (.bool T.son) ∧ w = w'
    have c := tab_son K
    generalize T.son = b at *
    clear K h h4
    go_enter Tryd.func34, Tryd.ntmps34
    go_wp2_with fail
    go_ret
    exact ⟨rfl, rfl⟩
  · have e4 : (src == 4) = false := beq_eq_false_iff_ne.2 h4
    have e0 : (src == 0) = false := beq_eq_false_iff_ne.2 h0
    have CO := Lib.hid (tabf_of g T src w K h)
    rcases tabf_cases T g src with ⟨e1, e2, -⟩ | ⟨i, hi, -, -, e1, e2, -⟩
    · rw [e1] at CO
      rw [e2 h4 h0]
      clear e1 e2 K h h4 h0
      go_enter Tryd.func34, Tryd.ntmps34
      go_wp2_with fail
      ((with_reducible refine (CO.out).mono ?_))
      rintro e w' ⟨rfl, rfl⟩
      go_wp2_with fail
      go_ret
      exact ⟨rfl, rfl⟩
    · rw [e1] at CO
      rw [e2]
      generalize so i = o at *
      clear e1 e2 K h h4 h0
      go_enter Tryd.func34, Tryd.ntmps34
      go_wp2_with fail
      ((with_reducible refine (CO.out).mono ?_))
      rintro e w' ⟨rfl, rfl⟩
      go_wp2_with fail
      go_ret
      exact ⟨rfl, rfl⟩
set_option maxRecDepth 100000 in
set_option maxHeartbeats 400000 in
theorem tabf_role (g : Nat) (T : Tab) (src : Int) (w : World) (K : TabB w g T) (h : T.ok) :
    Calls Tryd.prog 30 #[.pointer (some ⟨g, 0, none⟩), .int .i64 src] w fun e w' => e = .returned (.int .i64 (T.roleOf src)) ∧ w = w' := by
  have CO := Lib.hid (tabf_of g T src w K h)
  rcases tabf_cases T g src with ⟨e1, -, e2⟩ | ⟨i, hi, -, -, e1, -, e2⟩
  · rw [e1] at CO
    rw [e2]
    clear e1 e2 K h
    go_enter Tryd.func30, Tryd.ntmps30
    go_wp2_with fail
    ((with_reducible refine (CO.out).mono ?_))
    rintro e w' ⟨rfl, rfl⟩
    go_wp2_with fail
    go_ret
    exact ⟨rfl, rfl⟩
  · rw [e1] at CO
    rw [e2]
    have c : w.cell? ⟨g, so i + 3, none⟩ = some (.int .i64 (T.ses i).r) := tab_ses K h i 3 (by omega)
    generalize so i = o at *
    generalize (T.ses i).r = r at *
    clear e1 e2 K h
    go_enter Tryd.func30, Tryd.ntmps30
    go_wp2_with fail
    ((with_reducible refine (CO.out).mono ?_))
    rintro e w' ⟨rfl, rfl⟩
    go_wp2_with fail
    go_ret
    exact ⟨rfl, rfl⟩
set_option maxRecDepth 100000 in
set_option maxHeartbeats 400000 in
theorem many_true_true_true (g : Nat) (w : World) (c0 : w.cell? ⟨g, 3, none⟩ = some (.bool true)) (c1 : w.cell? ⟨g, 42, none⟩ = some (.bool true)) (c2 : w.cell? ⟨g, 81, none⟩ = some (.bool true)) :
    Calls Tryd.prog 31 #[.pointer (some ⟨g, 0, none⟩)] w fun e w' => e = .returned (.int .i64 3) ∧ w = w' := by
  go_enter Tryd.func31, Tryd.ntmps31
  go_wp2_with fail
  refine wp_loop_rounds 4 ?_
  rw [rounds_succ]
  go_wp2_with fail
  rw [rounds_succ]
  go_wp2_with fail
  rw [rounds_succ]
  go_wp2_with fail
  rw [rounds_succ]
  go_wp2_with fail
  go_ret
  exact ⟨rfl, rfl⟩
set_option maxRecDepth 100000 in
set_option maxHeartbeats 400000 in
theorem many_true_true_false (g : Nat) (w : World) (c0 : w.cell? ⟨g, 3, none⟩ = some (.bool true)) (c1 : w.cell? ⟨g, 42, none⟩ = some (.bool true)) (c2 : w.cell? ⟨g, 81, none⟩ = some (.bool false)) :
    Calls Tryd.prog 31 #[.pointer (some ⟨g, 0, none⟩)] w fun e w' => e = .returned (.int .i64 2) ∧ w = w' := by
  go_enter Tryd.func31, Tryd.ntmps31
  go_wp2_with fail
  refine wp_loop_rounds 4 ?_
  rw [rounds_succ]
  go_wp2_with fail
  rw [rounds_succ]
  go_wp2_with fail
  rw [rounds_succ]
  go_wp2_with fail
  rw [rounds_succ]
  go_wp2_with fail
  go_ret
  exact ⟨rfl, rfl⟩
set_option maxRecDepth 100000 in
set_option maxHeartbeats 400000 in
theorem many_true_false_true (g : Nat) (w : World) (c0 : w.cell? ⟨g, 3, none⟩ = some (.bool true)) (c1 : w.cell? ⟨g, 42, none⟩ = some (.bool false)) (c2 : w.cell? ⟨g, 81, none⟩ = some (.bool true)) :
    Calls Tryd.prog 31 #[.pointer (some ⟨g, 0, none⟩)] w fun e w' => e = .returned (.int .i64 2) ∧ w = w' := by
  go_enter Tryd.func31, Tryd.ntmps31
  go_wp2_with fail
  refine wp_loop_rounds 4 ?_
  rw [rounds_succ]
  go_wp2_with fail
  rw [rounds_succ]
  go_wp2_with fail
  rw [rounds_succ]
  go_wp2_with fail
  rw [rounds_succ]
  go_wp2_with fail
  go_ret
  exact ⟨rfl, rfl⟩
set_option maxRecDepth 100000 in
set_option maxHeartbeats 400000 in
theorem many_true_false_false (g : Nat) (w : World) (c0 : w.cell? ⟨g, 3, none⟩ = some (.bool true)) (c1 : w.cell? ⟨g, 42, none⟩ = some (.bool false)) (c2 : w.cell? ⟨g, 81, none⟩ = some (.bool false)) :
    Calls Tryd.prog 31 #[.pointer (some ⟨g, 0, none⟩)] w fun e w' => e = .returned (.int .i64 1) ∧ w = w' := by
  go_enter Tryd.func31, Tryd.ntmps31
  go_wp2_with fail
  refine wp_loop_rounds 4 ?_
  rw [rounds_succ]
  go_wp2_with fail
  rw [rounds_succ]
  go_wp2_with fail
  rw [rounds_succ]
  go_wp2_with fail
  rw [rounds_succ]
  go_wp2_with fail
  go_ret
  exact ⟨rfl, rfl⟩
set_option maxRecDepth 100000 in
set_option maxHeartbeats 400000 in
theorem many_false_true_true (g : Nat) (w : World) (c0 : w.cell? ⟨g, 3, none⟩ = some (.bool false)) (c1 : w.cell? ⟨g, 42, none⟩ = some (.bool true)) (c2 : w.cell? ⟨g, 81, none⟩ = some (.bool true)) :
    Calls Tryd.prog 31 #[.pointer (some ⟨g, 0, none⟩)] w fun e w' => e = .returned (.int .i64 2) ∧ w = w' := by
  go_enter Tryd.func31, Tryd.ntmps31
  go_wp2_with fail
  refine wp_loop_rounds 4 ?_
  rw [rounds_succ]
  go_wp2_with fail
  rw [rounds_succ]
  go_wp2_with fail
  rw [rounds_succ]
  go_wp2_with fail
  rw [rounds_succ]
  go_wp2_with fail
  go_ret
  exact ⟨rfl, rfl⟩
set_option maxRecDepth 100000 in
set_option maxHeartbeats 400000 in
theorem many_false_true_false (g : Nat) (w : World) (c0 : w.cell? ⟨g, 3, none⟩ = some (.bool false)) (c1 : w.cell? ⟨g, 42, none⟩ = some (.bool true)) (c2 : w.cell? ⟨g, 81, none⟩ = some (.bool false)) :
    Calls Tryd.prog 31 #[.pointer (some ⟨g, 0, none⟩)] w fun e w' => e = .returned (.int .i64 1) ∧ w = w' := by
  go_enter Tryd.func31, Tryd.ntmps31
  go_wp2_with fail
  refine wp_loop_rounds 4 ?_
  rw [rounds_succ]
  go_wp2_with fail
  rw [rounds_succ]
  go_wp2_with fail
  rw [rounds_succ]
  go_wp2_with fail
  rw [rounds_succ]
  go_wp2_with fail
  go_ret
  exact ⟨rfl, rfl⟩
set_option maxRecDepth 100000 in
set_option maxHeartbeats 400000 in
theorem many_false_false_true (g : Nat) (w : World) (c0 : w.cell? ⟨g, 3, none⟩ = some (.bool false)) (c1 : w.cell? ⟨g, 42, none⟩ = some (.bool false)) (c2 : w.cell? ⟨g, 81, none⟩ = some (.bool true)) :
    Calls Tryd.prog 31 #[.pointer (some ⟨g, 0, none⟩)] w fun e w' => e = .returned (.int .i64 1) ∧ w = w' := by
  go_enter Tryd.func31, Tryd.ntmps31
  go_wp2_with fail
  refine wp_loop_rounds 4 ?_
  rw [rounds_succ]
  go_wp2_with fail
  rw [rounds_succ]
  go_wp2_with fail
  rw [rounds_succ]
  go_wp2_with fail
  rw [rounds_succ]
  go_wp2_with fail
  go_ret
  exact ⟨rfl, rfl⟩
set_option maxRecDepth 100000 in
set_option maxHeartbeats 400000 in
theorem many_false_false_false (g : Nat) (w : World) (c0 : w.cell? ⟨g, 3, none⟩ = some (.bool false)) (c1 : w.cell? ⟨g, 42, none⟩ = some (.bool false)) (c2 : w.cell? ⟨g, 81, none⟩ = some (.bool false)) :
    Calls Tryd.prog 31 #[.pointer (some ⟨g, 0, none⟩)] w fun e w' => e = .returned (.int .i64 0) ∧ w = w' := by
  go_enter Tryd.func31, Tryd.ntmps31
  go_wp2_with fail
  refine wp_loop_rounds 4 ?_
  rw [rounds_succ]
  go_wp2_with fail
  rw [rounds_succ]
  go_wp2_with fail
  rw [rounds_succ]
  go_wp2_with fail
  rw [rounds_succ]
  go_wp2_with fail
  go_ret
  exact ⟨rfl, rfl⟩
theorem tabf_many (g : Nat) (T : Tab) (w : World) (K : TabB w g T) (h : T.ok) : Calls Tryd.prog 31 #[.pointer (some ⟨g, 0, none⟩)] w fun e w' => e = .returned (.int .i64 T.many) ∧ w = w' := by
  have c0 : w.cell? ⟨g, 3, none⟩ = some (.bool T.s0.on) := tab_ses K h 0 0 (by omega)
  have c1 : w.cell? ⟨g, 42, none⟩ = some (.bool T.s1.on) := tab_ses K h 1 0 (by omega)
  have c2 : w.cell? ⟨g, 81, none⟩ = some (.bool T.s2.on) := tab_ses K h 2 0 (by omega)
  unfold Tab.many
  cases h0 : T.s0.on <;> cases h1 : T.s1.on <;> cases h2 : T.s2.on <;> rw [h0] at c0 <;> rw [h1] at c1 <;> rw [h2] at c2
  · exact many_false_false_false g w c0 c1 c2
  · exact many_false_false_true g w c0 c1 c2
  · exact many_false_true_false g w c0 c1 c2
  · exact many_false_true_true g w c0 c1 c2
  · exact many_true_false_false g w c0 c1 c2
  · exact many_true_false_true g w c0 c1 c2
  · exact many_true_true_false g w c0 c1 c2
  · exact many_true_true_true g w c0 c1 c2
theorem agg_ses : AggT Tryd.prog 98 39 := ⟨⟨_, Tryd.underlying98, rfl⟩, by kernel_rfl⟩
theorem built_ses0 : Tryd.prog.built 98 [] = some ses0.v.toArray := by kernel_rfl
theorem ses_one (s : Ses) : s.v.toArray.all (·.oneCell') = true := by
  refine all_oneCell_toArray fun v hv => ?_
  simp only [Ses.v, prs, List.mem_append, List.mem_cons, List.not_mem_nil, or_false, List.mem_map] at hv
  rcases hv with (rfl | rfl | rfl) | rfl | ⟨x, -, rfl⟩ | hv
  · rfl
  · rfl
  · rfl
  · rfl
  · rfl
  · rcases hw : s.win with _ | ⟨h, q⟩ <;> rw [hw] at hv <;> simp only [wcells, List.mem_cons, List.not_mem_nil, or_false] at hv <;> rcases hv with rfl | rfl | rfl <;> rfl
/-- a session is laid anew -/
theorem tab_put {W : World} {g : Nat} {T : Tab} (K : TabB W g T) (h : T.ok) (i : Nat) (s : Ses) (hs : s.key.length = 32) : TabB (W.setCells g (so i) s.v) g (T.put i s) := by
  unfold TabB at *
  rw [T.v_split i] at K
  rw [T.put_split i s]
  exact blk_setMid s.v (T.ses i).v (T.pre i) (so i) W K (by rw [Ses.v_len hs, Ses.v_len (h.ses i).len]) (Tab.pre_len h i)
theorem so_le (i : Nat) : so i ≤ 81 := by
  unfold so
  split <;> omega
/-- what End tells and does -/
def EndP (T : Tab) (g : Nat) (src : Int) (w : World) (e : Ending) (w' : World) : Prop := (if src = 1 ∨ src = 2 ∨ src = 3 then (if (T.ses (src - 1).toNat).on then e = .returned (.bool true) ∧ TabB w' g (T.put (src - 1).toNat ses0) else e = .returned (.bool false) ∧ TabB w' g T) else e = .returned (.bool false) ∧ TabB w' g T) ∧ Only g w w'
set_option maxRecDepth 100000 in
set_option maxHeartbeats 800000 in
theorem tabf_end (g : Nat) (T : Tab) (src : Int) (w : World) (K : TabB w g T) (h : T.ok) : Calls Tryd.prog 26 #[.pointer (some ⟨g, 0, none⟩), .int .i64 src] w (EndP T g src w) := by
  have CO := Lib.hid (tabf_of g T src w K h)
  rcases tabf_cases T g src with ⟨e1, e2, -⟩ | ⟨i, hi, es, hon, e1, -, -⟩
  · have hf : ¬ ((src = 1 ∨ src = 2 ∨ src = 3) ∧ (T.ses (src - 1).toNat).on = true) := by
      rintro ⟨hs, ho⟩
      have := e2 (by omega) (by omega)
      unfold Tab.isOn at this
      rw [if_neg (by omega), if_neg (by omega), if_pos hs, ho] at this
      cases this
    have hpost : ∀ (e : Ending) (w' : World), e = .returned (.bool false) → w = w' → EndP T g src w e w' := by
      intro e w' he hw
      subst hw
      refine ⟨?_, Only.refl _ _⟩
      by_cases hs : src = 1 ∨ src = 2 ∨ src = 3
      · rw [if_pos hs, if_neg (fun ho => hf ⟨hs, ho⟩)]
        exact ⟨he, K⟩
      · rw [if_neg hs]
        exact ⟨he, K⟩
    replace hpost := Lib.hid hpost
    rw [e1] at CO
    clear e1 e2 K h hf
    go_enter Tryd.func26, Tryd.ntmps26
    go_wp2_with fail
    ((with_reducible refine (CO.out).mono ?_))
    rintro e w' ⟨rfl, rfl⟩
    go_wp2_with fail
    go_ret
    exact hpost.out _ _ rfl rfl
  · have e2 : (src - 1).toNat = i := by omega
    have hs : src = 1 ∨ src = 2 ∨ src = 3 := by omega
    have hpost : Hid (∀ (e : Ending) (w' : World), e = .returned (.bool true) → TabB w' g (T.put i ses0) → Only g w w' → EndP T g src w e w') := Lib.hid (by
      intro e w' he hk ho
      refine ⟨?_, ho⟩
      rw [if_pos hs, e2, if_pos hon]
      exact ⟨he, hk⟩)
    have K2 := Lib.hid (tab_put K h i ses0 rfl)
    have ON := Lib.hid (only_cells (g := g) ses0.v (so i) w)
    have TH : Hid (w.there g (so i) 39) := Lib.hid (blk_there K (by rw [tab_size K h]; have := so_le i; omega))
    have BZ := Lib.hid built_ses0
    have SZ := Lib.hid (show ses0.v.toArray.size = 39 from Ses.v_len rfl)
    have S1 := Lib.hid (ses_one ses0)
    rw [e1] at CO
    generalize so i = o at *
    clear e1 e2 K h hs hon es
    obtain ⟨sv, hsv⟩ : ∃ x, x = ses0.v := ⟨_, rfl⟩
    rw [← hsv] at K2 ON BZ SZ S1
    clear hsv
    go_enter Tryd.func26, Tryd.ntmps26
    go_wp2_with fail
    ((with_reducible refine (CO.out).mono ?_))
    rintro e w' ⟨rfl, rfl⟩
    go_wp2_with (first | ((with_reducible show wpList _ _ _ (⟨some 12, _, _, _, _, _⟩ :: _) _ _); refine wpList_build' rfl 98 _ rfl sv.toArray BZ.out ?_) | ((with_reducible show wpList _ _ _ (⟨_, .store 98 _ _, _, _, _, none⟩ :: _) _ _); (with_reducible refine wpList_store_mid rfl 98 _ _ rfl g o sv.toArray ?_ ?_ ?_ ?_ ?_ ?_); (· rfl); (· rfl); (· rw [SZ.out]; exact TH.out); (· rw [SZ.out]; exact agg_ses.2); (· exact S1.out)))
    go_ret
    exact hpost.out _ _ rfl K2.out ON.out
set_option maxRecDepth 100000 in
set_option maxHeartbeats 800000 in
theorem tabf_sample (g : Nat) (T : Tab) (w : World) (K : TabB w g T) (h : T.ok) :
    Calls Tryd.prog 32 #[.pointer (some ⟨g, 0, none⟩)] w fun e w' => e = .returned (.tuple #[]) ∧ TabB w' g { T with son := true, sa := 0, sm := max T.beat 0 } ∧ Only g w w' := by
  have c0 : ∀ y : Ext w, (exw w y).cell? ⟨g, 120, none⟩ = some (.int .i64 T.beat) := fun y => (tab_beat (K.below (exw_bel y)) h).1
  have KK : Hid (Blk w g ([] ++ ([Value.bool T.son, .int .i64 T.sa, .int .i64 T.sm] ++ (T.s0.v ++ (T.s1.v ++ (T.s2.v ++ T.tl))))).toArray 101) := Lib.hid K
  have CH := Lib.hid (fun W (k : Blk W g ([] ++ ([Value.bool T.son, .int .i64 T.sa, .int .i64 T.sm] ++ (T.s0.v ++ (T.s1.v ++ (T.s2.v ++ T.tl))))).toArray 101) => heard_any g 0 [] _ _ _ _ 101 T.beat W k rfl)
  have HP : Hid (∀ w', Blk w' g ([] ++ (prs true 0 (max T.beat 0) ++ (T.s0.v ++ (T.s1.v ++ (T.s2.v ++ T.tl))))).toArray 101 → TabB w' g { T with son := true, sa := 0, sm := max T.beat 0 }) := Lib.hid fun w' k => k
  generalize T.beat = beat at *
  clear K h
  go_enter Tryd.func32, Tryd.ntmps32
  refine wp_region_qx 7 (by kernel_rfl) (by kernel_rfl) ?_
  simp only [List.take_succ_cons, List.take_zero, List.drop_succ_cons, List.drop_zero]
  repeat (first
        | go_big_quiet_skip
        | (go_big_quiet_want
           first
             | (go_big_quiet_op
                first
                  | go_big_quiet_on
                  | go_big_quiet_call ((fail)))))
  refine wpQuiet_nil ?_
  intro _ hw'
  obtain ⟨y9, rfl⟩ := hw'
  have by_ := exw_bel y9
  replace KK := Lib.hid (KK.out.below by_)
  clear c0
  generalize exw w y9 = w1 at *
  go_wp2_with fail
  ((with_reducible refine (CH.out _ KK.out).mono ?_))
  rintro e w2 ⟨rfl, k2, o2⟩
  go_wp2_with fail
  go_end0
  exact ⟨rfl, HP.out _ k2, (Only.of_below by_).trans o2⟩
end Go.Proofs.YtapednkmefbldaaDoor

/- The table: Start, New. -/
namespace Go.Proofs.YtapednkmefbldaaDoor
open Go.RowKit

set_option maxRecDepth 100000 in
theorem zeroT_ses : ZeroT Tryd.prog 98 ses0.v.toArray := by
  intro ev o w ho
  unfold execOp
  simp only [ho]
  simp [go_sem]
  exact congrArg (fun c => w.alloc (.cells c 98)) (by kernel_rfl)
/-- a session as it begins -/
def sesB (b : Bool) (m r : Int) (key : List Int) : Ses := ⟨b, 0, m, r, key, none⟩
set_option maxRecDepth 100000 in
theorem built_ses_lit (r k0 k1 k2 k3 k4 k5 k6 k7 k8 k9 k10 k11 k12 k13 k14 k15 k16 k17 k18 k19 k20 k21 k22 k23 k24 k25 k26 k27 k28 k29 k30 k31 : Int) : Tryd.prog.built 98 [(1, .int .i64 r), (2, .agg (u8V [k0, k1, k2, k3, k4, k5, k6, k7, k8, k9, k10, k11, k12, k13, k14, k15, k16, k17, k18, k19, k20, k21, k22, k23, k24, k25, k26, k27, k28, k29, k30, k31]))] = some (sesB false 0 r [k0, k1, k2, k3, k4, k5, k6, k7, k8, k9, k10, k11, k12, k13, k14, k15, k16, k17, k18, k19, k20, k21, k22, k23, k24, k25, k26, k27, k28, k29, k30, k31]).v.toArray := by kernel_rfl
set_option maxRecDepth 100000 in
theorem built_ses (r : Int) (key : List Int) (h : key.length = 32) : Tryd.prog.built 98 [(1, .int .i64 r), (2, .agg (u8V key))] = some (sesB false 0 r key).v.toArray := by
  match key, h with
  | [k0, k1, k2, k3, k4, k5, k6, k7, k8, k9, k10, k11, k12, k13, k14, k15, k16, k17, k18, k19, k20, k21, k22, k23, k24, k25, k26, k27, k28, k29, k30, k31], _ => exact built_ses_lit r k0 k1 k2 k3 k4 k5 k6 k7 k8 k9 k10 k11 k12 k13 k14 k15 k16 k17 k18 k19 k20 k21 k22 k23 k24 k25 k26 k27 k28 k29 k30 k31
theorem sesB_ok (b : Bool) (m r : Int) (key : List Int) (hl : key.length = 32) (hb : ∀ x ∈ key, 0 ≤ x ∧ x ≤ 255) : (sesB b m r key).ok := ⟨hl, hb, trivial⟩
def StartP (T : Tab) (g : Nat) (src role : Int) (key : List Int) (w : World) (e : Ending) (w' : World) : Prop :=
  (if (src = 1 ∨ src = 2 ∨ src = 3) ∧ 0 ≤ role ∧ role ≤ 3 then
     (if (T.ses (src - 1).toNat).on = false ∧ T.most ≤ T.many then e = .returned (.int .i64 19) ∧ TabB w' g T
      else e = .returned (.int .i64 0) ∧ TabB w' g (T.put (src - 1).toNat (sesB true (max T.beat 0) role key)))
   else e = .returned (.int .i64 1) ∧ TabB w' g T) ∧ Only g w w'
set_option maxRecDepth 100000 in
set_option maxHeartbeats 400000 in
theorem start_bad1 (g : Nat) (src role : Int) (key : List Int) (w : World) (h : src < 1) :
    Calls Tryd.prog 27 #[.pointer (some ⟨g, 0, none⟩), .int .i64 src, .int .i64 role, .agg (u8V key)] w fun e w' => e = .returned (.int .i64 1) ∧ Below w.heap.size w w' := by
  have d1 : decide (src < 1) = true := decide_eq_true h
  generalize u8V key = kv at *
  go_enter Tryd.func27, Tryd.ntmps27
  go_wp2_with fail
  go_ret
  exact ⟨rfl, below_alloc1 w _⟩
set_option maxRecDepth 100000 in
set_option maxHeartbeats 400000 in
theorem start_bad2 (g : Nat) (src role : Int) (key : List Int) (w : World) (h : 3 < src) :
    Calls Tryd.prog 27 #[.pointer (some ⟨g, 0, none⟩), .int .i64 src, .int .i64 role, .agg (u8V key)] w fun e w' => e = .returned (.int .i64 1) ∧ Below w.heap.size w w' := by
  have d1 : decide (src < 1) = false := decide_eq_false (by omega)
  have d2 : decide (3 < src) = true := decide_eq_true h
  generalize u8V key = kv at *
  go_enter Tryd.func27, Tryd.ntmps27
  go_wp2_with fail
  go_ret
  exact ⟨rfl, below_alloc1 w _⟩
set_option maxRecDepth 100000 in
set_option maxHeartbeats 400000 in
theorem start_bad3 (g : Nat) (src role : Int) (key : List Int) (w : World) (h1 : 1 ≤ src) (h2 : src ≤ 3) (h : role < 0) :
    Calls Tryd.prog 27 #[.pointer (some ⟨g, 0, none⟩), .int .i64 src, .int .i64 role, .agg (u8V key)] w fun e w' => e = .returned (.int .i64 1) ∧ Below w.heap.size w w' := by
  have d1 : decide (src < 1) = false := decide_eq_false (by omega)
  have d2 : decide (3 < src) = false := decide_eq_false (by omega)
  have d3 : decide (role < 0) = true := decide_eq_true h
  generalize u8V key = kv at *
  go_enter Tryd.func27, Tryd.ntmps27
  go_wp2_with fail
  go_ret
  exact ⟨rfl, below_alloc1 w _⟩
set_option maxRecDepth 100000 in
set_option maxHeartbeats 400000 in
theorem start_bad4 (g : Nat) (src role : Int) (key : List Int) (w : World) (h1 : 1 ≤ src) (h2 : src ≤ 3) (h : 3 < role) :
    Calls Tryd.prog 27 #[.pointer (some ⟨g, 0, none⟩), .int .i64 src, .int .i64 role, .agg (u8V key)] w fun e w' => e = .returned (.int .i64 1) ∧ Below w.heap.size w w' := by
  have d1 : decide (src < 1) = false := decide_eq_false (by omega)
  have d2 : decide (3 < src) = false := decide_eq_false (by omega)
  have d3 : decide (role < 0) = false := decide_eq_false (by omega)
  have d4 : decide (4 ≤ role) = true := decide_eq_true (by omega)
  generalize u8V key = kv at *
  go_enter Tryd.func27, Tryd.ntmps27
  go_wp2_with fail
  go_ret
  exact ⟨rfl, below_alloc1 w _⟩
/-- .. and then in a block made since -/
theorem Only.trans2 {g g2 : Nat} {a b c : World} (h : Only g a b) (hg : a.heap.size ≤ g2) (k : Only g2 b c) (hb : a.heap.size ≤ b.heap.size) : Only g a c :=
  ⟨Nat.le_trans h.size k.size, fun i hi hl => (k.keep i (by omega) (Nat.lt_of_lt_of_le hl h.size)).trans (h.keep i hi hl), fun i hi hl => (h.bel i hi hl).trans (k.bel i (by omega) (by omega))⟩
theorem only_row {g : Nat} {W : World} (cs : Array Value) : Only g W (W.setRow g cs) :=
  ⟨by simp, fun k hk _ => setRow_other W g k _ (by omega), fun b hb hW => below_setRow (g := g) (Below.refl b W) hb cs⟩
set_option maxRecDepth 100000 in
set_option maxHeartbeats 1600000 in
theorem start_ok_1_true (g : Nat) (T : Tab) (role : Int) (key : List Int) (w : World) (K : TabB w g T) (h : T.ok) (hr0 : 0 ≤ role) (hr1 : role ≤ 3) (hk : key.length = 32) (hon : (T.ses 0).on = true) :
    Calls Tryd.prog 27 #[.pointer (some ⟨g, 0, none⟩), .int .i64 1, .int .i64 role, .agg (u8V key)] w fun e w' => e = .returned (.int .i64 0) ∧ TabB w' g (T.put 0 (sesB true (max T.beat 0) role key)) ∧ Only g w w' := by
  have d3 : decide (role < 0) = false := decide_eq_false (by omega)
  have d4 : decide (4 ≤ role) = false := decide_eq_false (by omega)
  have hof : T.of g 1 = .pointer (some ⟨g, 3, none⟩) := by
    unfold Tab.of
    rw [if_pos (by omega)]
    show (if (T.ses 0).on then Value.pointer (some ⟨g, 3, none⟩) else Value.pointer none) = _
    rw [hon]
    rfl
  have CO : Hid (∀ W, TabB W g T → Calls Tryd.prog 48 #[.pointer (some ⟨g, 0, none⟩), .int .i64 1] W fun e w' => e = .returned (.pointer (some ⟨g, 3, none⟩)) ∧ W = w') := Lib.hid fun W hW => by have := tabf_of g T 1 W hW h; rwa [hof] at this
  have CM : Hid (∀ W, TabB W g T → Calls Tryd.prog 31 #[.pointer (some ⟨g, 0, none⟩)] W fun e w' => e = .returned (.int .i64 T.many) ∧ W = w') := Lib.hid fun W hW => tabf_many g T W hW h
  have TP := Lib.hid (fun W (k : TabB W g T) => tab_put k h 0 (sesB true (max T.beat 0) role key) hk)
  have TH := Lib.hid (fun W (k : TabB W g T) => (blk_there k (o := 3) (n := 39) (by rw [tab_size k h]; omega)))
  have CB := Lib.hid (fun W (k : TabB W g T) => tab_beat k h)
  have BS := Lib.hid (built_ses role key hk)
  have CH := Lib.hid (fun W (g9 : Nat) (k : Blk W g9 (sesB false 0 role key).v.toArray 98) => heard_any g9 0 [] ([Value.int .i64 role] ++ (key.map (Value.int .u8) ++ wcells none)) (.bool false) (.int .i64 0) (.int .i64 0) 98 T.beat W k rfl)
  have HK := Lib.hid hk
  have hks : Hid ((u8V key).size = 32) := Lib.hid (by rw [u8V_size, hk])
  have SZ := Lib.hid (show (sesB true (max T.beat 0) role key).v.toArray.size = 39 from Ses.v_len hk)
  have SZ0 := Lib.hid (show (sesB false 0 role key).v.toArray.size = 39 from Ses.v_len hk)
  have S1 := Lib.hid (ses_one (sesB true (max T.beat 0) role key))
  have S0 := Lib.hid (ses_one (sesB false 0 role key))
  have SZZ := Lib.hid (show ses0.v.toArray.size = 39 from Ses.v_len rfl)
  have KT := Lib.hid K
  have lg := Blk.lt K
  clear hof hk hon K h
  obtain ⟨kv, hkv⟩ : ∃ x, x = u8V key := ⟨_, rfl⟩
  rw [← hkv] at BS hks ⊢
  obtain ⟨si, hsi⟩ : ∃ x, x = (sesB false 0 role key).v.toArray := ⟨_, rfl⟩
  rw [← hsi] at BS SZ0 S0
  obtain ⟨sv, hsv⟩ : ∃ x, x = (sesB true (max T.beat 0) role key).v := ⟨_, rfl⟩
  obtain ⟨T2, hT2⟩ : ∃ x, x = T.put 0 (sesB true (max T.beat 0) role key) := ⟨_, rfl⟩
  rw [← hsv, ← hT2] at TP
  rw [← hT2]
  rw [← hsv] at SZ S1
  have HSV := Lib.hid hsv
  have HSI := Lib.hid hsi
  clear hkv hsi hsv hT2
  go_enter Tryd.func27, Tryd.ntmps27
  go_wp2_with fail
  have K7 := Lib.hid (Blk.new w kv 22)
  have b1 := below_alloc1 w (.cells kv 22)
  replace KT := Lib.hid (KT.out.below b1)
  have ON : Hid (Only g w (w.alloc (.cells kv 22))) := Lib.hid (Only.of_below b1)
  have l7 := K7.out.lt
  generalize w.alloc (.cells kv 22) = w1 at *
  clear b1
  have KX : Hid (∀ y : Ext w1, TabB (exw w1 y) g T) := Lib.hid fun y => KT.out.below (exw_bel y)
  have c1 : ∀ y : Ext w1, (exw w1 y).cell? ⟨g, 121, none⟩ = some (.int .i64 T.most) := fun y => (CB.out _ (KX.out y)).2
  refine wp_region_ext (by kernel_rfl) (by kernel_rfl) ?_
  repeat (first
        | go_big_quiet_skip
        | (go_big_quiet_want
           first
             | (go_big_quiet_op
                first
                  | go_big_quiet_on
                  | go_big_quiet_call (((first | (with_reducible refine ext_of_same (CO.out _ (KX.out _))) | (with_reducible refine ext_of_same (CM.out _ (KX.out _)))))))))
  refine wpQuiet_nil ?_
  intro _ hw'
  obtain ⟨y9, rfl⟩ := hw'
  have by_ := exw_bel y9
  replace KT := Lib.hid (KT.out.below by_)
  replace K7 := Lib.hid (K7.out.below by_)
  replace ON := Lib.hid (ON.out.trans (Only.of_below by_))
  clear c1 KX CO CM by_
  generalize exw w1 y9 = w2 at *
  go_wp2_with (first | ((with_reducible show wpList _ _ _ (⟨_, .load 22 _, _, _, _, none⟩ :: _) _ _); (with_reducible refine wpBlk_load (g := w.heap.size) agg_b32 ?_ ?_ K7 ?_ ?_); (· exact wanted0 rfl); (· exact ⟨rfl, rfl⟩); (· exact hks.out)) | ((with_reducible show wpList _ _ _ (⟨some 39, _, _, _, _, _⟩ :: _) _ _); refine wpList_build' rfl 98 _ rfl si BS.out ?_) | ((with_reducible show wpList _ _ _ (⟨_, .alloc 98, _, _, _, none⟩ :: _) _ _); (with_reducible refine wpRow_alloc zeroT_ses ?_ ?_ ?_); (· exact wanted0 rfl); (· rfl); refine Marker.mk ?_))
  refine Marker.in ?_
  have l2 := K7.out.lt
  have lt2 := Blk.lt KT.out
  have b3 := below_alloc1 w2 (.cells ses0.v.toArray 98)
  replace KT := Lib.hid (KT.out.below b3)
  replace ON := Lib.hid (ON.out.trans (Only.of_below b3))
  have K9 := Lib.hid (Blk.new w2 ses0.v.toArray 98)
  clear b3
  generalize w2.alloc (.cells ses0.v.toArray 98) = w3 at *
  generalize w2.heap.size = g9 at *
  go_wp2_with ((with_reducible show wpList _ _ _ (⟨_, .store 98 _ _, _, _, _, none⟩ :: _) _ _); (with_reducible refine wpBlk_store (g := g9) (cs := si) agg_ses ?_ ?_ K9 ?_ ?_ ?_ ?_); (· exact wanted0 rfl); (· exact ⟨rfl, rfl, rfl⟩); (· exact SZZ.out); (· exact SZ0.out); (· exact S0.out); refine Marker.mk ?_)
  refine Marker.in ?_
  replace KT := Lib.hid (show TabB (w3.setRow g9 si) g T from Blk.setRow_other KT.out g9 si (by omega))
  replace ON := Lib.hid (ON.out.trans2 (g2 := g9) (by omega) (only_row (g := g9) (W := w3) si) (by have := ON.out.size; omega))
  replace K9 := Lib.hid (K9.out.setRow si)
  generalize w3.setRow g9 si = w4 at *
  have c2 : w4.cell? ⟨g, 120, none⟩ = some (.int .i64 T.beat) := (CB.out _ KT.out).1
  go_wp2_with fail
  rw [HSI.out] at K9
  ((with_reducible refine (CH.out _ g9 K9.out).mono ?_))
  rintro e w5 ⟨rfl, k9, o9⟩
  replace KT := Lib.hid (show TabB w5 g T from o9.blk KT.out (by omega))
  replace ON := Lib.hid (ON.out.trans2 (g2 := g9) (by omega) o9 (by have := ON.out.size; omega))
  have K10 : Hid (Blk w5 g9 sv.toArray 98) := Lib.hid (by rw [HSV.out]; exact k9)
  clear k9 o9 K9 c2 CH HSI
  have ltT := Blk.lt KT.out
  go_wp2_with fail
  refine wp_region_qx 7 (by kernel_rfl) (by kernel_rfl) ?_
  simp only [List.take_succ_cons, List.take_zero, List.drop_succ_cons, List.drop_zero]
  repeat (first
        | go_big_quiet_skip
        | (go_big_quiet_want
           first
             | (refine quiet_load_blk (T := 98) (g := g9) agg_ses _ rfl rfl K10 ?_ ?_; (· exact SZ.out); go_simp; go_big_quiet_on)
             | (go_big_quiet_op
                first
                  | go_big_quiet_on
                  | go_big_quiet_call ((fail)))))
  refine wpQuiet_nil ?_
  intro _ hw'
  obtain ⟨y8, rfl⟩ := hw'
  have by_ := exw_bel y8
  replace KT := Lib.hid (KT.out.below by_)
  replace ON := Lib.hid (ON.out.trans (Only.of_below by_))
  clear by_
  generalize exw w5 y8 = w6 at *
  have KF := Lib.hid (TP.out w6 KT.out)
  replace ON := Lib.hid (ON.out.trans (only_cells (g := g) sv 3 w6))
  replace TH := Lib.hid (TH.out w6 KT.out)
  go_wp2_with ((with_reducible show wpList _ _ _ (⟨_, .store 98 _ _, _, _, _, none⟩ :: _) _ _); (with_reducible refine wpList_store_mid rfl 98 _ _ rfl g 3 sv.toArray ?_ ?_ ?_ ?_ ?_ ?_); (· rfl); (· rfl); (· rw [SZ.out]; exact TH.out); (· rw [SZ.out]; exact agg_ses.2); (· exact S1.out))
  go_ret
  exact ⟨rfl, KF.out, ON.out⟩
set_option maxRecDepth 100000 in
set_option maxHeartbeats 1600000 in
theorem start_ok_1_false (g : Nat) (T : Tab) (role : Int) (key : List Int) (w : World) (K : TabB w g T) (h : T.ok) (hr0 : 0 ≤ role) (hr1 : role ≤ 3) (hk : key.length = 32) (hon : (T.ses 0).on = false) (hm : T.many < T.most) :
    Calls Tryd.prog 27 #[.pointer (some ⟨g, 0, none⟩), .int .i64 1, .int .i64 role, .agg (u8V key)] w fun e w' => e = .returned (.int .i64 0) ∧ TabB w' g (T.put 0 (sesB true (max T.beat 0) role key)) ∧ Only g w w' := by
  have d3 : decide (role < 0) = false := decide_eq_false (by omega)
  have d4 : decide (4 ≤ role) = false := decide_eq_false (by omega)
  have hof : T.of g 1 = .pointer none := by
    unfold Tab.of
    rw [if_pos (by omega)]
    show (if (T.ses 0).on then Value.pointer (some ⟨g, 3, none⟩) else Value.pointer none) = _
    rw [hon]
    rfl
  have CO : Hid (∀ W, TabB W g T → Calls Tryd.prog 48 #[.pointer (some ⟨g, 0, none⟩), .int .i64 1] W fun e w' => e = .returned (.pointer none) ∧ W = w') := Lib.hid fun W hW => by have := tabf_of g T 1 W hW h; rwa [hof] at this
  have CM : Hid (∀ W, TabB W g T → Calls Tryd.prog 31 #[.pointer (some ⟨g, 0, none⟩)] W fun e w' => e = .returned (.int .i64 T.many) ∧ W = w') := Lib.hid fun W hW => tabf_many g T W hW h
  have dm : decide (T.most ≤ T.many) = false := decide_eq_false (by omega)
  have TP := Lib.hid (fun W (k : TabB W g T) => tab_put k h 0 (sesB true (max T.beat 0) role key) hk)
  have TH := Lib.hid (fun W (k : TabB W g T) => (blk_there k (o := 3) (n := 39) (by rw [tab_size k h]; omega)))
  have CB := Lib.hid (fun W (k : TabB W g T) => tab_beat k h)
  have BS := Lib.hid (built_ses role key hk)
  have CH := Lib.hid (fun W (g9 : Nat) (k : Blk W g9 (sesB false 0 role key).v.toArray 98) => heard_any g9 0 [] ([Value.int .i64 role] ++ (key.map (Value.int .u8) ++ wcells none)) (.bool false) (.int .i64 0) (.int .i64 0) 98 T.beat W k rfl)
  have HK := Lib.hid hk
  have hks : Hid ((u8V key).size = 32) := Lib.hid (by rw [u8V_size, hk])
  have SZ := Lib.hid (show (sesB true (max T.beat 0) role key).v.toArray.size = 39 from Ses.v_len hk)
  have SZ0 := Lib.hid (show (sesB false 0 role key).v.toArray.size = 39 from Ses.v_len hk)
  have S1 := Lib.hid (ses_one (sesB true (max T.beat 0) role key))
  have S0 := Lib.hid (ses_one (sesB false 0 role key))
  have SZZ := Lib.hid (show ses0.v.toArray.size = 39 from Ses.v_len rfl)
  have KT := Lib.hid K
  have lg := Blk.lt K
  clear hof hk hon hm K h
  obtain ⟨kv, hkv⟩ : ∃ x, x = u8V key := ⟨_, rfl⟩
  rw [← hkv] at BS hks ⊢
  obtain ⟨si, hsi⟩ : ∃ x, x = (sesB false 0 role key).v.toArray := ⟨_, rfl⟩
  rw [← hsi] at BS SZ0 S0
  obtain ⟨sv, hsv⟩ : ∃ x, x = (sesB true (max T.beat 0) role key).v := ⟨_, rfl⟩
  obtain ⟨T2, hT2⟩ : ∃ x, x = T.put 0 (sesB true (max T.beat 0) role key) := ⟨_, rfl⟩
  rw [← hsv, ← hT2] at TP
  rw [← hT2]
  rw [← hsv] at SZ S1
  have HSV := Lib.hid hsv
  have HSI := Lib.hid hsi
  clear hkv hsi hsv hT2
  go_enter Tryd.func27, Tryd.ntmps27
  go_wp2_with fail
  have K7 := Lib.hid (Blk.new w kv 22)
  have b1 := below_alloc1 w (.cells kv 22)
  replace KT := Lib.hid (KT.out.below b1)
  have ON : Hid (Only g w (w.alloc (.cells kv 22))) := Lib.hid (Only.of_below b1)
  have l7 := K7.out.lt
  generalize w.alloc (.cells kv 22) = w1 at *
  clear b1
  have KX : Hid (∀ y : Ext w1, TabB (exw w1 y) g T) := Lib.hid fun y => KT.out.below (exw_bel y)
  have c1 : ∀ y : Ext w1, (exw w1 y).cell? ⟨g, 121, none⟩ = some (.int .i64 T.most) := fun y => (CB.out _ (KX.out y)).2
  refine wp_region_ext (by kernel_rfl) (by kernel_rfl) ?_
  repeat (first
        | go_big_quiet_skip
        | (go_big_quiet_want
           first
             | (go_big_quiet_op
                first
                  | go_big_quiet_on
                  | go_big_quiet_call (((first | (with_reducible refine ext_of_same (CO.out _ (KX.out _))) | (with_reducible refine ext_of_same (CM.out _ (KX.out _)))))))))
  refine wpQuiet_nil ?_
  intro _ hw'
  obtain ⟨y9, rfl⟩ := hw'
  have by_ := exw_bel y9
  replace KT := Lib.hid (KT.out.below by_)
  replace K7 := Lib.hid (K7.out.below by_)
  replace ON := Lib.hid (ON.out.trans (Only.of_below by_))
  clear c1 KX CO CM by_
  generalize exw w1 y9 = w2 at *
  go_wp2_with (first | ((with_reducible show wpList _ _ _ (⟨_, .load 22 _, _, _, _, none⟩ :: _) _ _); (with_reducible refine wpBlk_load (g := w.heap.size) agg_b32 ?_ ?_ K7 ?_ ?_); (· exact wanted0 rfl); (· exact ⟨rfl, rfl⟩); (· exact hks.out)) | ((with_reducible show wpList _ _ _ (⟨some 39, _, _, _, _, _⟩ :: _) _ _); refine wpList_build' rfl 98 _ rfl si BS.out ?_) | ((with_reducible show wpList _ _ _ (⟨_, .alloc 98, _, _, _, none⟩ :: _) _ _); (with_reducible refine wpRow_alloc zeroT_ses ?_ ?_ ?_); (· exact wanted0 rfl); (· rfl); refine Marker.mk ?_))
  refine Marker.in ?_
  have l2 := K7.out.lt
  have lt2 := Blk.lt KT.out
  have b3 := below_alloc1 w2 (.cells ses0.v.toArray 98)
  replace KT := Lib.hid (KT.out.below b3)
  replace ON := Lib.hid (ON.out.trans (Only.of_below b3))
  have K9 := Lib.hid (Blk.new w2 ses0.v.toArray 98)
  clear b3
  generalize w2.alloc (.cells ses0.v.toArray 98) = w3 at *
  generalize w2.heap.size = g9 at *
  go_wp2_with ((with_reducible show wpList _ _ _ (⟨_, .store 98 _ _, _, _, _, none⟩ :: _) _ _); (with_reducible refine wpBlk_store (g := g9) (cs := si) agg_ses ?_ ?_ K9 ?_ ?_ ?_ ?_); (· exact wanted0 rfl); (· exact ⟨rfl, rfl, rfl⟩); (· exact SZZ.out); (· exact SZ0.out); (· exact S0.out); refine Marker.mk ?_)
  refine Marker.in ?_
  replace KT := Lib.hid (show TabB (w3.setRow g9 si) g T from Blk.setRow_other KT.out g9 si (by omega))
  replace ON := Lib.hid (ON.out.trans2 (g2 := g9) (by omega) (only_row (g := g9) (W := w3) si) (by have := ON.out.size; omega))
  replace K9 := Lib.hid (K9.out.setRow si)
  generalize w3.setRow g9 si = w4 at *
  have c2 : w4.cell? ⟨g, 120, none⟩ = some (.int .i64 T.beat) := (CB.out _ KT.out).1
  go_wp2_with fail
  rw [HSI.out] at K9
  ((with_reducible refine (CH.out _ g9 K9.out).mono ?_))
  rintro e w5 ⟨rfl, k9, o9⟩
  replace KT := Lib.hid (show TabB w5 g T from o9.blk KT.out (by omega))
  replace ON := Lib.hid (ON.out.trans2 (g2 := g9) (by omega) o9 (by have := ON.out.size; omega))
  have K10 : Hid (Blk w5 g9 sv.toArray 98) := Lib.hid (by rw [HSV.out]; exact k9)
  clear k9 o9 K9 c2 CH HSI
  have ltT := Blk.lt KT.out
  go_wp2_with fail
  refine wp_region_qx 7 (by kernel_rfl) (by kernel_rfl) ?_
  simp only [List.take_succ_cons, List.take_zero, List.drop_succ_cons, List.drop_zero]
  repeat (first
        | go_big_quiet_skip
        | (go_big_quiet_want
           first
             | (refine quiet_load_blk (T := 98) (g := g9) agg_ses _ rfl rfl K10 ?_ ?_; (· exact SZ.out); go_simp; go_big_quiet_on)
             | (go_big_quiet_op
                first
                  | go_big_quiet_on
                  | go_big_quiet_call ((fail)))))
  refine wpQuiet_nil ?_
  intro _ hw'
  obtain ⟨y8, rfl⟩ := hw'
  have by_ := exw_bel y8
  replace KT := Lib.hid (KT.out.below by_)
  replace ON := Lib.hid (ON.out.trans (Only.of_below by_))
  clear by_
  generalize exw w5 y8 = w6 at *
  have KF := Lib.hid (TP.out w6 KT.out)
  replace ON := Lib.hid (ON.out.trans (only_cells (g := g) sv 3 w6))
  replace TH := Lib.hid (TH.out w6 KT.out)
  go_wp2_with ((with_reducible show wpList _ _ _ (⟨_, .store 98 _ _, _, _, _, none⟩ :: _) _ _); (with_reducible refine wpList_store_mid rfl 98 _ _ rfl g 3 sv.toArray ?_ ?_ ?_ ?_ ?_ ?_); (· rfl); (· rfl); (· rw [SZ.out]; exact TH.out); (· rw [SZ.out]; exact agg_ses.2); (· exact S1.out))
  go_ret
  exact ⟨rfl, KF.out, ON.out⟩
set_option maxRecDepth 100000 in
set_option maxHeartbeats 1600000 in
theorem start_full_1 (g : Nat) (T : Tab) (role : Int) (key : List Int) (w : World) (K : TabB w g T) (h : T.ok) (hr0 : 0 ≤ role) (hr1 : role ≤ 3) (hk : key.length = 32) (hon : (T.ses 0).on = false) (hm : T.most ≤ T.many) :
    Calls Tryd.prog 27 #[.pointer (some ⟨g, 0, none⟩), .int .i64 1, .int .i64 role, .agg (u8V key)] w fun e w' => e = .returned (.int .i64 19) ∧ TabB w' g T ∧ Only g w w' := by
  have d3 : decide (role < 0) = false := decide_eq_false (by omega)
  have d4 : decide (4 ≤ role) = false := decide_eq_false (by omega)
  have hof : T.of g 1 = .pointer none := by
    unfold Tab.of
    rw [if_pos (by omega)]
    show (if (T.ses 0).on then Value.pointer (some ⟨g, 3, none⟩) else Value.pointer none) = _
    rw [hon]
    rfl
  have CO : Hid (∀ W, TabB W g T → Calls Tryd.prog 48 #[.pointer (some ⟨g, 0, none⟩), .int .i64 1] W fun e w' => e = .returned (.pointer none) ∧ W = w') := Lib.hid fun W hW => by have := tabf_of g T 1 W hW h; rwa [hof] at this
  have CM : Hid (∀ W, TabB W g T → Calls Tryd.prog 31 #[.pointer (some ⟨g, 0, none⟩)] W fun e w' => e = .returned (.int .i64 T.many) ∧ W = w') := Lib.hid fun W hW => tabf_many g T W hW h
  have dm : decide (T.most ≤ T.many) = true := decide_eq_true hm
  have TP := Lib.hid (fun W (k : TabB W g T) => tab_put k h 0 (sesB true (max T.beat 0) role key) hk)
  have TH := Lib.hid (fun W (k : TabB W g T) => (blk_there k (o := 3) (n := 39) (by rw [tab_size k h]; omega)))
  have CB := Lib.hid (fun W (k : TabB W g T) => tab_beat k h)
  have BS := Lib.hid (built_ses role key hk)
  have CH := Lib.hid (fun W (g9 : Nat) (k : Blk W g9 (sesB false 0 role key).v.toArray 98) => heard_any g9 0 [] ([Value.int .i64 role] ++ (key.map (Value.int .u8) ++ wcells none)) (.bool false) (.int .i64 0) (.int .i64 0) 98 T.beat W k rfl)
  have HK := Lib.hid hk
  have hks : Hid ((u8V key).size = 32) := Lib.hid (by rw [u8V_size, hk])
  have SZ := Lib.hid (show (sesB true (max T.beat 0) role key).v.toArray.size = 39 from Ses.v_len hk)
  have SZ0 := Lib.hid (show (sesB false 0 role key).v.toArray.size = 39 from Ses.v_len hk)
  have S1 := Lib.hid (ses_one (sesB true (max T.beat 0) role key))
  have S0 := Lib.hid (ses_one (sesB false 0 role key))
  have SZZ := Lib.hid (show ses0.v.toArray.size = 39 from Ses.v_len rfl)
  have KT := Lib.hid K
  have lg := Blk.lt K
  clear hof hk hon hm K h
  obtain ⟨kv, hkv⟩ : ∃ x, x = u8V key := ⟨_, rfl⟩
  rw [← hkv] at BS hks ⊢
  obtain ⟨si, hsi⟩ : ∃ x, x = (sesB false 0 role key).v.toArray := ⟨_, rfl⟩
  rw [← hsi] at BS SZ0 S0
  obtain ⟨sv, hsv⟩ : ∃ x, x = (sesB true (max T.beat 0) role key).v := ⟨_, rfl⟩
  obtain ⟨T2, hT2⟩ : ∃ x, x = T.put 0 (sesB true (max T.beat 0) role key) := ⟨_, rfl⟩
  
  rw [← hsv] at SZ S1
  have HSV := Lib.hid hsv
  have HSI := Lib.hid hsi
  clear hkv hsi hsv hT2 TP TH
  go_enter Tryd.func27, Tryd.ntmps27
  go_wp2_with fail
  have K7 := Lib.hid (Blk.new w kv 22)
  have b1 := below_alloc1 w (.cells kv 22)
  replace KT := Lib.hid (KT.out.below b1)
  have ON : Hid (Only g w (w.alloc (.cells kv 22))) := Lib.hid (Only.of_below b1)
  have l7 := K7.out.lt
  generalize w.alloc (.cells kv 22) = w1 at *
  clear b1
  have KX : Hid (∀ y : Ext w1, TabB (exw w1 y) g T) := Lib.hid fun y => KT.out.below (exw_bel y)
  have c1 : ∀ y : Ext w1, (exw w1 y).cell? ⟨g, 121, none⟩ = some (.int .i64 T.most) := fun y => (CB.out _ (KX.out y)).2
  refine wp_region_ext (by kernel_rfl) (by kernel_rfl) ?_
  repeat (first
        | go_big_quiet_skip
        | (go_big_quiet_want
           first
             | (go_big_quiet_op
                first
                  | go_big_quiet_on
                  | go_big_quiet_call (((first | (with_reducible refine ext_of_same (CO.out _ (KX.out _))) | (with_reducible refine ext_of_same (CM.out _ (KX.out _)))))))))
  refine wpQuiet_nil ?_
  intro _ hw'
  obtain ⟨y9, rfl⟩ := hw'
  have by_ := exw_bel y9
  replace KT := Lib.hid (KT.out.below by_)
  replace K7 := Lib.hid (K7.out.below by_)
  replace ON := Lib.hid (ON.out.trans (Only.of_below by_))
  clear c1 KX CO CM by_
  generalize exw w1 y9 = w2 at *
  go_wp2_with fail
  go_ret
  exact ⟨rfl, KT.out, ON.out⟩
set_option maxRecDepth 100000 in
set_option maxHeartbeats 1600000 in
theorem start_ok_2_true (g : Nat) (T : Tab) (role : Int) (key : List Int) (w : World) (K : TabB w g T) (h : T.ok) (hr0 : 0 ≤ role) (hr1 : role ≤ 3) (hk : key.length = 32) (hon : (T.ses 1).on = true) :
    Calls Tryd.prog 27 #[.pointer (some ⟨g, 0, none⟩), .int .i64 2, .int .i64 role, .agg (u8V key)] w fun e w' => e = .returned (.int .i64 0) ∧ TabB w' g (T.put 1 (sesB true (max T.beat 0) role key)) ∧ Only g w w' := by
  have d3 : decide (role < 0) = false := decide_eq_false (by omega)
  have d4 : decide (4 ≤ role) = false := decide_eq_false (by omega)
  have hof : T.of g 2 = .pointer (some ⟨g, 42, none⟩) := by
    unfold Tab.of
    rw [if_pos (by omega)]
    show (if (T.ses 1).on then Value.pointer (some ⟨g, 42, none⟩) else Value.pointer none) = _
    rw [hon]
    rfl
  have CO : Hid (∀ W, TabB W g T → Calls Tryd.prog 48 #[.pointer (some ⟨g, 0, none⟩), .int .i64 2] W fun e w' => e = .returned (.pointer (some ⟨g, 42, none⟩)) ∧ W = w') := Lib.hid fun W hW => by have := tabf_of g T 2 W hW h; rwa [hof] at this
  have CM : Hid (∀ W, TabB W g T → Calls Tryd.prog 31 #[.pointer (some ⟨g, 0, none⟩)] W fun e w' => e = .returned (.int .i64 T.many) ∧ W = w') := Lib.hid fun W hW => tabf_many g T W hW h
  have TP := Lib.hid (fun W (k : TabB W g T) => tab_put k h 1 (sesB true (max T.beat 0) role key) hk)
  have TH := Lib.hid (fun W (k : TabB W g T) => (blk_there k (o := 42) (n := 39) (by rw [tab_size k h]; omega)))
  have CB := Lib.hid (fun W (k : TabB W g T) => tab_beat k h)
  have BS := Lib.hid (built_ses role key hk)
  have CH := Lib.hid (fun W (g9 : Nat) (k : Blk W g9 (sesB false 0 role key).v.toArray 98) => heard_any g9 0 [] ([Value.int .i64 role] ++ (key.map (Value.int .u8) ++ wcells none)) (.bool false) (.int .i64 0) (.int .i64 0) 98 T.beat W k rfl)
  have HK := Lib.hid hk
  have hks : Hid ((u8V key).size = 32) := Lib.hid (by rw [u8V_size, hk])
  have SZ := Lib.hid (show (sesB true (max T.beat 0) role key).v.toArray.size = 39 from Ses.v_len hk)
  have SZ0 := Lib.hid (show (sesB false 0 role key).v.toArray.size = 39 from Ses.v_len hk)
  have S1 := Lib.hid (ses_one (sesB true (max T.beat 0) role key))
  have S0 := Lib.hid (ses_one (sesB false 0 role key))
  have SZZ := Lib.hid (show ses0.v.toArray.size = 39 from Ses.v_len rfl)
  have KT := Lib.hid K
  have lg := Blk.lt K
  clear hof hk hon K h
  obtain ⟨kv, hkv⟩ : ∃ x, x = u8V key := ⟨_, rfl⟩
  rw [← hkv] at BS hks ⊢
  obtain ⟨si, hsi⟩ : ∃ x, x = (sesB false 0 role key).v.toArray := ⟨_, rfl⟩
  rw [← hsi] at BS SZ0 S0
  obtain ⟨sv, hsv⟩ : ∃ x, x = (sesB true (max T.beat 0) role key).v := ⟨_, rfl⟩
  obtain ⟨T2, hT2⟩ : ∃ x, x = T.put 1 (sesB true (max T.beat 0) role key) := ⟨_, rfl⟩
  rw [← hsv, ← hT2] at TP
  rw [← hT2]
  rw [← hsv] at SZ S1
  have HSV := Lib.hid hsv
  have HSI := Lib.hid hsi
  clear hkv hsi hsv hT2
  go_enter Tryd.func27, Tryd.ntmps27
  go_wp2_with fail
  have K7 := Lib.hid (Blk.new w kv 22)
  have b1 := below_alloc1 w (.cells kv 22)
  replace KT := Lib.hid (KT.out.below b1)
  have ON : Hid (Only g w (w.alloc (.cells kv 22))) := Lib.hid (Only.of_below b1)
  have l7 := K7.out.lt
  generalize w.alloc (.cells kv 22) = w1 at *
  clear b1
  have KX : Hid (∀ y : Ext w1, TabB (exw w1 y) g T) := Lib.hid fun y => KT.out.below (exw_bel y)
  have c1 : ∀ y : Ext w1, (exw w1 y).cell? ⟨g, 121, none⟩ = some (.int .i64 T.most) := fun y => (CB.out _ (KX.out y)).2
  refine wp_region_ext (by kernel_rfl) (by kernel_rfl) ?_
  repeat (first
        | go_big_quiet_skip
        | (go_big_quiet_want
           first
             | (go_big_quiet_op
                first
                  | go_big_quiet_on
                  | go_big_quiet_call (((first | (with_reducible refine ext_of_same (CO.out _ (KX.out _))) | (with_reducible refine ext_of_same (CM.out _ (KX.out _)))))))))
  refine wpQuiet_nil ?_
  intro _ hw'
  obtain ⟨y9, rfl⟩ := hw'
  have by_ := exw_bel y9
  replace KT := Lib.hid (KT.out.below by_)
  replace K7 := Lib.hid (K7.out.below by_)
  replace ON := Lib.hid (ON.out.trans (Only.of_below by_))
  clear c1 KX CO CM by_
  generalize exw w1 y9 = w2 at *
  go_wp2_with (first | ((with_reducible show wpList _ _ _ (⟨_, .load 22 _, _, _, _, none⟩ :: _) _ _); (with_reducible refine wpBlk_load (g := w.heap.size) agg_b32 ?_ ?_ K7 ?_ ?_); (· exact wanted0 rfl); (· exact ⟨rfl, rfl⟩); (· exact hks.out)) | ((with_reducible show wpList _ _ _ (⟨some 39, _, _, _, _, _⟩ :: _) _ _); refine wpList_build' rfl 98 _ rfl si BS.out ?_) | ((with_reducible show wpList _ _ _ (⟨_, .alloc 98, _, _, _, none⟩ :: _) _ _); (with_reducible refine wpRow_alloc zeroT_ses ?_ ?_ ?_); (· exact wanted0 rfl); (· rfl); refine Marker.mk ?_))
  refine Marker.in ?_
  have l2 := K7.out.lt
  have lt2 := Blk.lt KT.out
  have b3 := below_alloc1 w2 (.cells ses0.v.toArray 98)
  replace KT := Lib.hid (KT.out.below b3)
  replace ON := Lib.hid (ON.out.trans (Only.of_below b3))
  have K9 := Lib.hid (Blk.new w2 ses0.v.toArray 98)
  clear b3
  generalize w2.alloc (.cells ses0.v.toArray 98) = w3 at *
  generalize w2.heap.size = g9 at *
  go_wp2_with ((with_reducible show wpList _ _ _ (⟨_, .store 98 _ _, _, _, _, none⟩ :: _) _ _); (with_reducible refine wpBlk_store (g := g9) (cs := si) agg_ses ?_ ?_ K9 ?_ ?_ ?_ ?_); (· exact wanted0 rfl); (· exact ⟨rfl, rfl, rfl⟩); (· exact SZZ.out); (· exact SZ0.out); (· exact S0.out); refine Marker.mk ?_)
  refine Marker.in ?_
  replace KT := Lib.hid (show TabB (w3.setRow g9 si) g T from Blk.setRow_other KT.out g9 si (by omega))
  replace ON := Lib.hid (ON.out.trans2 (g2 := g9) (by omega) (only_row (g := g9) (W := w3) si) (by have := ON.out.size; omega))
  replace K9 := Lib.hid (K9.out.setRow si)
  generalize w3.setRow g9 si = w4 at *
  have c2 : w4.cell? ⟨g, 120, none⟩ = some (.int .i64 T.beat) := (CB.out _ KT.out).1
  go_wp2_with fail
  rw [HSI.out] at K9
  ((with_reducible refine (CH.out _ g9 K9.out).mono ?_))
  rintro e w5 ⟨rfl, k9, o9⟩
  replace KT := Lib.hid (show TabB w5 g T from o9.blk KT.out (by omega))
  replace ON := Lib.hid (ON.out.trans2 (g2 := g9) (by omega) o9 (by have := ON.out.size; omega))
  have K10 : Hid (Blk w5 g9 sv.toArray 98) := Lib.hid (by rw [HSV.out]; exact k9)
  clear k9 o9 K9 c2 CH HSI
  have ltT := Blk.lt KT.out
  go_wp2_with fail
  refine wp_region_qx 7 (by kernel_rfl) (by kernel_rfl) ?_
  simp only [List.take_succ_cons, List.take_zero, List.drop_succ_cons, List.drop_zero]
  repeat (first
        | go_big_quiet_skip
        | (go_big_quiet_want
           first
             | (refine quiet_load_blk (T := 98) (g := g9) agg_ses _ rfl rfl K10 ?_ ?_; (· exact SZ.out); go_simp; go_big_quiet_on)
             | (go_big_quiet_op
                first
                  | go_big_quiet_on
                  | go_big_quiet_call ((fail)))))
  refine wpQuiet_nil ?_
  intro _ hw'
  obtain ⟨y8, rfl⟩ := hw'
  have by_ := exw_bel y8
  replace KT := Lib.hid (KT.out.below by_)
  replace ON := Lib.hid (ON.out.trans (Only.of_below by_))
  clear by_
  generalize exw w5 y8 = w6 at *
  have KF := Lib.hid (TP.out w6 KT.out)
  replace ON := Lib.hid (ON.out.trans (only_cells (g := g) sv 42 w6))
  replace TH := Lib.hid (TH.out w6 KT.out)
  go_wp2_with ((with_reducible show wpList _ _ _ (⟨_, .store 98 _ _, _, _, _, none⟩ :: _) _ _); (with_reducible refine wpList_store_mid rfl 98 _ _ rfl g 42 sv.toArray ?_ ?_ ?_ ?_ ?_ ?_); (· rfl); (· rfl); (· rw [SZ.out]; exact TH.out); (· rw [SZ.out]; exact agg_ses.2); (· exact S1.out))
  go_ret
  exact ⟨rfl, KF.out, ON.out⟩
set_option maxRecDepth 100000 in
set_option maxHeartbeats 1600000 in
theorem start_ok_2_false (g : Nat) (T : Tab) (role : Int) (key : List Int) (w : World) (K : TabB w g T) (h : T.ok) (hr0 : 0 ≤ role) (hr1 : role ≤ 3) (hk : key.length = 32) (hon : (T.ses 1).on = false) (hm : T.many < T.most) :
    Calls Tryd.prog 27 #[.pointer (some ⟨g, 0, none⟩), .int .i64 2, .int .i64 role, .agg (u8V key)] w fun e w' => e = .returned (.int .i64 0) ∧ TabB w' g (T.put 1 (sesB true (max T.beat 0) role key)) ∧ Only g w w' := by
  have d3 : decide (role < 0) = false := decide_eq_false (by omega)
  have d4 : decide (4 ≤ role) = false := decide_eq_false (by omega)
  have hof : T.of g 2 = .pointer none := by
    unfold Tab.of
    rw [if_pos (by omega)]
    show (if (T.ses 1).on then Value.pointer (some ⟨g, 42, none⟩) else Value.pointer none) = _
    rw [hon]
    rfl
  have CO : Hid (∀ W, TabB W g T → Calls Tryd.prog 48 #[.pointer (some ⟨g, 0, none⟩), .int .i64 2] W fun e w' => e = .returned (.pointer none) ∧ W = w') := Lib.hid fun W hW => by have := tabf_of g T 2 W hW h; rwa [hof] at this
  have CM : Hid (∀ W, TabB W g T → Calls Tryd.prog 31 #[.pointer (some ⟨g, 0, none⟩)] W fun e w' => e = .returned (.int .i64 T.many) ∧ W = w') := Lib.hid fun W hW => tabf_many g T W hW h
  have dm : decide (T.most ≤ T.many) = false := decide_eq_false (by omega)
  have TP := Lib.hid (fun W (k : TabB W g T) => tab_put k h 1 (sesB true (max T.beat 0) role key) hk)
  have TH := Lib.hid (fun W (k : TabB W g T) => (blk_there k (o := 42) (n := 39) (by rw [tab_size k h]; omega)))
  have CB := Lib.hid (fun W (k : TabB W g T) => tab_beat k h)
  have BS := Lib.hid (built_ses role key hk)
  have CH := Lib.hid (fun W (g9 : Nat) (k : Blk W g9 (sesB false 0 role key).v.toArray 98) => heard_any g9 0 [] ([Value.int .i64 role] ++ (key.map (Value.int .u8) ++ wcells none)) (.bool false) (.int .i64 0) (.int .i64 0) 98 T.beat W k rfl)
  have HK := Lib.hid hk
  have hks : Hid ((u8V key).size = 32) := Lib.hid (by rw [u8V_size, hk])
  have SZ := Lib.hid (show (sesB true (max T.beat 0) role key).v.toArray.size = 39 from Ses.v_len hk)
  have SZ0 := Lib.hid (show (sesB false 0 role key).v.toArray.size = 39 from Ses.v_len hk)
  have S1 := Lib.hid (ses_one (sesB true (max T.beat 0) role key))
  have S0 := Lib.hid (ses_one (sesB false 0 role key))
  have SZZ := Lib.hid (show ses0.v.toArray.size = 39 from Ses.v_len rfl)
  have KT := Lib.hid K
  have lg := Blk.lt K
  clear hof hk hon hm K h
  obtain ⟨kv, hkv⟩ : ∃ x, x = u8V key := ⟨_, rfl⟩
  rw [← hkv] at BS hks ⊢
  obtain ⟨si, hsi⟩ : ∃ x, x = (sesB false 0 role key).v.toArray := ⟨_, rfl⟩
  rw [← hsi] at BS SZ0 S0
  obtain ⟨sv, hsv⟩ : ∃ x, x = (sesB true (max T.beat 0) role key).v := ⟨_, rfl⟩
  obtain ⟨T2, hT2⟩ : ∃ x, x = T.put 1 (sesB true (max T.beat 0) role key) := ⟨_, rfl⟩
  rw [← hsv, ← hT2] at TP
  rw [← hT2]
  rw [← hsv] at SZ S1
  have HSV := Lib.hid hsv
  have HSI := Lib.hid hsi
  clear hkv hsi hsv hT2
  go_enter Tryd.func27, Tryd.ntmps27
  go_wp2_with fail
  have K7 := Lib.hid (Blk.new w kv 22)
  have b1 := below_alloc1 w (.cells kv 22)
  replace KT := Lib.hid (KT.out.below b1)
  have ON : Hid (Only g w (w.alloc (.cells kv 22))) := Lib.hid (Only.of_below b1)
  have l7 := K7.out.lt
  generalize w.alloc (.cells kv 22) = w1 at *
  clear b1
  have KX : Hid (∀ y : Ext w1, TabB (exw w1 y) g T) := Lib.hid fun y => KT.out.below (exw_bel y)
  have c1 : ∀ y : Ext w1, (exw w1 y).cell? ⟨g, 121, none⟩ = some (.int .i64 T.most) := fun y => (CB.out _ (KX.out y)).2
  refine wp_region_ext (by kernel_rfl) (by kernel_rfl) ?_
  repeat (first
        | go_big_quiet_skip
        | (go_big_quiet_want
           first
             | (go_big_quiet_op
                first
                  | go_big_quiet_on
                  | go_big_quiet_call (((first | (with_reducible refine ext_of_same (CO.out _ (KX.out _))) | (with_reducible refine ext_of_same (CM.out _ (KX.out _)))))))))
  refine wpQuiet_nil ?_
  intro _ hw'
  obtain ⟨y9, rfl⟩ := hw'
  have by_ := exw_bel y9
  replace KT := Lib.hid (KT.out.below by_)
  replace K7 := Lib.hid (K7.out.below by_)
  replace ON := Lib.hid (ON.out.trans (Only.of_below by_))
  clear c1 KX CO CM by_
  generalize exw w1 y9 = w2 at *
  go_wp2_with (first | ((with_reducible show wpList _ _ _ (⟨_, .load 22 _, _, _, _, none⟩ :: _) _ _); (with_reducible refine wpBlk_load (g := w.heap.size) agg_b32 ?_ ?_ K7 ?_ ?_); (· exact wanted0 rfl); (· exact ⟨rfl, rfl⟩); (· exact hks.out)) | ((with_reducible show wpList _ _ _ (⟨some 39, _, _, _, _, _⟩ :: _) _ _); refine wpList_build' rfl 98 _ rfl si BS.out ?_) | ((with_reducible show wpList _ _ _ (⟨_, .alloc 98, _, _, _, none⟩ :: _) _ _); (with_reducible refine wpRow_alloc zeroT_ses ?_ ?_ ?_); (· exact wanted0 rfl); (· rfl); refine Marker.mk ?_))
  refine Marker.in ?_
  have l2 := K7.out.lt
  have lt2 := Blk.lt KT.out
  have b3 := below_alloc1 w2 (.cells ses0.v.toArray 98)
  replace KT := Lib.hid (KT.out.below b3)
  replace ON := Lib.hid (ON.out.trans (Only.of_below b3))
  have K9 := Lib.hid (Blk.new w2 ses0.v.toArray 98)
  clear b3
  generalize w2.alloc (.cells ses0.v.toArray 98) = w3 at *
  generalize w2.heap.size = g9 at *
  go_wp2_with ((with_reducible show wpList _ _ _ (⟨_, .store 98 _ _, _, _, _, none⟩ :: _) _ _); (with_reducible refine wpBlk_store (g := g9) (cs := si) agg_ses ?_ ?_ K9 ?_ ?_ ?_ ?_); (· exact wanted0 rfl); (· exact ⟨rfl, rfl, rfl⟩); (· exact SZZ.out); (· exact SZ0.out); (· exact S0.out); refine Marker.mk ?_)
  refine Marker.in ?_
  replace KT := Lib.hid (show TabB (w3.setRow g9 si) g T from Blk.setRow_other KT.out g9 si (by omega))
  replace ON := Lib.hid (ON.out.trans2 (g2 := g9) (by omega) (only_row (g := g9) (W := w3) si) (by have := ON.out.size; omega))
  replace K9 := Lib.hid (K9.out.setRow si)
  generalize w3.setRow g9 si = w4 at *
  have c2 : w4.cell? ⟨g, 120, none⟩ = some (.int .i64 T.beat) := (CB.out _ KT.out).1
  go_wp2_with fail
  rw [HSI.out] at K9
  ((with_reducible refine (CH.out _ g9 K9.out).mono ?_))
  rintro e w5 ⟨rfl, k9, o9⟩
  replace KT := Lib.hid (show TabB w5 g T from o9.blk KT.out (by omega))
  replace ON := Lib.hid (ON.out.trans2 (g2 := g9) (by omega) o9 (by have := ON.out.size; omega))
  have K10 : Hid (Blk w5 g9 sv.toArray 98) := Lib.hid (by rw [HSV.out]; exact k9)
  clear k9 o9 K9 c2 CH HSI
  have ltT := Blk.lt KT.out
  go_wp2_with fail
  refine wp_region_qx 7 (by kernel_rfl) (by kernel_rfl) ?_
  simp only [List.take_succ_cons, List.take_zero, List.drop_succ_cons, List.drop_zero]
  repeat (first
        | go_big_quiet_skip
        | (go_big_quiet_want
           first
             | (refine quiet_load_blk (T := 98) (g := g9) agg_ses _ rfl rfl K10 ?_ ?_; (· exact SZ.out); go_simp; go_big_quiet_on)
             | (go_big_quiet_op
                first
                  | go_big_quiet_on
                  | go_big_quiet_call ((fail)))))
  refine wpQuiet_nil ?_
  intro _ hw'
  obtain ⟨y8, rfl⟩ := hw'
  have by_ := exw_bel y8
  replace KT := Lib.hid (KT.out.below by_)
  replace ON := Lib.hid (ON.out.trans (Only.of_below by_))
  clear by_
  generalize exw w5 y8 = w6 at *
  have KF := Lib.hid (TP.out w6 KT.out)
  replace ON := Lib.hid (ON.out.trans (only_cells (g := g) sv 42 w6))
  replace TH := Lib.hid (TH.out w6 KT.out)
  go_wp2_with ((with_reducible show wpList _ _ _ (⟨_, .store 98 _ _, _, _, _, none⟩ :: _) _ _); (with_reducible refine wpList_store_mid rfl 98 _ _ rfl g 42 sv.toArray ?_ ?_ ?_ ?_ ?_ ?_); (· rfl); (· rfl); (· rw [SZ.out]; exact TH.out); (· rw [SZ.out]; exact agg_ses.2); (· exact S1.out))
  go_ret
  exact ⟨rfl, KF.out, ON.out⟩
set_option maxRecDepth 100000 in
set_option maxHeartbeats 1600000 in
theorem start_full_2 (g : Nat) (T : Tab) (role : Int) (key : List Int) (w : World) (K : TabB w g T) (h : T.ok) (hr0 : 0 ≤ role) (hr1 : role ≤ 3) (hk : key.length = 32) (hon : (T.ses 1).on = false) (hm : T.most ≤ T.many) :
    Calls Tryd.prog 27 #[.pointer (some ⟨g, 0, none⟩), .int .i64 2, .int .i64 role, .agg (u8V key)] w fun e w' => e = .returned (.int .i64 19) ∧ TabB w' g T ∧ Only g w w' := by
  have d3 : decide (role < 0) = false := decide_eq_false (by omega)
  have d4 : decide (4 ≤ role) = false := decide_eq_false (by omega)
  have hof : T.of g 2 = .pointer none := by
    unfold Tab.of
    rw [if_pos (by omega)]
    show (if (T.ses 1).on then Value.pointer (some ⟨g, 42, none⟩) else Value.pointer none) = _
    rw [hon]
    rfl
  have CO : Hid (∀ W, TabB W g T → Calls Tryd.prog 48 #[.pointer (some ⟨g, 0, none⟩), .int .i64 2] W fun e w' => e = .returned (.pointer none) ∧ W = w') := Lib.hid fun W hW => by have := tabf_of g T 2 W hW h; rwa [hof] at this
  have CM : Hid (∀ W, TabB W g T → Calls Tryd.prog 31 #[.pointer (some ⟨g, 0, none⟩)] W fun e w' => e = .returned (.int .i64 T.many) ∧ W = w') := Lib.hid fun W hW => tabf_many g T W hW h
  have dm : decide (T.most ≤ T.many) = true := decide_eq_true hm
  have TP := Lib.hid (fun W (k : TabB W g T) => tab_put k h 1 (sesB true (max T.beat 0) role key) hk)
  have TH := Lib.hid (fun W (k : TabB W g T) => (blk_there k (o := 42) (n := 39) (by rw [tab_size k h]; omega)))
  have CB := Lib.hid (fun W (k : TabB W g T) => tab_beat k h)
  have BS := Lib.hid (built_ses role key hk)
  have CH := Lib.hid (fun W (g9 : Nat) (k : Blk W g9 (sesB false 0 role key).v.toArray 98) => heard_any g9 0 [] ([Value.int .i64 role] ++ (key.map (Value.int .u8) ++ wcells none)) (.bool false) (.int .i64 0) (.int .i64 0) 98 T.beat W k rfl)
  have HK := Lib.hid hk
  have hks : Hid ((u8V key).size = 32) := Lib.hid (by rw [u8V_size, hk])
  have SZ := Lib.hid (show (sesB true (max T.beat 0) role key).v.toArray.size = 39 from Ses.v_len hk)
  have SZ0 := Lib.hid (show (sesB false 0 role key).v.toArray.size = 39 from Ses.v_len hk)
  have S1 := Lib.hid (ses_one (sesB true (max T.beat 0) role key))
  have S0 := Lib.hid (ses_one (sesB false 0 role key))
  have SZZ := Lib.hid (show ses0.v.toArray.size = 39 from Ses.v_len rfl)
  have KT := Lib.hid K
  have lg := Blk.lt K
  clear hof hk hon hm K h
  obtain ⟨kv, hkv⟩ : ∃ x, x = u8V key := ⟨_, rfl⟩
  rw [← hkv] at BS hks ⊢
  obtain ⟨si, hsi⟩ : ∃ x, x = (sesB false 0 role key).v.toArray := ⟨_, rfl⟩
  rw [← hsi] at BS SZ0 S0
  obtain ⟨sv, hsv⟩ : ∃ x, x = (sesB true (max T.beat 0) role key).v := ⟨_, rfl⟩
  obtain ⟨T2, hT2⟩ : ∃ x, x = T.put 1 (sesB true (max T.beat 0) role key) := ⟨_, rfl⟩
  
  rw [← hsv] at SZ S1
  have HSV := Lib.hid hsv
  have HSI := Lib.hid hsi
  clear hkv hsi hsv hT2 TP TH
  go_enter Tryd.func27, Tryd.ntmps27
  go_wp2_with fail
  have K7 := Lib.hid (Blk.new w kv 22)
  have b1 := below_alloc1 w (.cells kv 22)
  replace KT := Lib.hid (KT.out.below b1)
  have ON : Hid (Only g w (w.alloc (.cells kv 22))) := Lib.hid (Only.of_below b1)
  have l7 := K7.out.lt
  generalize w.alloc (.cells kv 22) = w1 at *
  clear b1
  have KX : Hid (∀ y : Ext w1, TabB (exw w1 y) g T) := Lib.hid fun y => KT.out.below (exw_bel y)
  have c1 : ∀ y : Ext w1, (exw w1 y).cell? ⟨g, 121, none⟩ = some (.int .i64 T.most) := fun y => (CB.out _ (KX.out y)).2
  refine wp_region_ext (by kernel_rfl) (by kernel_rfl) ?_
  repeat (first
        | go_big_quiet_skip
        | (go_big_quiet_want
           first
             | (go_big_quiet_op
                first
                  | go_big_quiet_on
                  | go_big_quiet_call (((first | (with_reducible refine ext_of_same (CO.out _ (KX.out _))) | (with_reducible refine ext_of_same (CM.out _ (KX.out _)))))))))
  refine wpQuiet_nil ?_
  intro _ hw'
  obtain ⟨y9, rfl⟩ := hw'
  have by_ := exw_bel y9
  replace KT := Lib.hid (KT.out.below by_)
  replace K7 := Lib.hid (K7.out.below by_)
  replace ON := Lib.hid (ON.out.trans (Only.of_below by_))
  clear c1 KX CO CM by_
  generalize exw w1 y9 = w2 at *
  go_wp2_with fail
  go_ret
  exact ⟨rfl, KT.out, ON.out⟩
set_option maxRecDepth 100000 in
set_option maxHeartbeats 1600000 in
theorem start_ok_3_true (g : Nat) (T : Tab) (role : Int) (key : List Int) (w : World) (K : TabB w g T) (h : T.ok) (hr0 : 0 ≤ role) (hr1 : role ≤ 3) (hk : key.length = 32) (hon : (T.ses 2).on = true) :
    Calls Tryd.prog 27 #[.pointer (some ⟨g, 0, none⟩), .int .i64 3, .int .i64 role, .agg (u8V key)] w fun e w' => e = .returned (.int .i64 0) ∧ TabB w' g (T.put 2 (sesB true (max T.beat 0) role key)) ∧ Only g w w' := by
  have d3 : decide (role < 0) = false := decide_eq_false (by omega)
  have d4 : decide (4 ≤ role) = false := decide_eq_false (by omega)
  have hof : T.of g 3 = .pointer (some ⟨g, 81, none⟩) := by
    unfold Tab.of
    rw [if_pos (by omega)]
    show (if (T.ses 2).on then Value.pointer (some ⟨g, 81, none⟩) else Value.pointer none) = _
    rw [hon]
    rfl
  have CO : Hid (∀ W, TabB W g T → Calls Tryd.prog 48 #[.pointer (some ⟨g, 0, none⟩), .int .i64 3] W fun e w' => e = .returned (.pointer (some ⟨g, 81, none⟩)) ∧ W = w') := Lib.hid fun W hW => by have := tabf_of g T 3 W hW h; rwa [hof] at this
  have CM : Hid (∀ W, TabB W g T → Calls Tryd.prog 31 #[.pointer (some ⟨g, 0, none⟩)] W fun e w' => e = .returned (.int .i64 T.many) ∧ W = w') := Lib.hid fun W hW => tabf_many g T W hW h
  have TP := Lib.hid (fun W (k : TabB W g T) => tab_put k h 2 (sesB true (max T.beat 0) role key) hk)
  have TH := Lib.hid (fun W (k : TabB W g T) => (blk_there k (o := 81) (n := 39) (by rw [tab_size k h]; omega)))
  have CB := Lib.hid (fun W (k : TabB W g T) => tab_beat k h)
  have BS := Lib.hid (built_ses role key hk)
  have CH := Lib.hid (fun W (g9 : Nat) (k : Blk W g9 (sesB false 0 role key).v.toArray 98) => heard_any g9 0 [] ([Value.int .i64 role] ++ (key.map (Value.int .u8) ++ wcells none)) (.bool false) (.int .i64 0) (.int .i64 0) 98 T.beat W k rfl)
  have HK := Lib.hid hk
  have hks : Hid ((u8V key).size = 32) := Lib.hid (by rw [u8V_size, hk])
  have SZ := Lib.hid (show (sesB true (max T.beat 0) role key).v.toArray.size = 39 from Ses.v_len hk)
  have SZ0 := Lib.hid (show (sesB false 0 role key).v.toArray.size = 39 from Ses.v_len hk)
  have S1 := Lib.hid (ses_one (sesB true (max T.beat 0) role key))
  have S0 := Lib.hid (ses_one (sesB false 0 role key))
  have SZZ := Lib.hid (show ses0.v.toArray.size = 39 from Ses.v_len rfl)
  have KT := Lib.hid K
  have lg := Blk.lt K
  clear hof hk hon K h
  obtain ⟨kv, hkv⟩ : ∃ x, x = u8V key := ⟨_, rfl⟩
  rw [← hkv] at BS hks ⊢
  obtain ⟨si, hsi⟩ : ∃ x, x = (sesB false 0 role key).v.toArray := ⟨_, rfl⟩
  rw [← hsi] at BS SZ0 S0
  obtain ⟨sv, hsv⟩ : ∃ x, x = (sesB true (max T.beat 0) role key).v := ⟨_, rfl⟩
  obtain ⟨T2, hT2⟩ : ∃ x, x = T.put 2 (sesB true (max T.beat 0) role key) := ⟨_, rfl⟩
  rw [← hsv, ← hT2] at TP
  rw [← hT2]
  rw [← hsv] at SZ S1
  have HSV := Lib.hid hsv
  have HSI := Lib.hid hsi
  clear hkv hsi hsv hT2
  go_enter Tryd.func27, Tryd.ntmps27
  go_wp2_with fail
  have K7 := Lib.hid (Blk.new w kv 22)
  have b1 := below_alloc1 w (.cells kv 22)
  replace KT := Lib.hid (KT.out.below b1)
  have ON : Hid (Only g w (w.alloc (.cells kv 22))) := Lib.hid (Only.of_below b1)
  have l7 := K7.out.lt
  generalize w.alloc (.cells kv 22) = w1 at *
  clear b1
  have KX : Hid (∀ y : Ext w1, TabB (exw w1 y) g T) := Lib.hid fun y => KT.out.below (exw_bel y)
  have c1 : ∀ y : Ext w1, (exw w1 y).cell? ⟨g, 121, none⟩ = some (.int .i64 T.most) := fun y => (CB.out _ (KX.out y)).2
  refine wp_region_ext (by kernel_rfl) (by kernel_rfl) ?_
  repeat (first
        | go_big_quiet_skip
        | (go_big_quiet_want
           first
             | (go_big_quiet_op
                first
                  | go_big_quiet_on
                  | go_big_quiet_call (((first | (with_reducible refine ext_of_same (CO.out _ (KX.out _))) | (with_reducible refine ext_of_same (CM.out _ (KX.out _)))))))))
  refine wpQuiet_nil ?_
  intro _ hw'
  obtain ⟨y9, rfl⟩ := hw'
  have by_ := exw_bel y9
  replace KT := Lib.hid (KT.out.below by_)
  replace K7 := Lib.hid (K7.out.below by_)
  replace ON := Lib.hid (ON.out.trans (Only.of_below by_))
  clear c1 KX CO CM by_
  generalize exw w1 y9 = w2 at *
  go_wp2_with (first | ((with_reducible show wpList _ _ _ (⟨_, .load 22 _, _, _, _, none⟩ :: _) _ _); (with_reducible refine wpBlk_load (g := w.heap.size) agg_b32 ?_ ?_ K7 ?_ ?_); (· exact wanted0 rfl); (· exact ⟨rfl, rfl⟩); (· exact hks.out)) | ((with_reducible show wpList _ _ _ (⟨some 39, _, _, _, _, _⟩ :: _) _ _); refine wpList_build' rfl 98 _ rfl si BS.out ?_) | ((with_reducible show wpList _ _ _ (⟨_, .alloc 98, _, _, _, none⟩ :: _) _ _); (with_reducible refine wpRow_alloc zeroT_ses ?_ ?_ ?_); (· exact wanted0 rfl); (· rfl); refine Marker.mk ?_))
  refine Marker.in ?_
  have l2 := K7.out.lt
  have lt2 := Blk.lt KT.out
  have b3 := below_alloc1 w2 (.cells ses0.v.toArray 98)
  replace KT := Lib.hid (KT.out.below b3)
  replace ON := Lib.hid (ON.out.trans (Only.of_below b3))
  have K9 := Lib.hid (Blk.new w2 ses0.v.toArray 98)
  clear b3
  generalize w2.alloc (.cells ses0.v.toArray 98) = w3 at *
  generalize w2.heap.size = g9 at *
  go_wp2_with ((with_reducible show wpList _ _ _ (⟨_, .store 98 _ _, _, _, _, none⟩ :: _) _ _); (with_reducible refine wpBlk_store (g := g9) (cs := si) agg_ses ?_ ?_ K9 ?_ ?_ ?_ ?_); (· exact wanted0 rfl); (· exact ⟨rfl, rfl, rfl⟩); (· exact SZZ.out); (· exact SZ0.out); (· exact S0.out); refine Marker.mk ?_)
  refine Marker.in ?_
  replace KT := Lib.hid (show TabB (w3.setRow g9 si) g T from Blk.setRow_other KT.out g9 si (by omega))
  replace ON := Lib.hid (ON.out.trans2 (g2 := g9) (by omega) (only_row (g := g9) (W := w3) si) (by have := ON.out.size; omega))
  replace K9 := Lib.hid (K9.out.setRow si)
  generalize w3.setRow g9 si = w4 at *
  have c2 : w4.cell? ⟨g, 120, none⟩ = some (.int .i64 T.beat) := (CB.out _ KT.out).1
  go_wp2_with fail
  rw [HSI.out] at K9
  ((with_reducible refine (CH.out _ g9 K9.out).mono ?_))
  rintro e w5 ⟨rfl, k9, o9⟩
  replace KT := Lib.hid (show TabB w5 g T from o9.blk KT.out (by omega))
  replace ON := Lib.hid (ON.out.trans2 (g2 := g9) (by omega) o9 (by have := ON.out.size; omega))
  have K10 : Hid (Blk w5 g9 sv.toArray 98) := Lib.hid (by rw [HSV.out]; exact k9)
  clear k9 o9 K9 c2 CH HSI
  have ltT := Blk.lt KT.out
  go_wp2_with fail
  refine wp_region_qx 7 (by kernel_rfl) (by kernel_rfl) ?_
  simp only [List.take_succ_cons, List.take_zero, List.drop_succ_cons, List.drop_zero]
  repeat (first
        | go_big_quiet_skip
        | (go_big_quiet_want
           first
             | (refine quiet_load_blk (T := 98) (g := g9) agg_ses _ rfl rfl K10 ?_ ?_; (· exact SZ.out); go_simp; go_big_quiet_on)
             | (go_big_quiet_op
                first
                  | go_big_quiet_on
                  | go_big_quiet_call ((fail)))))
  refine wpQuiet_nil ?_
  intro _ hw'
  obtain ⟨y8, rfl⟩ := hw'
  have by_ := exw_bel y8
  replace KT := Lib.hid (KT.out.below by_)
  replace ON := Lib.hid (ON.out.trans (Only.of_below by_))
  clear by_
  generalize exw w5 y8 = w6 at *
  have KF := Lib.hid (TP.out w6 KT.out)
  replace ON := Lib.hid (ON.out.trans (only_cells (g := g) sv 81 w6))
  replace TH := Lib.hid (TH.out w6 KT.out)
  go_wp2_with ((with_reducible show wpList _ _ _ (⟨_, .store 98 _ _, _, _, _, none⟩ :: _) _ _); (with_reducible refine wpList_store_mid rfl 98 _ _ rfl g 81 sv.toArray ?_ ?_ ?_ ?_ ?_ ?_); (· rfl); (· rfl); (· rw [SZ.out]; exact TH.out); (· rw [SZ.out]; exact agg_ses.2); (· exact S1.out))
  go_ret
  exact ⟨rfl, KF.out, ON.out⟩
set_option maxRecDepth 100000 in
set_option maxHeartbeats 1600000 in
theorem start_ok_3_false (g : Nat) (T : Tab) (role : Int) (key : List Int) (w : World) (K : TabB w g T) (h : T.ok) (hr0 : 0 ≤ role) (hr1 : role ≤ 3) (hk : key.length = 32) (hon : (T.ses 2).on = false) (hm : T.many < T.most) :
    Calls Tryd.prog 27 #[.pointer (some ⟨g, 0, none⟩), .int .i64 3, .int .i64 role, .agg (u8V key)] w fun e w' => e = .returned (.int .i64 0) ∧ TabB w' g (T.put 2 (sesB true (max T.beat 0) role key)) ∧ Only g w w' := by
  have d3 : decide (role < 0) = false := decide_eq_false (by omega)
  have d4 : decide (4 ≤ role) = false := decide_eq_false (by omega)
  have hof : T.of g 3 = .pointer none := by
    unfold Tab.of
    rw [if_pos (by omega)]
    show (if (T.ses 2).on then Value.pointer (some ⟨g, 81, none⟩) else Value.pointer none) = _
    rw [hon]
    rfl
  have CO : Hid (∀ W, TabB W g T → Calls Tryd.prog 48 #[.pointer (some ⟨g, 0, none⟩), .int .i64 3] W fun e w' => e = .returned (.pointer none) ∧ W = w') := Lib.hid fun W hW => by have := tabf_of g T 3 W hW h; rwa [hof] at this
  have CM : Hid (∀ W, TabB W g T → Calls Tryd.prog 31 #[.pointer (some ⟨g, 0, none⟩)] W fun e w' => e = .returned (.int .i64 T.many) ∧ W = w') := Lib.hid fun W hW => tabf_many g T W hW h
  have dm : decide (T.most ≤ T.many) = false := decide_eq_false (by omega)
  have TP := Lib.hid (fun W (k : TabB W g T) => tab_put k h 2 (sesB true (max T.beat 0) role key) hk)
  have TH := Lib.hid (fun W (k : TabB W g T) => (blk_there k (o := 81) (n := 39) (by rw [tab_size k h]; omega)))
  have CB := Lib.hid (fun W (k : TabB W g T) => tab_beat k h)
  have BS := Lib.hid (built_ses role key hk)
  have CH := Lib.hid (fun W (g9 : Nat) (k : Blk W g9 (sesB false 0 role key).v.toArray 98) => heard_any g9 0 [] ([Value.int .i64 role] ++ (key.map (Value.int .u8) ++ wcells none)) (.bool false) (.int .i64 0) (.int .i64 0) 98 T.beat W k rfl)
  have HK := Lib.hid hk
  have hks : Hid ((u8V key).size = 32) := Lib.hid (by rw [u8V_size, hk])
  have SZ := Lib.hid (show (sesB true (max T.beat 0) role key).v.toArray.size = 39 from Ses.v_len hk)
  have SZ0 := Lib.hid (show (sesB false 0 role key).v.toArray.size = 39 from Ses.v_len hk)
  have S1 := Lib.hid (ses_one (sesB true (max T.beat 0) role key))
  have S0 := Lib.hid (ses_one (sesB false 0 role key))
  have SZZ := Lib.hid (show ses0.v.toArray.size = 39 from Ses.v_len rfl)
  have KT := Lib.hid K
  have lg := Blk.lt K
  clear hof hk hon hm K h
  obtain ⟨kv, hkv⟩ : ∃ x, x = u8V key := ⟨_, rfl⟩
  rw [← hkv] at BS hks ⊢
  obtain ⟨si, hsi⟩ : ∃ x, x = (sesB false 0 role key).v.toArray := ⟨_, rfl⟩
  rw [← hsi] at BS SZ0 S0
  obtain ⟨sv, hsv⟩ : ∃ x, x = (sesB true (max T.beat 0) role key).v := ⟨_, rfl⟩
  obtain ⟨T2, hT2⟩ : ∃ x, x = T.put 2 (sesB true (max T.beat 0) role key) := ⟨_, rfl⟩
  rw [← hsv, ← hT2] at TP
  rw [← hT2]
  rw [← hsv] at SZ S1
  have HSV := Lib.hid hsv
  have HSI := Lib.hid hsi
  clear hkv hsi hsv hT2
  go_enter Tryd.func27, Tryd.ntmps27
  go_wp2_with fail
  have K7 := Lib.hid (Blk.new w kv 22)
  have b1 := below_alloc1 w (.cells kv 22)
  replace KT := Lib.hid (KT.out.below b1)
  have ON : Hid (Only g w (w.alloc (.cells kv 22))) := Lib.hid (Only.of_below b1)
  have l7 := K7.out.lt
  generalize w.alloc (.cells kv 22) = w1 at *
  clear b1
  have KX : Hid (∀ y : Ext w1, TabB (exw w1 y) g T) := Lib.hid fun y => KT.out.below (exw_bel y)
  have c1 : ∀ y : Ext w1, (exw w1 y).cell? ⟨g, 121, none⟩ = some (.int .i64 T.most) := fun y => (CB.out _ (KX.out y)).2
  refine wp_region_ext (by kernel_rfl) (by kernel_rfl) ?_
  repeat (first
        | go_big_quiet_skip
        | (go_big_quiet_want
           first
             | (go_big_quiet_op
                first
                  | go_big_quiet_on
                  | go_big_quiet_call (((first | (with_reducible refine ext_of_same (CO.out _ (KX.out _))) | (with_reducible refine ext_of_same (CM.out _ (KX.out _)))))))))
  refine wpQuiet_nil ?_
  intro _ hw'
  obtain ⟨y9, rfl⟩ := hw'
  have by_ := exw_bel y9
  replace KT := Lib.hid (KT.out.below by_)
  replace K7 := Lib.hid (K7.out.below by_)
  replace ON := Lib.hid (ON.out.trans (Only.of_below by_))
  clear c1 KX CO CM by_
  generalize exw w1 y9 = w2 at *
  go_wp2_with (first | ((with_reducible show wpList _ _ _ (⟨_, .load 22 _, _, _, _, none⟩ :: _) _ _); (with_reducible refine wpBlk_load (g := w.heap.size) agg_b32 ?_ ?_ K7 ?_ ?_); (· exact wanted0 rfl); (· exact ⟨rfl, rfl⟩); (· exact hks.out)) | ((with_reducible show wpList _ _ _ (⟨some 39, _, _, _, _, _⟩ :: _) _ _); refine wpList_build' rfl 98 _ rfl si BS.out ?_) | ((with_reducible show wpList _ _ _ (⟨_, .alloc 98, _, _, _, none⟩ :: _) _ _); (with_reducible refine wpRow_alloc zeroT_ses ?_ ?_ ?_); (· exact wanted0 rfl); (· rfl); refine Marker.mk ?_))
  refine Marker.in ?_
  have l2 := K7.out.lt
  have lt2 := Blk.lt KT.out
  have b3 := below_alloc1 w2 (.cells ses0.v.toArray 98)
  replace KT := Lib.hid (KT.out.below b3)
  replace ON := Lib.hid (ON.out.trans (Only.of_below b3))
  have K9 := Lib.hid (Blk.new w2 ses0.v.toArray 98)
  clear b3
  generalize w2.alloc (.cells ses0.v.toArray 98) = w3 at *
  generalize w2.heap.size = g9 at *
  go_wp2_with ((with_reducible show wpList _ _ _ (⟨_, .store 98 _ _, _, _, _, none⟩ :: _) _ _); (with_reducible refine wpBlk_store (g := g9) (cs := si) agg_ses ?_ ?_ K9 ?_ ?_ ?_ ?_); (· exact wanted0 rfl); (· exact ⟨rfl, rfl, rfl⟩); (· exact SZZ.out); (· exact SZ0.out); (· exact S0.out); refine Marker.mk ?_)
  refine Marker.in ?_
  replace KT := Lib.hid (show TabB (w3.setRow g9 si) g T from Blk.setRow_other KT.out g9 si (by omega))
  replace ON := Lib.hid (ON.out.trans2 (g2 := g9) (by omega) (only_row (g := g9) (W := w3) si) (by have := ON.out.size; omega))
  replace K9 := Lib.hid (K9.out.setRow si)
  generalize w3.setRow g9 si = w4 at *
  have c2 : w4.cell? ⟨g, 120, none⟩ = some (.int .i64 T.beat) := (CB.out _ KT.out).1
  go_wp2_with fail
  rw [HSI.out] at K9
  ((with_reducible refine (CH.out _ g9 K9.out).mono ?_))
  rintro e w5 ⟨rfl, k9, o9⟩
  replace KT := Lib.hid (show TabB w5 g T from o9.blk KT.out (by omega))
  replace ON := Lib.hid (ON.out.trans2 (g2 := g9) (by omega) o9 (by have := ON.out.size; omega))
  have K10 : Hid (Blk w5 g9 sv.toArray 98) := Lib.hid (by rw [HSV.out]; exact k9)
  clear k9 o9 K9 c2 CH HSI
  have ltT := Blk.lt KT.out
  go_wp2_with fail
  refine wp_region_qx 7 (by kernel_rfl) (by kernel_rfl) ?_
  simp only [List.take_succ_cons, List.take_zero, List.drop_succ_cons, List.drop_zero]
  repeat (first
        | go_big_quiet_skip
        | (go_big_quiet_want
           first
             | (refine quiet_load_blk (T := 98) (g := g9) agg_ses _ rfl rfl K10 ?_ ?_; (· exact SZ.out); go_simp; go_big_quiet_on)
             | (go_big_quiet_op
                first
                  | go_big_quiet_on
                  | go_big_quiet_call ((fail)))))
  refine wpQuiet_nil ?_
  intro _ hw'
  obtain ⟨y8, rfl⟩ := hw'
  have by_ := exw_bel y8
  replace KT := Lib.hid (KT.out.below by_)
  replace ON := Lib.hid (ON.out.trans (Only.of_below by_))
  clear by_
  generalize exw w5 y8 = w6 at *
  have KF := Lib.hid (TP.out w6 KT.out)
  replace ON := Lib.hid (ON.out.trans (only_cells (g := g) sv 81 w6))
  replace TH := Lib.hid (TH.out w6 KT.out)
  go_wp2_with ((with_reducible show wpList _ _ _ (⟨_, .store 98 _ _, _, _, _, none⟩ :: _) _ _); (with_reducible refine wpList_store_mid rfl 98 _ _ rfl g 81 sv.toArray ?_ ?_ ?_ ?_ ?_ ?_); (· rfl); (· rfl); (· rw [SZ.out]; exact TH.out); (· rw [SZ.out]; exact agg_ses.2); (· exact S1.out))
  go_ret
  exact ⟨rfl, KF.out, ON.out⟩
set_option maxRecDepth 100000 in
set_option maxHeartbeats 1600000 in
theorem start_full_3 (g : Nat) (T : Tab) (role : Int) (key : List Int) (w : World) (K : TabB w g T) (h : T.ok) (hr0 : 0 ≤ role) (hr1 : role ≤ 3) (hk : key.length = 32) (hon : (T.ses 2).on = false) (hm : T.most ≤ T.many) :
    Calls Tryd.prog 27 #[.pointer (some ⟨g, 0, none⟩), .int .i64 3, .int .i64 role, .agg (u8V key)] w fun e w' => e = .returned (.int .i64 19) ∧ TabB w' g T ∧ Only g w w' := by
  have d3 : decide (role < 0) = false := decide_eq_false (by omega)
  have d4 : decide (4 ≤ role) = false := decide_eq_false (by omega)
  have hof : T.of g 3 = .pointer none := by
    unfold Tab.of
    rw [if_pos (by omega)]
    show (if (T.ses 2).on then Value.pointer (some ⟨g, 81, none⟩) else Value.pointer none) = _
    rw [hon]
    rfl
  have CO : Hid (∀ W, TabB W g T → Calls Tryd.prog 48 #[.pointer (some ⟨g, 0, none⟩), .int .i64 3] W fun e w' => e = .returned (.pointer none) ∧ W = w') := Lib.hid fun W hW => by have := tabf_of g T 3 W hW h; rwa [hof] at this
  have CM : Hid (∀ W, TabB W g T → Calls Tryd.prog 31 #[.pointer (some ⟨g, 0, none⟩)] W fun e w' => e = .returned (.int .i64 T.many) ∧ W = w') := Lib.hid fun W hW => tabf_many g T W hW h
  have dm : decide (T.most ≤ T.many) = true := decide_eq_true hm
  have TP := Lib.hid (fun W (k : TabB W g T) => tab_put k h 2 (sesB true (max T.beat 0) role key) hk)
  have TH := Lib.hid (fun W (k : TabB W g T) => (blk_there k (o := 81) (n := 39) (by rw [tab_size k h]; omega)))
  have CB := Lib.hid (fun W (k : TabB W g T) => tab_beat k h)
  have BS := Lib.hid (built_ses role key hk)
  have CH := Lib.hid (fun W (g9 : Nat) (k : Blk W g9 (sesB false 0 role key).v.toArray 98) => heard_any g9 0 [] ([Value.int .i64 role] ++ (key.map (Value.int .u8) ++ wcells none)) (.bool false) (.int .i64 0) (.int .i64 0) 98 T.beat W k rfl)
  have HK := Lib.hid hk
  have hks : Hid ((u8V key).size = 32) := Lib.hid (by rw [u8V_size, hk])
  have SZ := Lib.hid (show (sesB true (max T.beat 0) role key).v.toArray.size = 39 from Ses.v_len hk)
  have SZ0 := Lib.hid (show (sesB false 0 role key).v.toArray.size = 39 from Ses.v_len hk)
  have S1 := Lib.hid (ses_one (sesB true (max T.beat 0) role key))
  have S0 := Lib.hid (ses_one (sesB false 0 role key))
  have SZZ := Lib.hid (show ses0.v.toArray.size = 39 from Ses.v_len rfl)
  have KT := Lib.hid K
  have lg := Blk.lt K
  clear hof hk hon hm K h
  obtain ⟨kv, hkv⟩ : ∃ x, x = u8V key := ⟨_, rfl⟩
  rw [← hkv] at BS hks ⊢
  obtain ⟨si, hsi⟩ : ∃ x, x = (sesB false 0 role key).v.toArray := ⟨_, rfl⟩
  rw [← hsi] at BS SZ0 S0
  obtain ⟨sv, hsv⟩ : ∃ x, x = (sesB true (max T.beat 0) role key).v := ⟨_, rfl⟩
  obtain ⟨T2, hT2⟩ : ∃ x, x = T.put 2 (sesB true (max T.beat 0) role key) := ⟨_, rfl⟩
  
  rw [← hsv] at SZ S1
  have HSV := Lib.hid hsv
  have HSI := Lib.hid hsi
  clear hkv hsi hsv hT2 TP TH
  go_enter Tryd.func27, Tryd.ntmps27
  go_wp2_with fail
  have K7 := Lib.hid (Blk.new w kv 22)
  have b1 := below_alloc1 w (.cells kv 22)
  replace KT := Lib.hid (KT.out.below b1)
  have ON : Hid (Only g w (w.alloc (.cells kv 22))) := Lib.hid (Only.of_below b1)
  have l7 := K7.out.lt
  generalize w.alloc (.cells kv 22) = w1 at *
  clear b1
  have KX : Hid (∀ y : Ext w1, TabB (exw w1 y) g T) := Lib.hid fun y => KT.out.below (exw_bel y)
  have c1 : ∀ y : Ext w1, (exw w1 y).cell? ⟨g, 121, none⟩ = some (.int .i64 T.most) := fun y => (CB.out _ (KX.out y)).2
  refine wp_region_ext (by kernel_rfl) (by kernel_rfl) ?_
  repeat (first
        | go_big_quiet_skip
        | (go_big_quiet_want
           first
             | (go_big_quiet_op
                first
                  | go_big_quiet_on
                  | go_big_quiet_call (((first | (with_reducible refine ext_of_same (CO.out _ (KX.out _))) | (with_reducible refine ext_of_same (CM.out _ (KX.out _)))))))))
  refine wpQuiet_nil ?_
  intro _ hw'
  obtain ⟨y9, rfl⟩ := hw'
  have by_ := exw_bel y9
  replace KT := Lib.hid (KT.out.below by_)
  replace K7 := Lib.hid (K7.out.below by_)
  replace ON := Lib.hid (ON.out.trans (Only.of_below by_))
  clear c1 KX CO CM by_
  generalize exw w1 y9 = w2 at *
  go_wp2_with fail
  go_ret
  exact ⟨rfl, KT.out, ON.out⟩
theorem tabf_start (g : Nat) (T : Tab) (src role : Int) (key : List Int) (w : World) (K : TabB w g T) (h : T.ok) (hk : key.length = 32) :
    Calls Tryd.prog 27 #[.pointer (some ⟨g, 0, none⟩), .int .i64 src, .int .i64 role, .agg (u8V key)] w (StartP T g src role key w) := by
  have hbad : ∀ (e : Ending) (w' : World), ¬ ((src = 1 ∨ src = 2 ∨ src = 3) ∧ 0 ≤ role ∧ role ≤ 3) → e = .returned (.int .i64 1) ∧ Below w.heap.size w w' → StartP T g src role key w e w' := by
    intro e w' hn ⟨he, hb⟩
    unfold StartP
    rw [if_neg hn]
    exact ⟨⟨he, K.below hb⟩, Only.of_below hb⟩
  by_cases h1 : src < 1
  · exact (start_bad1 g src role key w h1).mono fun e w' hp => hbad e w' (by omega) hp
  by_cases h2 : 3 < src
  · exact (start_bad2 g src role key w h2).mono fun e w' hp => hbad e w' (by omega) hp
  by_cases h3 : role < 0
  · exact (start_bad3 g src role key w (by omega) (by omega) h3).mono fun e w' hp => hbad e w' (by omega) hp
  by_cases h4 : 3 < role
  · exact (start_bad4 g src role key w (by omega) (by omega) h4).mono fun e w' hp => hbad e w' (by omega) hp
  have hs : src = 1 ∨ src = 2 ∨ src = 3 := by omega
  have hg : (src = 1 ∨ src = 2 ∨ src = 3) ∧ 0 ≤ role ∧ role ≤ 3 := ⟨hs, by omega, by omega⟩
  unfold StartP
  simp only [if_pos hg]
  rcases hs with rfl | rfl | rfl
  · show Calls _ _ _ _ fun e w' => (if (T.ses 0).on = false ∧ T.most ≤ T.many then e = .returned (.int .i64 19) ∧ TabB w' g T else e = .returned (.int .i64 0) ∧ TabB w' g (T.put 0 (sesB true (max T.beat 0) role key))) ∧ Only g w w'
    cases hon : (T.ses 0).on with
    | true => exact (start_ok_1_true g T role key w K h (by omega) (by omega) hk hon).mono fun e w' ⟨a, b, c⟩ => ⟨by rw [if_neg (fun h => by cases h.1)]; exact ⟨a, b⟩, c⟩
    | false =>
      by_cases hm : T.most ≤ T.many
      · exact (start_full_1 g T role key w K h (by omega) (by omega) hk hon hm).mono fun e w' ⟨a, b, c⟩ => ⟨by rw [if_pos ⟨rfl, hm⟩]; exact ⟨a, b⟩, c⟩
      · exact (start_ok_1_false g T role key w K h (by omega) (by omega) hk hon (by omega)).mono fun e w' ⟨a, b, c⟩ => ⟨by rw [if_neg (fun h => hm h.2)]; exact ⟨a, b⟩, c⟩
  · show Calls _ _ _ _ fun e w' => (if (T.ses 1).on = false ∧ T.most ≤ T.many then e = .returned (.int .i64 19) ∧ TabB w' g T else e = .returned (.int .i64 0) ∧ TabB w' g (T.put 1 (sesB true (max T.beat 0) role key))) ∧ Only g w w'
    cases hon : (T.ses 1).on with
    | true => exact (start_ok_2_true g T role key w K h (by omega) (by omega) hk hon).mono fun e w' ⟨a, b, c⟩ => ⟨by rw [if_neg (fun h => by cases h.1)]; exact ⟨a, b⟩, c⟩
    | false =>
      by_cases hm : T.most ≤ T.many
      · exact (start_full_2 g T role key w K h (by omega) (by omega) hk hon hm).mono fun e w' ⟨a, b, c⟩ => ⟨by rw [if_pos ⟨rfl, hm⟩]; exact ⟨a, b⟩, c⟩
      · exact (start_ok_2_false g T role key w K h (by omega) (by omega) hk hon (by omega)).mono fun e w' ⟨a, b, c⟩ => ⟨by rw [if_neg (fun h => hm h.2)]; exact ⟨a, b⟩, c⟩
  · show Calls _ _ _ _ fun e w' => (if (T.ses 2).on = false ∧ T.most ≤ T.many then e = .returned (.int .i64 19) ∧ TabB w' g T else e = .returned (.int .i64 0) ∧ TabB w' g (T.put 2 (sesB true (max T.beat 0) role key))) ∧ Only g w w'
    cases hon : (T.ses 2).on with
    | true => exact (start_ok_3_true g T role key w K h (by omega) (by omega) hk hon).mono fun e w' ⟨a, b, c⟩ => ⟨by rw [if_neg (fun h => by cases h.1)]; exact ⟨a, b⟩, c⟩
    | false =>
      by_cases hm : T.most ≤ T.many
      · exact (start_full_3 g T role key w K h (by omega) (by omega) hk hon hm).mono fun e w' ⟨a, b, c⟩ => ⟨by rw [if_pos ⟨rfl, hm⟩]; exact ⟨a, b⟩, c⟩
      · exact (start_ok_3_false g T role key w K h (by omega) (by omega) hk hon (by omega)).mono fun e w' ⟨a, b, c⟩ => ⟨by rw [if_neg (fun h => hm h.2)]; exact ⟨a, b⟩, c⟩
end Go.Proofs.YtapednkmefbldaaDoor
