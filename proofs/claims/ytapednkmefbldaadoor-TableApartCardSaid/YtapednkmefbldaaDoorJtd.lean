/- Several texts in one. -/
import Derived.Test.YtapednkmefbldaaDoorJta
import Derived.Test.YtapednkmefbldaaDoorSealC
import Derived.Test.YtapednkmefbldaaDoorJmR
import Derived.Test.YtapednkmefbldaaDoorJrp
import Derived.Test.YtapednkmefbldaaDoorConfX
import Derived.Test.YtapednkmefbldaaDoorRow
import Derived.Maps.AppendAt
import Derived.OwnWalk
import Derived.RegionTactic

/- The table: Take. -/
namespace Go.Proofs.YtapednkmefbldaaDoor
open Go.RowKit

/-- what Take tells, and the table then -/
structure TakeO where
  tab : Tab
  msg : List Int
  code : Int
def takeM (T : Tab) (i : Nat) (bs : List Int) : TakeO := match take8 bs with
  | none => ⟨T, z12 0, 13⟩
  | some l => if l.getD 0 0 = 1 ∨ l.getD 0 0 = 2 then ⟨T, z12 0, 13⟩
    else if (wsee (T.ses i).win (l.getD 1 0).toNat).2 then ⟨T.put i ⟨true, 0, max T.beat 0, (T.ses i).r, (T.ses i).key, (wsee (T.ses i).win (l.getD 1 0).toNat).1⟩, l, 0⟩
    else ⟨T, z12 0, 15⟩
def isSealed (key : List Int) (src : Int) (xs : List Int) : Prop := 8 ≤ xs.length ∧ xs = xs.take (xs.length - 8) ++ tagOf key src (xs.take (xs.length - 8))
instance (key : List Int) (src : Int) (xs : List Int) : Decidable (isSealed key src xs) := by unfold isSealed; exact inferInstance
def Tab.take (T : Tab) (src : Int) (xs : List Int) : TakeO :=
  if (src = 1 ∨ src = 2 ∨ src = 3) ∧ (T.ses (src - 1).toNat).on = true then
    (if isSealed (T.ses (src - 1).toNat).key src xs then takeM T (src - 1).toNat (xs.take (xs.length - 8)) else ⟨T, z12 0, 14⟩)
  else ⟨T, z12 0, 16⟩
def TakeTP (o : TakeO) (g : Nat) (w : World) (e : Ending) (w' : World) : Prop := e = .returned (.tuple #[.agg (msgV o.msg), .int .i64 o.code]) ∧ TabB w' g o.tab ∧ Only g w w'
theorem take8_seq {bs l : List Int} (hb : ∀ x ∈ bs, 0 ≤ x ∧ x ≤ 255) (h : take8 bs = some l) : 0 ≤ l.getD 1 0 ∧ l.getD 1 0 ≤ 4294967295 := by
  obtain ⟨hp, hl, -⟩ := put8_take hb h
  match l, hl with
  | [a0, a1, a2, a3, a4, a5, a6, a7, a8, a9, a10, a11], _ =>
    obtain ⟨hf, -⟩ := put8_fits a0 a1 a2 a3 a4 a5 a6 a7 a8 a9 a10 a11 bs hp
    exact ((fitsB_iff _ _ _ _ _ _ _ _ _ _ _).1 hf).2.2.2.2.2.1
theorem extract_mid (pre old post : List Value) (o n : Nat) (ho : pre.length = o) (hn : old.length = n) : (pre ++ (old ++ post)).toArray.extract o (o + n) = old.toArray := by
  subst ho hn
  simp
theorem tab_key (T : Tab) (h : T.ok) (i : Nat) : T.v.toArray.extract (so i + 4) (so i + 4 + 32) = u8V (T.ses i).key := by
  rw [T.v_split i]
  have e : T.pre i ++ ((T.ses i).v ++ T.post i) = (T.pre i ++ (prs (T.ses i).on (T.ses i).a (T.ses i).m ++ [.int .i64 (T.ses i).r])) ++ ((T.ses i).key.map (Value.int .u8) ++ (wcells (T.ses i).win ++ T.post i)) := by simp [Ses.v]
  rw [e]
  exact extract_mid _ _ _ _ _ (by simp [Tab.pre_len h i, prs]) (by simp [(h.ses i).len])
theorem tab_win (T : Tab) (h : T.ok) (i : Nat) : T.v.toArray.extract (so i + 36) (so i + 36 + 3) = (wcells (T.ses i).win).toArray := by
  rw [T.v_split i]
  have e : T.pre i ++ ((T.ses i).v ++ T.post i) = (T.pre i ++ (prs (T.ses i).on (T.ses i).a (T.ses i).m ++ ([.int .i64 (T.ses i).r] ++ (T.ses i).key.map (Value.int .u8)))) ++ (wcells (T.ses i).win ++ T.post i) := by simp [Ses.v]
  rw [e]
  exact extract_mid _ _ _ _ _ (by simp [Tab.pre_len h i, prs, (h.ses i).len]) (wcells_len _)
theorem tab_setwin {W : World} {g : Nat} {T : Tab} (K : TabB W g T) (h : T.ok) (i : Nat) (v : Option (Nat × Nat)) :
    TabB (W.setCells g (so i + 36) (wcells v)) g (T.put i { T.ses i with win := v }) := by
  unfold TabB at *
  rw [T.v_split i] at K
  rw [T.put_split i]
  have e1 : T.pre i ++ ((T.ses i).v ++ T.post i) = (T.pre i ++ (prs (T.ses i).on (T.ses i).a (T.ses i).m ++ ([.int .i64 (T.ses i).r] ++ (T.ses i).key.map (Value.int .u8)))) ++ (wcells (T.ses i).win ++ T.post i) := by simp [Ses.v]
  have e2 : T.pre i ++ (({ T.ses i with win := v } : Ses).v ++ T.post i) = (T.pre i ++ (prs (T.ses i).on (T.ses i).a (T.ses i).m ++ ([.int .i64 (T.ses i).r] ++ (T.ses i).key.map (Value.int .u8)))) ++ (wcells v ++ T.post i) := by simp [Ses.v]
  rw [e1] at K
  rw [e2]
  exact blk_setMid _ _ _ _ W K (by rw [wcells_len, wcells_len]) (by simp [Tab.pre_len h i, prs, (h.ses i).len])
theorem Tab.put_put (T : Tab) (i : Nat) (a b : Ses) : (T.put i a).put i b = T.put i b := by
  match i with
  | 0 => rfl
  | 1 => rfl
  | _ + 2 => rfl
theorem Tab.ses_put (T : Tab) (i : Nat) (a : Ses) : (T.put i a).ses i = a := by
  match i with
  | 0 => rfl
  | 1 => rfl
  | _ + 2 => rfl
theorem Tab.put_beat (T : Tab) (i : Nat) (a : Ses) : (T.put i a).beat = T.beat ∧ (T.put i a).most = T.most := by
  match i with
  | 0 => exact ⟨rfl, rfl⟩
  | 1 => exact ⟨rfl, rfl⟩
  | _ + 2 => exact ⟨rfl, rfl⟩
theorem agg_win : AggT Tryd.prog 96 3 := ⟨⟨_, Tryd.underlying96, rfl⟩, by kernel_rfl⟩
set_option maxRecDepth 100000 in
theorem zeroT_win : ZeroT Tryd.prog 96 (wcells none).toArray := by
  intro ev o w ho
  unfold execOp
  simp only [ho]
  simp [go_sem]
  exact congrArg (fun c => w.alloc (.cells c 96)) (by kernel_rfl)
theorem see_cells (v : Option (Nat × Nat)) (q : Int) (h0 : 0 ≤ q) (h1 : q ≤ 4294967295) (hv : wok v) (W : World) :
    Calls Tryd.prog 51 #[.agg (wcells v).toArray, .int .i64 q] W fun e w' => e = .returned (.tuple #[.agg (wcells (wsee v q.toNat).1).toArray, .bool (wsee v q.toNat).2]) ∧ Below W.heap.size W w' := by
  have h := see_any v q.toNat W hv (by omega)
  rw [wval_cells, wval_cells, Int.toNat_of_nonneg h0] at h
  exact h
def RS10 (b0 g o g11 : Nat) (wc wc2 : Array Value) (q : Int) (f : Bool) (i : Nat) (v : Value) (w : World) : Prop := match i with
  | 0 => v = .pointer (some ⟨g, o, none⟩)
  | 1 => v = .pointer (some ⟨g, o, none⟩)
  | 2 => v = .pointer (some ⟨g, o + 36, none⟩)
  | 3 => v = .agg wc
  | 4 => v = .pointer (some ⟨g11, 1, none⟩)
  | 5 => v = .int .i64 q
  | 6 => v = .tuple #[.agg wc2, .bool f]
  | 7 => v = .tuple #[.agg wc2, .bool f]
  | 8 => v = .agg wc2
  | 9 => v = .bool f
  | 10 => ∃ (g12 : Nat) (c : Array Value), v = .pointer (some ⟨g12, 0, none⟩) ∧ b0 ≤ g12 ∧ c.size = wc2.size ∧ Blk w g12 c 96
  | _ => v = .bool f
theorem RS10_keep (b0 g o g11 : Nat) (wc wc2 : Array Value) (q : Int) (f : Bool) : ∀ i v w w', i < 13 → RS10 b0 g o g11 wc wc2 q f i v w → OneR b0 96 wc2 w w' → RS10 b0 g o g11 wc wc2 q f i v w' := by
  intro i v w w' hi h hb
  unfold RS10 at *
  split at h
  case h_11 =>
    obtain ⟨g12, c, e, l1, hs, k⟩ := h
    obtain ⟨c', hs', k'⟩ := oneR_some hb k hs
    exact ⟨g12, c', e, l1, hs', k'⟩
  all_goals exact h
def RS10s (b0 : Nat) (wc2 : Array Value) (v : Value) (w : World) : Prop := ∃ g12 : Nat, v = .pointer (some ⟨g12, 0, none⟩) ∧ b0 ≤ g12 ∧ Blk w g12 wc2 96
theorem RS10s_keep (b0 : Nat) (wc2 : Array Value) : ∀ v w w', RS10s b0 wc2 v w → OneR b0 96 wc2 w w' → RS10s b0 wc2 v w' := by
  rintro v w w' ⟨g12, e, l, k⟩ hb
  exact ⟨g12, e, l, oneR_same hb k⟩
theorem win_one (v : Option (Nat × Nat)) : (wcells v).toArray.all (·.oneCell') = true := by rcases v with _ | ⟨h, q⟩ <;> simp [wcells, Value.oneCell']
theorem see_ok {v : Option (Nat × Nat)} {q : Nat} (hv : wok v) (hq : q ≤ 4294967295) : wok (wsee v q).1 := by
  rcases v with _ | ⟨h, s⟩
  · exact ⟨hq, by decide⟩
  · obtain ⟨h1, h2⟩ := hv
    by_cases c1 : h < q
    · have e : wsee (some (h, s)) q = (some (q, (s * 2 ^ (q - h)) % 2 ^ 64 ||| 1), true) := by simp only [wsee, if_pos c1]
      rw [e]
      exact ⟨hq, Nat.or_lt_two_pow (Nat.mod_lt _ (by decide)) (by decide)⟩
    · by_cases c2 : h - q < 64
      · have e : wsee (some (h, s)) q = (some (h, s ||| 2 ^ (h - q)), !s.testBit (h - q)) := by simp only [wsee, if_neg c1, if_pos c2]
        rw [e]
        exact ⟨h1, Nat.or_lt_two_pow h2 (Nat.pow_lt_pow_right (by decide) c2)⟩
      · have e : wsee (some (h, s)) q = (some (h, s), false) := by simp only [wsee, if_neg c1, if_neg c2]
        rw [e]
        exact ⟨h1, h2⟩
set_option maxRecDepth 100000 in
set_option maxHeartbeats 6400000 in
theorem tabf_take (g : Nat) (T : Tab) (src : Int) (xs : List Int) (B : Option Addr) (n c : Nat) (w : World) (K : TabB w g T) (h : T.ok) (hn : xs.length = n) (hnc : n ≤ c) (hc : c ≤ 9223372036854775807) (hs : n ≤ 1000) (hr : Row w B xs) (hR : Roots w) :
    Calls Tryd.prog 28 #[.pointer (some ⟨g, 0, none⟩), .int .i64 src, .slice B n c] w (TakeTP (T.take src xs) g w) := by
  have lg0 := Blk.lt K
  have CO := Lib.hid (fun W (k : Blk W g T.v.toArray 101) => tabf_of g T src W k h)
  have KT : Hid (Blk w g T.v.toArray 101) := Lib.hid K
  have RT := Lib.hid hR
  have HR := Lib.hid hr
  have HH := Lib.hid h
  obtain ⟨R, hRR⟩ : ∃ r, r = T.take src xs := ⟨_, rfl⟩
  rw [← hRR]
  have PO : Hid (∀ (e : Ending) (w' : World) (l : List Int) (k : Int) (T2 : Tab), R = ⟨T2, l, k⟩ → e = .returned (.tuple #[.agg (msgV l), .int .i64 k]) → TabB w' g T2 → Only g w w' → TakeTP R g w e w') := Lib.hid (by
    intro e w' l k T2 hR he hk ho
    subst hR
    exact ⟨he, hk, ho⟩)
  rcases tabf_cases T g src with ⟨e1, e2, -⟩ | ⟨i, hi, es, hon, e1, -, -⟩
  · have hR0 : R = ⟨T, z12 0, 16⟩ := by
      rw [hRR]
      unfold Tab.take
      rw [if_neg]
      rintro ⟨hs, ho⟩
      have := e2 (by omega) (by omega)
      unfold Tab.isOn at this
      rw [if_neg (by omega), if_neg (by omega), if_pos hs, ho] at this
      cases this
    rw [e1] at CO
    have PF := Lib.hid (fun e w' he hk ho => PO.out e w' _ _ _ hR0 he hk ho)
    clear hR0 hRR e1 e2 K h hr hR PO
    go_enter Tryd.func28, Tryd.ntmps28
    go_wp2_with ((with_reducible show wpList _ _ _ (⟨_, .alloc 66, _, _, _, none⟩ :: _) _ _); (with_reducible refine wpRow_alloc zeroT_msgy ?_ ?_ ?_); (· exact wanted0 rfl); (· rfl); refine Marker.mk ?_)
    refine Marker.in ?_
    have K2 := Lib.hid (Blk.new w (msgV (z12 0)) 66)
    have b1 := below_alloc1 w (.cells (msgV (z12 0)) 66)
    replace KT := Lib.hid (KT.out.below b1)
    replace RT := Lib.hid (RT.out.below b1)
    replace HR := Lib.hid (row_below HR.out b1)
    have ON : Hid (Only g w (w.alloc (.cells (msgV (z12 0)) 66))) := Lib.hid (Only.of_below b1)
    generalize w.alloc (.cells (msgV (z12 0)) 66) = w1 at *
    clear b1
    go_wp2_with fail
    ((with_reducible refine (CO.out _ KT.out).mono ?_))
    rintro e w' ⟨rfl, rfl⟩
    clear CO
    go_wp2_with (first | ((with_reducible show wpList _ _ _ (⟨some 19, _, _, _, _, _⟩ :: _) _ _); refine wpList_build' rfl 66 _ rfl (msgV (z12 0)) built_zero ?_) | ((with_reducible show wpList _ _ _ (⟨_, .store 66 _ _, _, _, _, none⟩ :: _) _ _); (with_reducible refine wpBlk_store (g := w.heap.size) (cs := (msgV (z12 0))) agg_msg ?_ ?_ K2 ?_ ?_ ?_ ?_); (· exact wanted0 rfl); (· exact ⟨rfl, rfl, rfl⟩); (· exact msgV_size _); (· exact msgV_size _); (· exact msgV_one _)))
    refine bodyPost_ret (v := .tuple #[.agg (msgV (z12 0)), .int .i64 16]) (results_ct agg_msg rfl _ _ w.heap.size _ _ rfl rfl (K2.out.setRow _) (msgV_size _)) rfl ?_
    exact PF.out _ _ rfl (Blk.setRow_other KT.out w.heap.size _ (by omega)) (ON.out.trans2 (g2 := w.heap.size) (Nat.le_refl _) (only_row _) ON.out.size)
  · have e2 : (src - 1).toNat = i := by omega
    have hs3 : src = 1 ∨ src = 2 ∨ src = 3 := by omega
    have hR0 : R = if isSealed (T.ses i).key src xs then takeM T i (xs.take (xs.length - 8)) else ⟨T, z12 0, 14⟩ := by
      rw [hRR]
      unfold Tab.take
      rw [e2, if_pos ⟨hs3, hon⟩]
    rw [e1] at CO
    have hso := h.ses i
    obtain ⟨key, hkey⟩ : ∃ k, k = (T.ses i).key := ⟨_, rfl⟩
    have TK := tab_key T h i
    rw [← hkey] at hR0 TK
    have hkl : key.length = 32 := by rw [hkey]; exact hso.len
    have hkb : ∀ x ∈ key, 0 ≤ x ∧ x ≤ 255 := by rw [hkey]; exact hso.bytes
    replace TK := Lib.hid TK
    have HR0 := Lib.hid hR0
    have HKL := Lib.hid hkl
    have HKB := Lib.hid hkb
    have HKEY := Lib.hid hkey
    have HN := Lib.hid hn
    have hks : Hid ((u8V key).size = 32) := Lib.hid (by rw [u8V_size, hkl])
    obtain ⟨o, ho⟩ : ∃ o, o = so i := ⟨_, rfl⟩
    rw [← ho] at CO TK
    have HO := Lib.hid ho
    have HON := Lib.hid hon
    clear hRR e1 e2 hs3 K h hr hR hkl hkb hkey hn hR0 ho hon hso es
    go_enter Tryd.func28, Tryd.ntmps28
    go_wp2_with ((with_reducible show wpList _ _ _ (⟨_, .alloc 66, _, _, _, none⟩ :: _) _ _); (with_reducible refine wpRow_alloc zeroT_msgy ?_ ?_ ?_); (· exact wanted0 rfl); (· rfl); refine Marker.mk ?_)
    refine Marker.in ?_
    have K2 := Lib.hid (Blk.new w (msgV (z12 0)) 66)
    have b1 := below_alloc1 w (.cells (msgV (z12 0)) 66)
    replace KT := Lib.hid (KT.out.below b1)
    replace RT := Lib.hid (RT.out.below b1)
    replace HR := Lib.hid (row_below HR.out b1)
    have ON : Hid (Only g w (w.alloc (.cells (msgV (z12 0)) 66))) := Lib.hid (Only.of_below b1)
    generalize w.alloc (.cells (msgV (z12 0)) 66) = w1 at *
    clear b1
    go_wp2_with fail
    ((with_reducible refine (CO.out _ KT.out).mono ?_))
    rintro e w' ⟨rfl, rfl⟩
    clear CO
    obtain ⟨kv, hkv⟩ : ∃ x, x = u8V key := ⟨_, rfl⟩
    rw [← hkv] at hks TK
    replace hkv := Lib.hid hkv
    by_cases hn8 : n < 8
    · have hR1 : R = ⟨T, z12 0, 14⟩ := by
        rw [HR0.out, if_neg]
        rintro ⟨h8, -⟩
        rw [HN.out] at h8
        omega
      have PF := Lib.hid (fun e w' he hk ho => PO.out e w' _ _ _ hR1 he hk ho)
      clear hR1
      go_wp2_with ((with_reducible show wpList _ _ _ (⟨_, .load 22 _, _, _, _, none⟩ :: _) _ _); (with_reducible refine wpBlk_mid (g := g) (off := (o + 4)) (cs := kv) agg_b32 ?_ ?_ KT ?_ ?_ ?_); (· exact wanted0 rfl); (· exact ⟨rfl, rfl⟩); (· exact hks.out); (· exact TK.out))
      rw [hkv.out]
      ((with_reducible refine (open_short key B n c src _ hn8).mono ?_))
      rintro e w2 ⟨rfl, b2⟩
      replace K2 := Lib.hid (K2.out.below b2)
      replace KT := Lib.hid (KT.out.below b2)
      replace ON := Lib.hid (ON.out.trans (Only.of_below b2))
      replace RT := Lib.hid (RT.out.below b2)
      clear b2
      go_wp2_with (first | ((with_reducible show wpList _ _ _ (⟨some 32, _, _, _, _, _⟩ :: _) _ _); refine wpList_build' rfl 66 _ rfl (msgV (z12 0)) built_zero ?_) | ((with_reducible show wpList _ _ _ (⟨_, .store 66 _ _, _, _, _, none⟩ :: _) _ _); (with_reducible refine wpBlk_store (g := w.heap.size) (cs := (msgV (z12 0))) agg_msg ?_ ?_ K2 ?_ ?_ ?_ ?_); (· exact wanted0 rfl); (· exact ⟨rfl, rfl, rfl⟩); (· exact msgV_size _); (· exact msgV_size _); (· exact msgV_one _)))
      refine bodyPost_ret (v := .tuple #[.agg (msgV (z12 0)), .int .i64 14]) (results_ct agg_msg rfl _ _ w.heap.size _ _ rfl rfl (K2.out.setRow _) (msgV_size _)) rfl ?_
      exact PF.out _ _ rfl (Blk.setRow_other KT.out w.heap.size _ (by omega)) (ON.out.trans2 (g2 := w.heap.size) (Nat.le_refl _) (only_row _) ON.out.size)
    obtain ⟨m, rfl⟩ : ∃ m, n = m + 8 := ⟨n - 8, by omega⟩
    have em : xs.length - 8 = m := by rw [HN.out]; omega
    by_cases hx : xs = xs.take m ++ tagOf key src (xs.take m)
    · have hR1 : R = takeM T i (xs.take m) := by
        rw [HR0.out, if_pos, em]
        unfold isSealed
        rw [em, HN.out]
        exact ⟨by omega, hx⟩
      have HR1 := Lib.hid hR1
      clear hR1
      go_wp2_with ((with_reducible show wpList _ _ _ (⟨_, .load 22 _, _, _, _, none⟩ :: _) _ _); (with_reducible refine wpBlk_mid (g := g) (off := (o + 4)) (cs := kv) agg_b32 ?_ ?_ KT ?_ ?_ ?_); (· exact wanted0 rfl); (· exact ⟨rfl, rfl⟩); (· exact hks.out); (· exact TK.out))
      rw [hkv.out]
      ((with_reducible refine (open_good key xs B m c src _ HKL.out HKB.out HN.out HR.out (by omega) (by omega) RT.out hx).mono ?_))
      rintro e w2 ⟨⟨A3, d3, rfl, o3⟩, b2⟩
      have O3 := Lib.hid o3
      have HL3 : Hid ((xs.take m).length = m) := Lib.hid (by rw [List.length_take, HN.out]; omega)
      clear hx o3
      replace K2 := Lib.hid (K2.out.below b2)
      replace KT := Lib.hid (KT.out.below b2)
      replace ON := Lib.hid (ON.out.trans (Only.of_below b2))
      replace RT := Lib.hid (RT.out.below b2)
      clear b2
      obtain ⟨bs, hbs⟩ : ∃ b, b = xs.take m := ⟨_, rfl⟩
      rw [← hbs] at O3 HL3 HR1
      clear hbs
      have hcap := own_cap8 O3.out
      rw [HL3.out] at hcap
      have CT := Lib.hid (take_msg bs A3 m d3 HL3.out hcap.1 hcap.2 _ O3.out.row)
      have HBB := Lib.hid O3.out.2
      clear hcap
      go_wp2_with fail
      ((with_reducible refine (CT.out).mono ?_))
      rintro e w3 ⟨hpost, b3⟩
      clear CT O3
      replace K2 := Lib.hid (K2.out.below b3)
      replace KT := Lib.hid (KT.out.below b3)
      replace ON := Lib.hid (ON.out.trans (Only.of_below b3))
      replace RT := Lib.hid (RT.out.below b3)
      clear b3
      cases htk : take8 bs with
      | none =>
        rw [htk] at hpost
        obtain rfl := hpost
        have hR2 : R = ⟨T, z12 0, 13⟩ := by rw [HR1.out]; unfold takeM; rw [htk]
        have PF := Lib.hid (fun e w' he hk ho => PO.out e w' _ _ _ hR2 he hk ho)
        clear htk hR2
        go_wp2_with ((with_reducible show wpList _ _ _ (⟨_, .alloc 66, _, _, _, none⟩ :: _) _ _); (with_reducible refine wpRow_alloc zeroT_msgy ?_ ?_ ?_); (· exact wanted0 rfl); (· rfl); refine Marker.mk ?_)
        refine Marker.in ?_
        have l2 := K2.out.lt
        have lt := KT.out.lt
        have lr := RT.out.lt
        have b4 := below_alloc1 w3 (.cells (msgV (z12 0)) 66)
        replace K2 := Lib.hid (K2.out.below b4)
        replace KT := Lib.hid (KT.out.below b4)
        replace ON := Lib.hid (ON.out.trans (Only.of_below b4))
        replace RT := Lib.hid (RT.out.below b4)
        have K11 := Lib.hid (Blk.new w3 (msgV (z12 0)) 66)
        clear b4
        generalize w3.alloc (.cells (msgV (z12 0)) 66) = w4 at *
        generalize w3.heap.size = g11 at *
        have ONs := ON.out.size
        have lw3 : w.heap.size ≤ g11 := by omega
        go_wp2_with ((with_reducible show wpList _ _ _ (⟨_, .store 66 _ _, _, _, _, none⟩ :: _) _ _); (with_reducible refine wpBlk_store (g := g11) (cs := (msgV (z12 0))) agg_msg ?_ ?_ K11 ?_ ?_ ?_ ?_); (· exact wanted0 rfl); (· exact ⟨rfl, rfl, rfl⟩); (· exact msgV_size _); (· exact msgV_size _); (· exact msgV_one _); refine Marker.mk ?_)
        refine Marker.in ?_
        replace K2 := Lib.hid (K2.out.setRow_other g11 (msgV (z12 0)) (by omega))
        replace KT := Lib.hid (KT.out.setRow_other g11 (msgV (z12 0)) (by omega))
        replace K11 := Lib.hid (K11.out.setRow (msgV (z12 0)))
        replace RT := Lib.hid (RT.out.setRow g11 (msgV (z12 0)) (by omega))
        replace ON := Lib.hid (ON.out.trans2 (g2 := g11) lw3 (only_row (msgV (z12 0))) ONs)
        generalize w4.setRow g11 (msgV (z12 0)) = w5 at *
        clear ONs
        go_wp2_with (first | ((with_reducible show wpList _ _ _ (⟨some 50, _, _, _, _, _⟩ :: _) _ _); refine wpList_build' rfl 66 _ rfl (msgV (z12 0)) built_zero ?_) | ((with_reducible show wpList _ _ _ (⟨_, .store 66 _ _, _, _, _, none⟩ :: _) _ _); (with_reducible refine wpBlk_store (g := w.heap.size) (cs := (msgV (z12 0))) agg_msg ?_ ?_ K2 ?_ ?_ ?_ ?_); (· exact wanted0 rfl); (· exact ⟨rfl, rfl, rfl⟩); (· exact msgV_size _); (· exact msgV_size _); (· exact msgV_one _)))
        refine bodyPost_ret (v := .tuple #[.agg (msgV (z12 0)), .int .i64 13]) (results_ct agg_msg rfl _ _ w.heap.size _ _ rfl rfl (K2.out.setRow _) (msgV_size _)) rfl ?_
        exact PF.out _ _ rfl (Blk.setRow_other KT.out w.heap.size _ (by omega)) (ON.out.trans2 (g2 := w.heap.size) (Nat.le_refl _) (only_row _) ON.out.size)
      | some l =>
        rw [htk] at hpost
        obtain rfl := hpost
        have hsq := take8_seq HBB.out htk
        have HTK := Lib.hid htk
        clear htk
        go_wp2_with ((with_reducible show wpList _ _ _ (⟨_, .alloc 66, _, _, _, none⟩ :: _) _ _); (with_reducible refine wpRow_alloc zeroT_msgy ?_ ?_ ?_); (· exact wanted0 rfl); (· rfl); refine Marker.mk ?_)
        refine Marker.in ?_
        have l2 := K2.out.lt
        have lt := KT.out.lt
        have lr := RT.out.lt
        have b4 := below_alloc1 w3 (.cells (msgV (z12 0)) 66)
        replace K2 := Lib.hid (K2.out.below b4)
        replace KT := Lib.hid (KT.out.below b4)
        replace ON := Lib.hid (ON.out.trans (Only.of_below b4))
        replace RT := Lib.hid (RT.out.below b4)
        have K11 := Lib.hid (Blk.new w3 (msgV (z12 0)) 66)
        clear b4
        generalize w3.alloc (.cells (msgV (z12 0)) 66) = w4 at *
        generalize w3.heap.size = g11 at *
        have ONs := ON.out.size
        have lw3 : w.heap.size ≤ g11 := by omega
        go_wp2_with ((with_reducible show wpList _ _ _ (⟨_, .store 66 _ _, _, _, _, none⟩ :: _) _ _); (with_reducible refine wpBlk_store (g := g11) (cs := (msgV l)) agg_msg ?_ ?_ K11 ?_ ?_ ?_ ?_); (· exact wanted0 rfl); (· exact ⟨rfl, rfl, rfl⟩); (· exact msgV_size _); (· exact msgV_size _); (· exact msgV_one _); refine Marker.mk ?_)
        refine Marker.in ?_
        replace K2 := Lib.hid (K2.out.setRow_other g11 (msgV l) (by omega))
        replace KT := Lib.hid (KT.out.setRow_other g11 (msgV l) (by omega))
        replace K11 := Lib.hid (K11.out.setRow (msgV l))
        replace RT := Lib.hid (RT.out.setRow g11 (msgV l) (by omega))
        replace ON := Lib.hid (ON.out.trans2 (g2 := g11) lw3 (only_row (msgV l)) ONs)
        generalize w4.setRow g11 (msgV l) = w5 at *
        clear ONs
        have c0 : w5.cell? ⟨g11, 0, none⟩ = some (.int .i64 (l.getD 0 0)) := (K11.out.cell 0).trans (msgV_get l 0 (by omega))
        obtain ⟨kd, hkd⟩ : ∃ k, k = l.getD 0 0 := ⟨_, rfl⟩
        rw [← hkd] at c0
        by_cases h12 : kd = 1 ∨ kd = 2
        · have hR2 : R = ⟨T, z12 0, 13⟩ := by
            rw [HR1.out]
            unfold takeM
            rw [HTK.out]
            simp only
            rw [← hkd, if_pos h12]
          have PF := Lib.hid (fun e w' he hk ho => PO.out e w' _ _ _ hR2 he hk ho)
          clear hR2 hkd
          rcases h12 with rfl | rfl
          · go_wp2_with (first | ((with_reducible show wpList _ _ _ (⟨some 50, _, _, _, _, _⟩ :: _) _ _); refine wpList_build' rfl 66 _ rfl (msgV (z12 0)) built_zero ?_) | ((with_reducible show wpList _ _ _ (⟨_, .store 66 _ _, _, _, _, none⟩ :: _) _ _); (with_reducible refine wpBlk_store (g := w.heap.size) (cs := (msgV (z12 0))) agg_msg ?_ ?_ K2 ?_ ?_ ?_ ?_); (· exact wanted0 rfl); (· exact ⟨rfl, rfl, rfl⟩); (· exact msgV_size _); (· exact msgV_size _); (· exact msgV_one _)))
            refine bodyPost_ret (v := .tuple #[.agg (msgV (z12 0)), .int .i64 13]) (results_ct agg_msg rfl _ _ w.heap.size _ _ rfl rfl (K2.out.setRow _) (msgV_size _)) rfl ?_
            exact PF.out _ _ rfl (Blk.setRow_other KT.out w.heap.size _ (by omega)) (ON.out.trans2 (g2 := w.heap.size) (Nat.le_refl _) (only_row _) ON.out.size)
          · go_wp2_with (first | ((with_reducible show wpList _ _ _ (⟨some 50, _, _, _, _, _⟩ :: _) _ _); refine wpList_build' rfl 66 _ rfl (msgV (z12 0)) built_zero ?_) | ((with_reducible show wpList _ _ _ (⟨_, .store 66 _ _, _, _, _, none⟩ :: _) _ _); (with_reducible refine wpBlk_store (g := w.heap.size) (cs := (msgV (z12 0))) agg_msg ?_ ?_ K2 ?_ ?_ ?_ ?_); (· exact wanted0 rfl); (· exact ⟨rfl, rfl, rfl⟩); (· exact msgV_size _); (· exact msgV_size _); (· exact msgV_one _)))
            refine bodyPost_ret (v := .tuple #[.agg (msgV (z12 0)), .int .i64 13]) (results_ct agg_msg rfl _ _ w.heap.size _ _ rfl rfl (K2.out.setRow _) (msgV_size _)) rfl ?_
            exact PF.out _ _ rfl (Blk.setRow_other KT.out w.heap.size _ (by omega)) (ON.out.trans2 (g2 := w.heap.size) (Nat.le_refl _) (only_row _) ON.out.size)
        have n1 : (kd == 1) = false := beq_eq_false_iff_ne.2 (fun h => h12 (.inl h))
        have n2 : (kd == 2) = false := beq_eq_false_iff_ne.2 (fun h => h12 (.inr h))
        have hR2 : R = if (wsee (T.ses i).win (l.getD 1 0).toNat).2 then ⟨T.put i ⟨true, 0, max T.beat 0, (T.ses i).r, (T.ses i).key, (wsee (T.ses i).win (l.getD 1 0).toNat).1⟩, l, 0⟩ else ⟨T, z12 0, 15⟩ := by
          rw [HR1.out]
          unfold takeM
          rw [HTK.out]
          simp only
          rw [← hkd, if_neg h12]
        obtain ⟨q, hq⟩ : ∃ q, q = l.getD 1 0 := ⟨_, rfl⟩
        rw [← hq] at hR2 hsq
        have c1 : Hid ((msgV l)[1]? = some (.int .i64 q)) := Lib.hid (by rw [hq]; exact msgV_get l 1 (by omega))
        have CW := Lib.hid (fun W => see_cells (T.ses i).win q hsq.1 hsq.2 (HH.out.ses i).win W)
        have TW := Lib.hid (tab_win T HH.out i)
        rw [← HO.out] at TW
        obtain ⟨v2, hv2⟩ : ∃ v, v = wsee (T.ses i).win q.toNat := ⟨_, rfl⟩
        rw [← hv2] at hR2 CW
        have HWO : wok v2.1 := by rw [hv2]; exact see_ok (HH.out.ses i).win (by omega)
        obtain ⟨nw, fr⟩ := v2
        have HWOK := Lib.hid HWO
        clear HWO
        obtain ⟨wc, hwc⟩ : ∃ x, x = (wcells (T.ses i).win).toArray := ⟨_, rfl⟩
        obtain ⟨wc2, hwc2⟩ : ∃ x, x = (wcells nw).toArray := ⟨_, rfl⟩
        simp only at hR2 CW
        rw [← hwc, ← hwc2] at CW
        rw [← hwc] at TW
        have SW : Hid (wc.size = 3) := Lib.hid (by rw [hwc]; exact wcells_len _)
        have SW2 : Hid (wc2.size = 3) := Lib.hid (by rw [hwc2]; exact wcells_len _)
        have HWC2 := Lib.hid hwc2
        have HR2 := Lib.hid hR2
        clear hkd hsq hq hv2 hwc hwc2 hR2 h12
        go_wp2_with fail
        clear c0 n1 n2
        have lg11 := K11.out.lt
        have ltg := KT.out.lt
        have W1 := Lib.hid (win_one nw)
        rw [← HWC2.out] at W1
        refine wp_region_confX' (oneR_kept (b0 := w5.heap.size) (T := 96) (cs := wc2)) (by kernel_rfl) 13 (by kernel_rfl) (by simp) (by decide) (RX (RS10 w5.heap.size g o g11 wc wc2 q fr) 11 10 (RS10s w5.heap.size wc2)) (RX.keep (RS10_keep _ _ _ _ _ _ _ _) (RS10s_keep _ _)) (RX.dep (waits_of (by kernel_rfl))) ?_ ?_
        · simp only [ConfStepsX, List.take_succ_cons, List.take_zero, putAll, Act.put, List.setIfInBounds_toArray, List.set_cons_succ, List.set_cons_zero, and_true]
          refine ⟨?_, ?_, ?_, ?_, ?_, ?_, ?_, ?_, ?_, ?_, ?_, ?_, ?_⟩
          all_goals intro v w' hb hd
          · exact conf_valueX oneR_kept (wanted0 rfl) (by simp [go_sem]) rfl
          · have d0 : v 0 = .pointer (some ⟨g, o, none⟩) := hd.at 0 rfl
            exact conf_valueX oneR_kept (wanted0 rfl) (by simp [go_sem, d0]) rfl
          · have d1 : v 1 = .pointer (some ⟨g, o, none⟩) := hd.at 1 rfl
            exact conf_valueX oneR_kept (wanted0 rfl) (by simp [go_sem, d1]) rfl
          · have d2 : v 2 = .pointer (some ⟨g, o + 36, none⟩) := hd.at 2 rfl
            exact conf_midX oneR_kept agg_win (wanted0 rfl) ⟨rfl, d2⟩ (oneR_blk hb KT.out (.inl ltg)) SW.out TW.out rfl
          · exact conf_valueX oneR_kept (wanted0 rfl) (by simp [go_sem]) rfl
          · have d4 : v 4 = .pointer (some ⟨g11, 1, none⟩) := hd.at 4 rfl
            have cc : w'.cell? ⟨g11, 1, none⟩ = some (.int .i64 q) := (Blk.cell (oneR_blk hb K11.out (.inl lg11)) 1).trans c1.out
            exact conf_valueX oneR_kept (wanted0 rfl) (by simp [go_sem, d4, cc]) rfl
          · have d3 : v 3 = .agg wc := hd.at 3 rfl
            have d5 : v 5 = .int .i64 q := hd.at 5 rfl
            refine conf_callX (f := 51) (args := #[v 3, v 5]) (wanted0 rfl) (by simp [go_sem]) ?_
            rw [d3, d5]
            exact (CW.out w').mono fun e w'' ⟨he, hb'⟩ => ⟨_, he, oneR_below hb', rfl⟩
          · have d6 : v 6 = .tuple #[.agg wc2, .bool fr] := hd.at 6 rfl
            exact conf_valueX oneR_kept (wanted0 rfl) (by simp [go_sem, d6]) rfl
          · have d7 : v 7 = .tuple #[.agg wc2, .bool fr] := hd.at 7 rfl
            exact conf_valueX oneR_kept (wanted0 rfl) (by simp [go_sem, d7]) rfl
          · have d7 : v 7 = .tuple #[.agg wc2, .bool fr] := hd.at 7 rfl
            exact conf_valueX oneR_kept (wanted0 rfl) (by simp [go_sem, d7]) rfl
          · exact conf_makeX (wanted0 rfl) (zeroT_win _ _ _ rfl) (oneR_below (below_alloc1 w' _)) ⟨_, _, rfl, hb.1, (show (wcells none).toArray.size = wc2.size by rw [SW2.out]; rfl), Blk.new _ _ _⟩
          · obtain ⟨g12, c, d10, lg12, hs, k12⟩ : ∃ (g12 : Nat) (c : Array Value), v 10 = .pointer (some ⟨g12, 0, none⟩) ∧ w5.heap.size ≤ g12 ∧ c.size = wc2.size ∧ Blk w' g12 c 96 := hd.at 10 rfl
            have d8 : v 8 = .agg wc2 := hd.at 8 rfl
            exact conf_storeX agg_win (wanted0 rfl) ⟨rfl, d10, d8⟩ k12 (hs.trans SW2.out) SW2.out W1.out (oneR_store k12 lg12 hs) ⟨g12, d10, lg12, k12.setRow wc2⟩
          · have d9 : v 9 = .bool fr := hd.at 9 rfl
            exact conf_valueX oneR_kept (wanted0 rfl) (by simp [go_sem, d9]) rfl
        · intro v w7 hb hr
          obtain ⟨g12, d10, lg12, K12⟩ : ∃ g12 : Nat, v 10 = .pointer (some ⟨g12, 0, none⟩) ∧ w5.heap.size ≤ g12 ∧ Blk w7 g12 wc2 96 := hr 11 (by omega)
          have d8 : v 8 = .agg wc2 := hr 8 (by omega)
          have d12 : v 12 = .bool fr := hr 12 (by omega)
          simp only [List.take_succ_cons, List.take_zero, List.drop_succ_cons, List.drop_zero, putAll, Act.put, List.setIfInBounds_toArray, List.set_cons_succ, List.set_cons_zero]
          rw [d10, d12]
          replace K12 := Lib.hid K12
          have hb5 := hb.2.1 (Nat.le_refl _)
          replace K2 := Lib.hid (K2.out.below hb5)
          replace KT := Lib.hid (KT.out.below hb5)
          replace ON := Lib.hid (ON.out.trans (Only.of_below hb5))
          replace RT := Lib.hid (RT.out.below hb5)
          replace K11 := Lib.hid (K11.out.below hb5)
          clear hr hb hb5 d8 d10 d12 CW c1 TW RT W1
          cases fr with
          | false =>
            have hR3 : R = ⟨T, z12 0, 15⟩ := by rw [HR2.out]; rfl
            have PF := Lib.hid (fun e w' he hk ho => PO.out e w' _ _ _ hR3 he hk ho)
            clear hR3
            go_wp2_with (first | ((with_reducible show wpList _ _ _ (⟨some 63, _, _, _, _, _⟩ :: _) _ _); refine wpList_build' rfl 66 _ rfl (msgV (z12 0)) built_zero ?_) | ((with_reducible show wpList _ _ _ (⟨_, .store 66 _ _, _, _, _, none⟩ :: _) _ _); (with_reducible refine wpBlk_store (g := w.heap.size) (cs := (msgV (z12 0))) agg_msg ?_ ?_ K2 ?_ ?_ ?_ ?_); (· exact wanted0 rfl); (· exact ⟨rfl, rfl, rfl⟩); (· exact msgV_size _); (· exact msgV_size _); (· exact msgV_one _)))
            refine bodyPost_ret (v := .tuple #[.agg (msgV (z12 0)), .int .i64 15]) (results_ct agg_msg rfl _ _ w.heap.size _ _ rfl rfl (K2.out.setRow _) (msgV_size _)) rfl ?_
            exact PF.out _ _ rfl (Blk.setRow_other KT.out w.heap.size _ (by omega)) (ON.out.trans2 (g2 := w.heap.size) (Nat.le_refl _) (only_row _) ON.out.size)
          | true =>
            have hR3 : R = ⟨T.put i ⟨true, 0, max T.beat 0, (T.ses i).r, (T.ses i).key, nw⟩, l, 0⟩ := by rw [HR2.out]; rfl
            have PF := Lib.hid (fun e w' he hk ho => PO.out e w' _ _ _ hR3 he hk ho)
            clear hR3
            have TH : Hid (w7.there g (o + 36) 3) := Lib.hid (blk_there KT.out (by rw [tab_size KT.out HH.out, HO.out]; have := so_le i; omega))
            have K8 := Lib.hid (tab_setwin KT.out HH.out i nw)
            have ON8 := Lib.hid (ON.out.trans (only_cells (g := g) (wcells nw) (so i + 36) w7))
            have K28 : Hid (Blk (w7.setCells g (so i + 36) (wcells nw)) w.heap.size (msgV (z12 0)) 66) := Lib.hid ((only_cells (g := g) (wcells nw) (so i + 36) w7).blk K2.out (by omega))
            have K118 : Hid (Blk (w7.setCells g (so i + 36) (wcells nw)) g11 (msgV l) 66) := Lib.hid ((only_cells (g := g) (wcells nw) (so i + 36) w7).blk K11.out (by omega))
            rw [← HO.out] at K8 ON8 K28 K118
            have ew : wc2.toList = wcells nw := by rw [HWC2.out]
            replace ew := Lib.hid ew
            go_wp2_with (first | ((with_reducible show wpList _ _ _ (⟨_, .load 96 _, _, _, _, none⟩ :: _) _ _); (with_reducible refine wpBlk_load (g := g12) agg_win ?_ ?_ K12 ?_ ?_); (· exact wanted0 rfl); (· exact ⟨rfl, rfl⟩); (· exact SW2.out)) | ((with_reducible show wpList _ _ _ (⟨_, .store 96 _ _, _, _, _, none⟩ :: _) _ _); (with_reducible refine wpList_store_mid rfl 96 _ _ rfl g (o + 36) wc2 ?_ ?_ ?_ ?_ ?_ ?_); (· rfl); (· rfl); (· rw [SW2.out]; exact TH.out); (· rw [SW2.out]; exact agg_win.2); (· rw [HWC2.out]; exact win_one nw); refine Marker.mk ?_))
            refine Marker.in ?_
            rw [ew.out]
            generalize w7.setCells g (o + 36) (wcells nw) = w8 at *
            clear K12 TH KT K2 K11 ON
            have hok2 := (HH.out).put i (s := { T.ses i with win := nw }) ⟨(HH.out.ses i).len, (HH.out.ses i).bytes, HWOK.out⟩
            have cb : ∀ y : Ext w8, (exw w8 y).cell? ⟨g, 120, none⟩ = some (.int .i64 T.beat) := fun y => by have := (tab_beat (TabB.below K8.out (exw_bel y)) hok2).1; rwa [(Tab.put_beat _ _ _).1] at this
            have KH : Hid (Blk w8 g (T.pre i ++ ([Value.bool (T.ses i).on, .int .i64 (T.ses i).a, .int .i64 (T.ses i).m] ++ (([Value.int .i64 (T.ses i).r] ++ ((T.ses i).key.map (Value.int .u8) ++ wcells nw)) ++ T.post i))).toArray 101) := Lib.hid (by have := K8.out; unfold TabB at this; rw [T.put_split i] at this; simpa [Ses.v, prs] using this)
            have CH := Lib.hid (fun W (k : Blk W g (T.pre i ++ ([Value.bool (T.ses i).on, .int .i64 (T.ses i).a, .int .i64 (T.ses i).m] ++ (([Value.int .i64 (T.ses i).r] ++ ((T.ses i).key.map (Value.int .u8) ++ wcells nw)) ++ T.post i))).toArray 101) => heard_any g o (T.pre i) _ _ _ _ 101 T.beat W k (by rw [HO.out]; exact Tab.pre_len HH.out i))
            have HP : Hid (∀ w', Blk w' g (T.pre i ++ (prs true 0 (max T.beat 0) ++ (([Value.int .i64 (T.ses i).r] ++ ((T.ses i).key.map (Value.int .u8) ++ wcells nw)) ++ T.post i))).toArray 101 → TabB w' g (T.put i ⟨true, 0, max T.beat 0, (T.ses i).r, (T.ses i).key, nw⟩)) := Lib.hid (fun w' k => by unfold TabB; rw [T.put_split i]; simpa [Ses.v] using k)
            generalize T.beat = beat at *
            go_wp2_with fail
            refine wp_region_qx 7 (by kernel_rfl) (by kernel_rfl) ?_
            simp only [List.take_succ_cons, List.take_zero, List.drop_succ_cons, List.drop_zero]
            repeat (first
                  | go_big_quiet_skip
                  | (go_big_quiet_want
                     first
                       | (go_big_quiet_op
                          first
                            | go_big_quiet_on
                            | go_big_quiet_call ((fail)))))
            refine wpQuiet_nil ?_
            intro _ hw'
            obtain ⟨y9, rfl⟩ := hw'
            have by_ := exw_bel y9
            replace KH := Lib.hid (KH.out.below by_)
            replace K28 := Lib.hid (K28.out.below by_)
            replace K118 := Lib.hid (K118.out.below by_)
            replace ON8 := Lib.hid (ON8.out.trans (Only.of_below by_))
            clear cb by_ K8
            generalize exw w8 y9 = w9 at *
            go_wp2_with fail
            ((with_reducible refine (CH.out _ KH.out).mono ?_))
            rintro e w10 ⟨rfl, k10, o10⟩
            have KT := Lib.hid (HP.out _ k10)
            have K2 := Lib.hid (o10.blk K28.out (by omega))
            have K11 := Lib.hid (o10.blk K118.out (by omega))
            have ON := Lib.hid (ON8.out.trans o10)
            clear CH KH K28 K118 ON8 o10 k10 HP
            go_wp2_with (first | ((with_reducible show wpList _ _ _ (⟨_, .load 66 _, _, _, _, none⟩ :: _) _ _); (with_reducible refine wpBlk_load (g := g11) agg_msg ?_ ?_ K11 ?_ ?_); (· exact wanted0 rfl); (· exact ⟨rfl, rfl⟩); (· exact msgV_size _)) | ((with_reducible show wpList _ _ _ (⟨_, .store 66 _ _, _, _, _, none⟩ :: _) _ _); (with_reducible refine wpBlk_store (g := w.heap.size) (cs := (msgV l)) agg_msg ?_ ?_ K2 ?_ ?_ ?_ ?_); (· exact wanted0 rfl); (· exact ⟨rfl, rfl, rfl⟩); (· exact msgV_size _); (· exact msgV_size _); (· exact msgV_one _)))
            refine bodyPost_ret (v := .tuple #[.agg (msgV l), .int .i64 0]) (results_ct agg_msg rfl _ _ w.heap.size _ _ rfl rfl (K2.out.setRow _) (msgV_size _)) rfl ?_
            exact PF.out _ _ rfl (Blk.setRow_other KT.out w.heap.size _ (by omega)) (ON.out.trans2 (g2 := w.heap.size) (Nat.le_refl _) (only_row _) ON.out.size)
    · have hR1 : R = ⟨T, z12 0, 14⟩ := by
        rw [HR0.out, if_neg]
        rintro ⟨-, h8⟩
        rw [em] at h8
        exact hx h8
      have PF := Lib.hid (fun e w' he hk ho => PO.out e w' _ _ _ hR1 he hk ho)
      clear hR1
      go_wp2_with ((with_reducible show wpList _ _ _ (⟨_, .load 22 _, _, _, _, none⟩ :: _) _ _); (with_reducible refine wpBlk_mid (g := g) (off := (o + 4)) (cs := kv) agg_b32 ?_ ?_ KT ?_ ?_ ?_); (· exact wanted0 rfl); (· exact ⟨rfl, rfl⟩); (· exact hks.out); (· exact TK.out))
      rw [hkv.out]
      ((with_reducible refine (open_bad key xs B m c src _ HKL.out HKB.out HN.out HR.out (by omega) (by omega) RT.out hx).mono ?_))
      rintro e w2 ⟨rfl, b2⟩
      replace K2 := Lib.hid (K2.out.below b2)
      replace KT := Lib.hid (KT.out.below b2)
      replace ON := Lib.hid (ON.out.trans (Only.of_below b2))
      replace RT := Lib.hid (RT.out.below b2)
      clear b2
      go_wp2_with (first | ((with_reducible show wpList _ _ _ (⟨some 32, _, _, _, _, _⟩ :: _) _ _); refine wpList_build' rfl 66 _ rfl (msgV (z12 0)) built_zero ?_) | ((with_reducible show wpList _ _ _ (⟨_, .store 66 _ _, _, _, _, none⟩ :: _) _ _); (with_reducible refine wpBlk_store (g := w.heap.size) (cs := (msgV (z12 0))) agg_msg ?_ ?_ K2 ?_ ?_ ?_ ?_); (· exact wanted0 rfl); (· exact ⟨rfl, rfl, rfl⟩); (· exact msgV_size _); (· exact msgV_size _); (· exact msgV_one _)))
      refine bodyPost_ret (v := .tuple #[.agg (msgV (z12 0)), .int .i64 14]) (results_ct agg_msg rfl _ _ w.heap.size _ _ rfl rfl (K2.out.setRow _) (msgV_size _)) rfl ?_
      exact PF.out _ _ rfl (Blk.setRow_other KT.out w.heap.size _ (by omega)) (ON.out.trans2 (g2 := w.heap.size) (Nat.le_refl _) (only_row _) ON.out.size)
end Go.Proofs.YtapednkmefbldaaDoor

/- The table: New, Tick. -/
namespace Go.Proofs.YtapednkmefbldaaDoor
open Go.RowKit

/-- a table as it begins -/
def tab0 (beat most : Int) : Tab := ⟨false, 0, 0, ses0, ses0, ses0, beat, most⟩
theorem tab0_ok (beat most : Int) : (tab0 beat most).ok := ⟨ses0_ok, ses0_ok, ses0_ok⟩
set_option maxRecDepth 100000 in
theorem built_tab0 (beat most : Int) : Tryd.prog.built 101 [(2, .int .i64 beat), (3, .int .i64 most)] = some (tab0 beat most).v.toArray := by kernel_rfl
theorem tab0_one (beat most : Int) : (tab0 beat most).v.toArray.all (·.oneCell') = true := by
  refine all_oneCell_toArray fun v hv => ?_
  have S : ∀ v ∈ ses0.v, v.oneCell' = true := fun v hv => by
    have := ses_one ses0
    rw [List.all_toArray, List.all_eq_true] at this
    exact this v hv
  simp only [Tab.v, tab0, Tab.hd, Tab.tl, List.mem_append, List.mem_cons, List.not_mem_nil, or_false] at hv
  rcases hv with (rfl | rfl | rfl) | hv | hv | hv | rfl | rfl
  · rfl
  · rfl
  · rfl
  · exact S v hv
  · exact S v hv
  · exact S v hv
  · rfl
  · rfl
theorem agg_tab : AggT Tryd.prog 101 122 := ⟨⟨_, Tryd.underlying101, rfl⟩, by kernel_rfl⟩
set_option maxRecDepth 100000 in
set_option maxHeartbeats 800000 in
theorem tabf_new (pv : Array Value) (beat most : Int) (w : World) (hs : pv.size = 56) (hb : pv[42]? = some (.int .i64 beat)) (hm : pv[49]? = some (.int .i64 most)) :
    Calls Tryd.prog 24 #[.agg pv] w fun e w' => ∃ g, w.heap.size ≤ g ∧ e = .returned (.pointer (some ⟨g, 0, none⟩)) ∧ TabB w' g (tab0 beat most) ∧ Below w.heap.size w w' := by
  have BT := Lib.hid (built_tab0 beat most)
  have K0 := Lib.hid (Blk.new w pv 62)
  have c1 : (w.alloc (.cells pv 62)).cell? ⟨w.heap.size, 42, none⟩ = some (.int .i64 beat) := by rw [K0.out.cell, hb]
  have c2 : (w.alloc (.cells pv 62)).cell? ⟨w.heap.size, 49, none⟩ = some (.int .i64 most) := by rw [K0.out.cell, hm]
  have HE : Hid (∀ x, x = (tab0 beat most).v.toArray → ∀ W g, Blk W g x 101 → TabB W g (tab0 beat most)) := Lib.hid fun x hx W g k => by rw [hx] at k; exact k
  obtain ⟨tv, htv⟩ : ∃ x, x = (tab0 beat most).v.toArray := ⟨_, rfl⟩
  rw [← htv] at BT
  replace HE := Lib.hid (HE.out tv htv)
  clear htv hb hm
  go_enter Tryd.func24, Tryd.ntmps24
  go_wp2_with (first | ((with_reducible show wpList _ _ _ (⟨some 7, _, _, _, _, _⟩ :: _) _ _); refine wpList_build' rfl 101 _ rfl tv BT.out ?_))
  go_ret

  exact ⟨w.heap.size + 1, by omega, rfl, HE.out _ _ (Blk.new' _ _ _ (by simp)), below_alloc2 w _ _⟩
end Go.Proofs.YtapednkmefbldaaDoor

/- append(s, x) of ints onto a slice that the call itself made. -/
namespace Go.Proofs.YtapednkmefbldaaDoor
open Go.RowKit

theorem info_i64 : (Tryd.prog.info? 3).map (fun i => (i.zero, i.size, i.bytes)) = some (some (.int .i64 0), 1, 8) := by kernel_rfl
/-- The slice '.slice A n cap' of n = xs.length ints xs lies in a block of the call's own (from 'base' on), or is nil. -/
def OwnI (w : World) (base : Nat) (A : Option Addr) (cap : Nat) (xs : List Int) : Prop :=
  w.ownsRow base 3 1 (.slice A xs.length cap) xs.length (xs.map (Value.int .i64))
/-- it does not lie in block k -/
def ApartI (A : Option Addr) (k : Nat) : Prop := ∀ a, A = some a → a.block ≠ k
theorem OwnI.cell {w : World} {base : Nat} {A : Option Addr} {cap : Nat} {xs : List Int} (h : OwnI w base A cap xs) (i : Nat) (hi : i < xs.length) :
    ∃ g, A = some ⟨g, 0, none⟩ ∧ base ≤ g ∧ w.cell? ⟨g, i, none⟩ = some (.int .i64 xs[i]) := by
  rcases h.2 with ⟨hv, hn⟩ | ⟨g, cap', cur, hv, hg, hh, hl, hm, hs, ht⟩
  · omega
  · injection hv with h1 h2 h3
    refine ⟨g, h1, hg, ?_⟩
    subst h1
    have := h.cellAt i (by omega)
    rw [this]
    simp [hi]
theorem ownI_lit (w : World) (base : Nat) (hb : base ≤ w.heap.size) : OwnI (w.alloc (.cells #[] 3)) base (some ⟨w.heap.size, 0, none⟩) 0 [] :=
  World.ownsRow_lit w #[] 0 hb (by unfold maxLen; omega) rfl
theorem ownI_same {w w' : World} {base : Nat} {A : Option Addr} {cap : Nat} {xs : List Int} (h : OwnI w base A cap xs) (hb : ∀ a, A = some a → w'.heap[a.block]? = w.heap[a.block]?) : OwnI w' base A cap xs := by
  obtain ⟨h1, h2⟩ := h
  refine ⟨h1, ?_⟩
  rcases h2 with h2 | ⟨g, cap', cur, hv, hg, hh, hl⟩
  · exact .inl h2
  · refine .inr ⟨g, cap', cur, hv, hg, ?_, hl⟩
    injection hv with h1 h2 h3
    subst h1
    rw [hb _ rfl]
    exact hh
theorem OwnI.lt {w : World} {base : Nat} {A : Option Addr} {cap : Nat} {xs : List Int} (h : OwnI w base A cap xs) : ∀ a, A = some a → base ≤ a.block ∧ a.block < w.heap.size := by
  intro a ha
  subst ha
  rcases h.2 with ⟨hv, hn⟩ | ⟨g, cap', cur, hv, hg, hh, hl⟩
  · simp at hv
  · injection hv with h1 h2 h3
    injection h1 with h1
    subst h1
    exact ⟨hg, blk_lt hh⟩
theorem ownI_below {w w' : World} {base : Nat} {A : Option Addr} {cap : Nat} {xs : List Int} (h : OwnI w base A cap xs) (hb : Below w.heap.size w w') : OwnI w' base A cap xs :=
  ownI_same h fun a ha => hb.block _ (h.lt a ha).2

theorem run_append_int (w : World) (base : Nat) (A : Option Addr) (cap : Nat) (xs : List Int) (hown : OwnI w base A cap xs) (ad : Addr) (c : Nat) (x : Int) (hr : w.cell? ad = some (.int .i64 x))
    (hsmall : xs.length ≤ 1000000000) (hbase : base ≤ w.heap.size) (ty : TypeId) :
    ∃ A' cap' w', (Builtin.append_ #[80, 80] ty #[.slice A xs.length cap, .slice (some ad) 1 c]).run Tryd.prog w = .ok (.slice A' (xs.length + 1) cap') w' ∧
      OwnI w' base A' cap' (xs ++ [x]) ∧ Below base w w' ∧ (∀ k, k < w.heap.size → ApartI A k → w'.heap[k]? = w.heap[k]? ∧ ApartI A' k) := by
  obtain ⟨i0, hi, hz0, hz1, hz2⟩ := info_parts info_i64
  obtain ⟨v', w', hrun, h2, h3, h4, h5⟩ := run_append_own_at (P := Tryd.prog) w base 80 ty 3 i0 (.int .i64 0) 1 8 Tryd.underlying80 hi hz0 hz1 hz2 rfl (by omega) _ _ _ hown ad 1 c [.int .i64 x] (by simp) (fun j u hu => by
      cases j with
      | zero => simp at hu; subst hu; simpa [Addr.add] using hr
      | succ j => simp at hu)
    (by intro u hu; simp at hu; subst hu; rfl) (by unfold maxLen; omega) (by omega) hbase
  have hown' : w.ownsRow base 3 1 (.slice A xs.length cap) xs.length (xs.map (Value.int .i64)) := hown
  have hbel : Below base w w' := (Below.refl _ _).grown h3 hbase (fun k hk => (hown'.lt k hk).1)
  rcases h2.2 with ⟨hv, hn⟩ | ⟨g, cap', cur, hv, hrest⟩
  · omega
  · refine ⟨some ⟨g, 0, none⟩, cap', w', by rw [hrun, hv], ?_, hbel, fun k hk hA => ⟨?_, ?_⟩⟩
    · rw [hv] at h2
      unfold OwnI
      rw [List.length_append, List.map_append]
      exact h2
    · refine h3.block k hk ?_
      cases A with
      | none => simp [Value.ownBlock]
      | some a => simpa [Value.ownBlock] using Ne.symm (hA a rfl)
    · intro a ha
      injection ha with ha
      subst ha
      rw [hv] at h5
      rcases h5 with h5 | h5
      · cases A with
        | none => simp [Value.ownBlock] at h5
        | some a => simp [Value.ownBlock] at h5; rw [h5]; exact hA a rfl
      · simp [Value.ownBlock] at h5
        rw [h5]
        show w.heap.size ≠ k
        omega

theorem wpList_append_int {ops : Array Oper} {rest : List Oper} {o : Oper} {a : Act} {Q : Exit → Act → World → Prop} (w : World) (hgd : o.guard = none) (s x : Operand)
    (ho : o.op = .call { callee := .builtin .append, args := #[s, x], argTypes := #[80, 80] })
    (base : Nat) (A : Option Addr) (cap n : Nat) (xs : List Int) (hn : xs.length = n) (hs : a.eval s = .slice A n cap) (hown : OwnI w base A cap xs)
    (ad : Addr) (c : Nat) (y : Int) (hx : a.eval x = .slice (some ad) 1 c) (hr : w.cell? ad = some (.int .i64 y))
    (hsmall : n ≤ 1000000000) (hbase : base ≤ w.heap.size)
    (h : ∀ A' cap' w', OwnI w' base A' cap' (xs ++ [y]) → Below base w w' → (∀ k, k < w.heap.size → ApartI A k → w'.heap[k]? = w.heap[k]? ∧ ApartI A' k) → wpList Tryd.prog ops Q rest (a.put o.dst (.slice A' (n + 1) cap')) w') : wpList Tryd.prog ops Q (o :: rest) a w := by
  subst hn
  refine wpList_plain hgd fun K hK => ?_
  obtain ⟨A', cap', w', hrun, h2, h3, h4⟩ := run_append_int w base A cap xs hown ad c y hr hsmall hbase o.type
  unfold Oper.wp execOp
  simp only [ho, resolve, invoke, builtin, Sem.run_bind, Sem.run_pure, Result.andThen_ok, List.map_toArray, List.map_cons, List.map_nil, hs, hx, hrun]
  exact hK _ _ (h A' cap' w' h2 h3 h4)
end Go.Proofs.YtapednkmefbldaaDoor

/- The table: Tick, where only the first source is on. -/
namespace Go.Proofs.YtapednkmefbldaaDoor
open Go.RowKit

theorem tab_pres {W : World} {g : Nat} {T : Tab} (K : TabB W g T) (i : Nat) : Blk W g (T.pre i ++ (prs (T.ses i).on (T.ses i).a (T.ses i).m ++ (([Value.int .i64 (T.ses i).r] ++ ((T.ses i).key.map (Value.int .u8) ++ wcells (T.ses i).win)) ++ T.post i))).toArray 101 := by
  unfold TabB at K
  rw [T.v_split i] at K
  simpa [Ses.v] using K
theorem over_ses_off (g i : Nat) (T : Tab) (w : World) (K : TabB w g T) (h : T.ok) (hoff : (T.ses i).on = false) :
    Calls Tryd.prog 53 #[.pointer (some ⟨g, so i, none⟩)] w fun e w' => e = .returned (.bool false) ∧ w = w' := by
  have k := tab_pres K i
  rw [hoff] at k
  exact over_off g (so i) _ _ _ _ _ w k (Tab.pre_len h i)
theorem over_son_off (g : Nat) (T : Tab) (w : World) (K : TabB w g T) (hoff : T.son = false) :
    Calls Tryd.prog 53 #[.pointer (some ⟨g, 0, none⟩)] w fun e w' => e = .returned (.bool false) ∧ w = w' := by
  have k : Blk w g ([] ++ ([Value.bool T.son, .int .i64 T.sa, .int .i64 T.sm] ++ (T.s0.v ++ (T.s1.v ++ (T.s2.v ++ T.tl))))).toArray 101 := K
  rw [hoff] at k
  exact over_off g 0 _ _ _ _ _ w k rfl
theorem over_ses_on (g i : Nat) (T : Tab) (w : World) (K : TabB w g T) (h : T.ok) (hon : (T.ses i).on = true) (h1 : -9223372036854775808 ≤ (T.ses i).a) (h3 : (T.ses i).m ≤ 9223372036854775807) :
    Calls Tryd.prog 53 #[.pointer (some ⟨g, so i, none⟩)] w fun e w' => e = .returned (.bool (decide ((T.ses i).m ≤ sat (T.ses i).a (T.ses i).m))) ∧ TabB w' g (T.put i { T.ses i with a := sat (T.ses i).a (T.ses i).m }) ∧ Only g w w' := by
  have k := tab_pres K i
  rw [hon] at k
  refine (over_on g (so i) _ _ _ _ _ w k (Tab.pre_len h i) h1 h3).mono ?_
  rintro e w' ⟨he, hk, ho⟩
  refine ⟨he, ?_, ho⟩
  unfold TabB
  rw [T.put_split i]
  simpa [Ses.v, hon] using hk
set_option maxRecDepth 100000 in
set_option maxHeartbeats 3200000 in
theorem tick_not (g : Nat) (T : Tab) (w : World) (K : TabB w g T) (h : T.ok) (hs : T.son = false) (h0 : T.s0.on = true) (h1 : T.s1.on = false) (h2 : T.s2.on = false) (ha : -9223372036854775808 ≤ T.s0.a) (hm : T.s0.m ≤ 9223372036854775807) (hd : sat T.s0.a T.s0.m < T.s0.m) :
    Calls Tryd.prog 36 #[.pointer (some ⟨g, 0, none⟩)] w fun e w' => e = .returned (.slice none 0 0) ∧ TabB w' g (T.put 0 { T.s0 with a := sat T.s0.a T.s0.m }) ∧ Only g w w' := by
  have lg := Blk.lt K
  have C0 := Lib.hid (fun W (k : TabB W g T) => over_son_off g T W k hs)
  have C1 : Hid (∀ W, TabB W g T → Calls Tryd.prog 53 #[.pointer (some ⟨g, 3, none⟩)] W fun e w' => e = .returned (.bool false) ∧ TabB w' g (T.put 0 { T.s0 with a := sat T.s0.a T.s0.m }) ∧ Only g W w') := Lib.hid fun W k => by
    have c := over_ses_on g 0 T W k h h0 ha hm
    rw [show decide ((T.ses 0).m ≤ sat (T.ses 0).a (T.ses 0).m) = false from decide_eq_false (by show ¬ T.s0.m ≤ sat T.s0.a T.s0.m; omega)] at c
    exact c
  have OK1 : ∀ s, s.ok → (T.put 0 s).ok := fun s hs => h.put 0 hs
  have SA : (⟨T.s0.on, sat T.s0.a T.s0.m, T.s0.m, T.s0.r, T.s0.key, T.s0.win⟩ : Ses).ok := ⟨h.s0.len, h.s0.bytes, h.s0.win⟩
  have C2 : Hid (∀ W, TabB W g (T.put 0 { T.s0 with a := sat T.s0.a T.s0.m }) → Calls Tryd.prog 53 #[.pointer (some ⟨g, 42, none⟩)] W fun e w' => e = .returned (.bool false) ∧ W = w') := Lib.hid fun W k => over_ses_off g 1 _ W k (OK1 _ SA) h1
  have C3 : Hid (∀ W, TabB W g (T.put 0 { T.s0 with a := sat T.s0.a T.s0.m }) → Calls Tryd.prog 53 #[.pointer (some ⟨g, 81, none⟩)] W fun e w' => e = .returned (.bool false) ∧ W = w') := Lib.hid fun W k => over_ses_off g 2 _ W k (OK1 _ SA) h2
  have KT := Lib.hid K
  have ON := Lib.hid (Only.refl g w)
  clear SA OK1 hs h0 h1 h2 ha hm hd h K
  generalize T.put 0 { T.s0 with a := sat T.s0.a T.s0.m } = T1 at *
  go_enter Tryd.func36, Tryd.ntmps36
  go_wp2_with fail
  ((with_reducible refine (C0.out _ KT.out).mono ?_))
  rintro e w1 ⟨rfl, rfl⟩
  go_wp2_with fail
  refine wp_loop_rounds 4 ?_
  rw [rounds_succ]
  go_wp2_with fail
  ((with_reducible refine (C1.out _ KT.out).mono ?_))
  rintro e w1 ⟨rfl, k1, o1⟩
  replace KT := Lib.hid k1
  replace ON := Lib.hid (ON.out.trans o1)
  clear C0 C1 k1 o1
  go_wp2_with fail
  rw [rounds_succ]
  go_wp2_with fail
  ((with_reducible refine (C2.out _ KT.out).mono ?_))
  rintro e w9 ⟨rfl, rfl⟩
  go_wp2_with fail
  rw [rounds_succ]
  go_wp2_with fail
  ((with_reducible refine (C3.out _ KT.out).mono ?_))
  rintro e w9 ⟨rfl, rfl⟩
  go_wp2_with fail
  rw [rounds_succ]
  go_wp2_with fail
  go_ret
  exact ⟨rfl, KT.out, ON.out⟩
set_option maxRecDepth 100000 in
set_option maxHeartbeats 3200000 in
theorem tick_due1 (g : Nat) (T : Tab) (w : World) (K : TabB w g T) (h : T.ok) (hs : T.son = false) (h0 : T.s0.on = true) (h1 : T.s1.on = false) (h2 : T.s2.on = false) (ha : -9223372036854775808 ≤ T.s0.a) (hm : T.s0.m ≤ 9223372036854775807) (hd : T.s0.m ≤ sat T.s0.a T.s0.m) :
    Calls Tryd.prog 36 #[.pointer (some ⟨g, 0, none⟩)] w fun e w' => ∃ (r c : Nat), w.heap.size ≤ r ∧ e = .returned (.slice (some ⟨r, 0, none⟩) 1 c) ∧ w'.cell? ⟨r, 0, none⟩ = some (.int .i64 1) ∧ TabB w' g (T.put 0 ses0) ∧ Only g w w' := by
  have lg := Blk.lt K
  have C0 := Lib.hid (fun W (k : TabB W g T) => over_son_off g T W k hs)
  have C1 : Hid (∀ W, TabB W g T → Calls Tryd.prog 53 #[.pointer (some ⟨g, 3, none⟩)] W fun e w' => e = .returned (.bool true) ∧ TabB w' g (T.put 0 { T.s0 with a := sat T.s0.a T.s0.m }) ∧ Only g W w') := Lib.hid fun W k => by
    have c := over_ses_on g 0 T W k h h0 ha hm
    rw [show decide ((T.ses 0).m ≤ sat (T.ses 0).a (T.ses 0).m) = true from decide_eq_true hd] at c
    exact c
  have OK1 : ∀ s, s.ok → (T.put 0 s).ok := fun s hs => h.put 0 hs
  have SA : (⟨T.s0.on, sat T.s0.a T.s0.m, T.s0.m, T.s0.r, T.s0.key, T.s0.win⟩ : Ses).ok := ⟨h.s0.len, h.s0.bytes, h.s0.win⟩
  have TP : Hid (∀ W, TabB W g (T.put 0 { T.s0 with a := sat T.s0.a T.s0.m }) → TabB (W.setCells g 3 ses0.v) g (T.put 0 ses0)) := Lib.hid (fun W k => by have := tab_put k (OK1 _ SA) 0 ses0 rfl; rwa [Tab.put_put] at this)
  have TH := Lib.hid (fun W (k : TabB W g (T.put 0 { T.s0 with a := sat T.s0.a T.s0.m })) => (blk_there k (o := 3) (n := 39) (by rw [tab_size k (OK1 _ SA)]; omega)))
  have BZ := Lib.hid built_ses0
  have SZ := Lib.hid (show ses0.v.toArray.size = 39 from Ses.v_len rfl)
  have S1 := Lib.hid (ses_one ses0)
  have ON0 := Lib.hid (fun W => only_cells (g := g) ses0.v 3 W)
  have C2 : Hid (∀ W, TabB W g (T.put 0 ses0) → Calls Tryd.prog 53 #[.pointer (some ⟨g, 42, none⟩)] W fun e w' => e = .returned (.bool false) ∧ W = w') := Lib.hid fun W k => over_ses_off g 1 _ W k (OK1 _ ses0_ok) h1
  have C3 : Hid (∀ W, TabB W g (T.put 0 ses0) → Calls Tryd.prog 53 #[.pointer (some ⟨g, 81, none⟩)] W fun e w' => e = .returned (.bool false) ∧ W = w') := Lib.hid fun W k => over_ses_off g 2 _ W k (OK1 _ ses0_ok) h2
  have KT := Lib.hid K
  have ON := Lib.hid (Only.refl g w)
  clear SA OK1 hs h0 h1 h2 ha hm hd h K
  generalize T.put 0 { T.s0 with a := sat T.s0.a T.s0.m } = T1 at *
  generalize HT2 : T.put 0 ses0 = T2 at *
  obtain ⟨sv, hsv⟩ : ∃ x, x = ses0.v := ⟨_, rfl⟩
  rw [← hsv] at TP BZ SZ S1 ON0
  clear hsv HT2
  go_enter Tryd.func36, Tryd.ntmps36
  go_wp2_with fail
  ((with_reducible refine (C0.out _ KT.out).mono ?_))
  rintro e w1 ⟨rfl, rfl⟩
  go_wp2_with fail
  refine wp_loop_rounds 4 ?_
  rw [rounds_succ]
  go_wp2_with fail
  ((with_reducible refine (C1.out _ KT.out).mono ?_))
  rintro e w1 ⟨rfl, k1, o1⟩
  replace KT := Lib.hid k1
  replace ON := Lib.hid (ON.out.trans o1)
  clear C0 C1 k1 o1
  go_wp2_with (first | ((with_reducible show wpList _ _ _ (⟨some 30, _, _, _, _, _⟩ :: _) _ _); refine wpList_build' rfl 98 _ rfl sv.toArray BZ.out ?_) | ((with_reducible show wpList _ _ _ (⟨_, .store 98 _ _, _, _, _, none⟩ :: _) _ _); (with_reducible refine wpList_store_mid rfl 98 _ _ rfl g 3 sv.toArray ?_ ?_ ?_ ?_ ?_ ?_); (· rfl); (· rfl); (· rw [SZ.out]; exact TH.out _ KT.out); (· rw [SZ.out]; exact agg_ses.2); (· exact S1.out); refine Marker.mk ?_))
  refine Marker.in ?_
  replace ON := Lib.hid (ON.out.trans (ON0.out _))
  replace KT := Lib.hid (TP.out _ KT.out)
  clear TP TH BZ SZ S1 ON0
  generalize w1.setCells g 3 sv = w2 at *
  go_wp2_with (at_builtin; refine Marker.mk ?_)
  refine Marker.in ?_
  have KA := Lib.hid (Blk.new w2 #[.int .i64 1] 3)
  have bel := below_alloc1 w2 (.cells #[.int .i64 1] 3)
  replace KT := Lib.hid (KT.out.below bel)
  replace ON := Lib.hid (ON.out.trans (Only.of_below bel))
  clear bel
  have lw := ON.out.size
  generalize w2.alloc (.cells #[.int .i64 1] 3) = w3 at *
  refine wpList_append_int w3 rfl _ _ rfl w3.heap.size none 0 0 [] rfl rfl (World.ownsRow_nil _ _ _ _) ⟨_, 0, none⟩ 1 1 rfl (by rw [KA.out.cell]; rfl) (by decide) (Nat.le_refl _) ?_
  intro A' cap' w4 hown hbel _
  obtain ⟨r, rfl, hr1, hr2⟩ := hown.cell 0 (by simp)
  replace KT := Lib.hid (KT.out.below hbel)
  replace ON := Lib.hid (ON.out.trans (Only.of_below hbel))
  clear hown hbel KA
  go_wp2_with fail
  rw [rounds_succ]
  go_wp2_with fail
  ((with_reducible refine (C2.out _ KT.out).mono ?_))
  rintro e w9 ⟨rfl, rfl⟩
  go_wp2_with fail
  rw [rounds_succ]
  go_wp2_with fail
  ((with_reducible refine (C3.out _ KT.out).mono ?_))
  rintro e w9 ⟨rfl, rfl⟩
  go_wp2_with fail
  rw [rounds_succ]
  go_wp2_with fail
  go_ret
  exact ⟨r, _, Nat.le_trans lw hr1, rfl, hr2, KT.out, ON.out⟩
end Go.Proofs.YtapednkmefbldaaDoor

/- The document's example of the table. -/
namespace Go.Proofs.YtapednkmefbldaaDoor
open Go.RowKit

set_option maxRecDepth 100000 in
theorem build_z32 : Tryd.prog.built 22 [] = some (u8V (zeros 32)) := by kernel_rfl
set_option maxRecDepth 100000 in
theorem built_pol (beat most : Int) : ∃ pv, Tryd.prog.built 62 [(16, .int .i64 most), (9, .int .i64 beat)] = some pv ∧ pv.size = 56 ∧ pv[42]? = some (.int .i64 beat) ∧ pv[49]? = some (.int .i64 most) := by
  have h : (Tryd.prog.built 62 [(16, .int .i64 most), (9, .int .i64 beat)]).map (fun a => (a.size, a[42]?, a[49]?)) = some (56, some (.int .i64 beat), some (.int .i64 most)) := by kernel_rfl
  cases hb : Tryd.prog.built 62 [(16, .int .i64 most), (9, .int .i64 beat)] with
  | none => rw [hb] at h; simp at h
  | some pv =>
    rw [hb] at h
    simp only [Option.map_some, Option.some.injEq, Prod.mk.injEq] at h
    exact ⟨pv, rfl, h.1, h.2.1, h.2.2⟩
def shT1 : Tab := (tab0 2 1).put 0 (sesB true 2 1 (zeros 32))
def shT2 : Tab := (tab0 2 1).put 0 ses0
def shT3 : Tab := shT2.put 1 (sesB true 2 1 (zeros 32))
theorem z32_ok : (sesB true 2 1 (zeros 32)).ok := sesB_ok _ _ _ _ rfl (zeros_bytes 32)
theorem shT1_ok : shT1.ok := (tab0_ok 2 1).put 0 z32_ok
theorem shT2_ok : shT2.ok := (tab0_ok 2 1).put 0 ses0_ok
theorem shT3_ok : shT3.ok := shT2_ok.put 1 z32_ok
theorem sh_a (g : Nat) (w : World) (K : TabB w g (tab0 2 1)) : Calls Tryd.prog 27 #[.pointer (some ⟨g, 0, none⟩), .int .i64 1, .int .i64 1, .agg (u8V (zeros 32))] w fun e w' => e = .returned (.int .i64 0) ∧ TabB w' g shT1 ∧ Only g w w' := by
  refine (tabf_start g _ 1 1 (zeros 32) w K (tab0_ok 2 1) rfl).mono ?_
  rintro e w' ⟨h, ho⟩
  rw [if_pos (by omega), if_neg (by rintro ⟨-, h⟩; exact absurd h (by decide))] at h
  exact ⟨h.1, h.2, ho⟩
theorem sh_b (g : Nat) (w : World) (K : TabB w g shT1) : Calls Tryd.prog 27 #[.pointer (some ⟨g, 0, none⟩), .int .i64 2, .int .i64 1, .agg (u8V (zeros 32))] w fun e w' => e = .returned (.int .i64 19) ∧ TabB w' g shT1 ∧ Only g w w' := by
  refine (tabf_start g _ 2 1 (zeros 32) w K shT1_ok rfl).mono ?_
  rintro e w' ⟨h, ho⟩
  rw [if_pos (by omega), if_pos ⟨rfl, by decide⟩] at h
  exact ⟨h.1, h.2, ho⟩
theorem sh_c (g : Nat) (w : World) (K : TabB w g shT1) : Calls Tryd.prog 26 #[.pointer (some ⟨g, 0, none⟩), .int .i64 1] w fun e w' => e = .returned (.bool true) ∧ TabB w' g shT2 ∧ Only g w w' := by
  refine (tabf_end g _ 1 w K shT1_ok).mono ?_
  rintro e w' ⟨h, ho⟩
  rw [if_pos (by omega), if_pos (show (shT1.ses (1 - 1 : Int).toNat).on = true from rfl)] at h
  exact ⟨h.1, h.2, ho⟩
theorem sh_d (g : Nat) (w : World) (K : TabB w g shT2) : Calls Tryd.prog 27 #[.pointer (some ⟨g, 0, none⟩), .int .i64 2, .int .i64 1, .agg (u8V (zeros 32))] w fun e w' => e = .returned (.int .i64 0) ∧ TabB w' g shT3 ∧ Only g w w' := by
  refine (tabf_start g _ 2 1 (zeros 32) w K shT2_ok rfl).mono ?_
  rintro e w' ⟨h, ho⟩
  rw [if_pos (by omega), if_neg (by rintro ⟨-, h⟩; exact absurd h (by decide))] at h
  exact ⟨h.1, h.2, ho⟩
theorem sh_on (g : Nat) (w : World) (K : TabB w g shT3) (s : Int) (b : Bool) (h : shT3.isOn s = b) : Calls Tryd.prog 34 #[.pointer (some ⟨g, 0, none⟩), .int .i64 s] w fun e w' => e = .returned (.bool b) ∧ w = w' := by
  rw [← h]
  exact tabf_on g shT3 s w K shT3_ok
set_option maxRecDepth 100000 in
set_option maxHeartbeats 1600000 in
theorem shown16 (w : World) : Calls Tryd.prog 23 #[] w fun e w' => e = .returned (.bool true) ∧ Below w.heap.size w w' := by
  obtain ⟨pv, hpv, hps, hp1, hp2⟩ := built_pol 2 1
  have BP := Lib.hid hpv
  have CN := Lib.hid (fun W => tabf_new pv 2 1 W hps hp1 hp2)
  have B32 := Lib.hid build_z32
  have O2 := Lib.hid (fun g W (k : TabB W g shT3) => sh_on g W k 2 true rfl)
  have O1 := Lib.hid (fun g W (k : TabB W g shT3) => sh_on g W k 1 false rfl)
  have O4 := Lib.hid (fun g W (k : TabB W g shT3) => sh_on g W k 4 true rfl)
  clear hpv hps hp1 hp2
  have CA := Lib.hid sh_a
  have CB := Lib.hid sh_b
  have CC := Lib.hid sh_c
  have CD := Lib.hid sh_d
  generalize u8V (zeros 32) = kz at *
  go_enter Tryd.func23, Tryd.ntmps23
  go_wp2_with (first | ((with_reducible show wpList _ _ _ (⟨some 6, _, _, _, _, _⟩ :: _) _ _); refine wpList_build' rfl 62 _ rfl pv BP.out ?_))
  ((with_reducible refine (CN.out _).mono ?_))
  rintro e w1 ⟨g, hg, rfl, kt, b1⟩
  have KT := Lib.hid kt
  have ON := Lib.hid (Only.refl g w1)
  replace b1 := Lib.hid b1
  clear kt CN BP
  go_wp2_with ((with_reducible show wpList _ _ _ (⟨some 11, _, _, _, _, _⟩ :: _) _ _); refine wpList_build' rfl 22 _ rfl kz B32.out ?_)
  ((with_reducible refine (CA.out _ _ KT.out).mono ?_))
  rintro e w9 ⟨rfl, kt, o1⟩
  replace KT := Lib.hid kt
  replace ON := Lib.hid (ON.out.trans o1)
  clear kt o1 CA
  go_wp2_with ((with_reducible show wpList _ _ _ (⟨some 14, _, _, _, _, _⟩ :: _) _ _); refine wpList_build' rfl 22 _ rfl kz B32.out ?_)
  ((with_reducible refine (CB.out _ _ KT.out).mono ?_))
  rintro e w9 ⟨rfl, kt, o1⟩
  replace KT := Lib.hid kt
  replace ON := Lib.hid (ON.out.trans o1)
  clear kt o1 CB
  go_wp2_with fail
  ((with_reducible refine (CC.out _ _ KT.out).mono ?_))
  rintro e w9 ⟨rfl, kt, o1⟩
  replace KT := Lib.hid kt
  replace ON := Lib.hid (ON.out.trans o1)
  clear kt o1 CC
  go_wp2_with ((with_reducible show wpList _ _ _ (⟨some 19, _, _, _, _, _⟩ :: _) _ _); refine wpList_build' rfl 22 _ rfl kz B32.out ?_)
  ((with_reducible refine (CD.out _ _ KT.out).mono ?_))
  rintro e w9 ⟨rfl, kt, o1⟩
  replace KT := Lib.hid kt
  replace ON := Lib.hid (ON.out.trans o1)
  clear kt o1 CD
  go_wp2_with fail
  ((with_reducible refine (O2.out _ _ KT.out).mono ?_))
  rintro e w9 ⟨rfl, rfl⟩
  go_wp2_with fail
  ((with_reducible refine (O1.out _ _ KT.out).mono ?_))
  rintro e w9 ⟨rfl, rfl⟩
  go_wp2_with fail
  ((with_reducible refine (O4.out _ _ KT.out).mono ?_))
  rintro e w9 ⟨rfl, rfl⟩
  go_wp2_with fail
  go_ret
  exact ⟨rfl, b1.out.trans (ON.out.bel _ hg b1.out.size)⟩
end Go.Proofs.YtapednkmefbldaaDoor
