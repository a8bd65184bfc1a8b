/- Several texts in one. -/
import Derived.Test.YtapednkmefbldaaDoorJtd
import Derived.Test.YtapednkmefbldaaDoorJrp
import Derived.Test.YtapednkmefbldaaDoorJr9
import Derived.Test.YtapednkmefbldaaDoorOwnB

/- The table, in plain Lean: a beat that is sealed is taken. -/
namespace Go.Proofs.YtapednkmefbldaaDoor
open Go.RowKit

def beatL (q : Int) : List Int := [3, q, 0, 0, 0, 0, 0, 0, 0, 0, 0, 0]
def beatB (q : Int) : List Int := [3] ++ be q 4
theorem beat_put (q : Int) (h : 0 ≤ q ∧ q ≤ 4294967295) : put8 (beatL q) = some (beatB q) := put8_lit3 q h
theorem beat_take (q : Int) (h : 0 ≤ q ∧ q ≤ 4294967295) : take8 (beatB q) = some (beatL q) := take8_put rfl (beat_put q h)
theorem beat_len (q : Int) (h : 0 ≤ q ∧ q ≤ 4294967295) : (beatB q).length = 5 := put8_len (beat_put q h)
theorem seal_is (key b : List Int) (s : Int) : isSealed key s (b ++ tagOf key s b) := by
  have hl := tagOf_len key s b
  unfold isSealed
  rw [List.length_append, hl, Nat.add_sub_cancel, List.take_left]
  exact ⟨by omega, rfl⟩
theorem take_sealed {T : Tab} {i : Nat} {b : List Int} (hi : i < 3) (hon : (T.ses i).on = true) : T.take ((i : Int) + 1) (b ++ tagOf (T.ses i).key ((i : Int) + 1) b) = takeM T i b := by
  have e2 : ((i : Int) + 1 - 1).toNat = i := by omega
  have hl := tagOf_len (T.ses i).key ((i : Int) + 1) b
  unfold Tab.take
  rw [e2, if_pos ⟨by omega, hon⟩, if_pos (seal_is _ _ _), List.length_append, hl, Nat.add_sub_cancel, List.take_left]
theorem takeM_msg {T : Tab} {i : Nat} {b l : List Int} (h : take8 b = some l) (hk : l.getD 0 0 ≠ 1 ∧ l.getD 0 0 ≠ 2) (hs : (wsee (T.ses i).win (l.getD 1 0).toNat).2 = true) :
    takeM T i b = ⟨T.put i ⟨true, 0, max T.beat 0, (T.ses i).r, (T.ses i).key, (wsee (T.ses i).win (l.getD 1 0).toNat).1⟩, l, 0⟩ := by
  unfold takeM
  rw [h]
  simp only
  rw [if_neg (by omega), if_pos hs]
theorem takeM_old {T : Tab} {i : Nat} {b l : List Int} (h : take8 b = some l) (hk : l.getD 0 0 ≠ 1 ∧ l.getD 0 0 ≠ 2) (hs : (wsee (T.ses i).win (l.getD 1 0).toNat).2 = false) :
    takeM T i b = ⟨T, z12 0, 15⟩ := by
  unfold takeM
  rw [h]
  simp only
  rw [if_neg (by omega), if_neg (by rw [hs]; exact Bool.false_ne_true)]
theorem Tab.many_put0 (T : Tab) (s : Ses) : (T.put 0 s).many = T.many - (if T.s0.on then 1 else 0) + (if s.on then 1 else 0) := by simp only [Tab.many, Tab.put]; omega
theorem Tab.many_put1 (T : Tab) (s : Ses) : (T.put 1 s).many = T.many - (if T.s1.on then 1 else 0) + (if s.on then 1 else 0) := by simp only [Tab.many, Tab.put]; omega
theorem Tab.many_put2 (T : Tab) (s : Ses) : (T.put 2 s).many = T.many - (if T.s2.on then 1 else 0) + (if s.on then 1 else 0) := by simp only [Tab.many, Tab.put]; omega
theorem Tab.many_in (T : Tab) : 0 ≤ T.many ∧ T.many ≤ 3 := by
  unfold Tab.many
  constructor <;> (split <;> split <;> split <;> omega)
theorem blk_ne {w : World} {a b : Nat} {x y : Array Value} {S R : TypeId} (h : Blk w a x S) (k : Blk w b y R) (hne : S ≠ R) : a ≠ b := by
  rintro rfl
  have e : some (Obj.cells x S (0, 0)) = some (Obj.cells y R (0, 0)) := h.symm.trans k
  injection e with e
  injection e with e1 e2
  exact hne e2
theorem st_ok (g k : Nat) (T : Tab) (src role : Int) (key : List Int) (w : World) (K : TabB w g T) (h : T.ok) (hk : key.length = 32) (hk3 : k < 3) (hs : src = (k : Int) + 1) (hr : 0 ≤ role ∧ role ≤ 3) (hc : (T.ses k).on = true ∨ T.many < T.most) :
    Calls Tryd.prog 27 #[.pointer (some ⟨g, 0, none⟩), .int .i64 src, .int .i64 role, .agg (u8V key)] w fun e w' => e = .returned (.int .i64 0) ∧ TabB w' g (T.put k (sesB true (max T.beat 0) role key)) ∧ Only g w w' := by
  refine (tabf_start g T src role key w K h hk).mono ?_
  have e2 : (src - 1).toNat = k := by omega
  rintro e w' ⟨h, ho⟩
  rw [e2, if_pos ⟨by omega, hr⟩, if_neg (by rintro ⟨h1, h2⟩; rcases hc with hc | hc; · rw [hc] at h1; cases h1
                                            · omega)] at h
  exact ⟨h.1, h.2, ho⟩
theorem st_full (g k : Nat) (T : Tab) (src role : Int) (key : List Int) (w : World) (K : TabB w g T) (h : T.ok) (hk : key.length = 32) (hk3 : k < 3) (hs : src = (k : Int) + 1) (hr : 0 ≤ role ∧ role ≤ 3) (hc : (T.ses k).on = false) (hm : T.most ≤ T.many) :
    Calls Tryd.prog 27 #[.pointer (some ⟨g, 0, none⟩), .int .i64 src, .int .i64 role, .agg (u8V key)] w fun e w' => e = .returned (.int .i64 19) ∧ TabB w' g T ∧ Only g w w' := by
  refine (tabf_start g T src role key w K h hk).mono ?_
  have e2 : (src - 1).toNat = k := by omega
  rintro e w' ⟨h, ho⟩
  rw [e2, if_pos ⟨by omega, hr⟩, if_pos ⟨hc, hm⟩] at h
  exact ⟨h.1, h.2, ho⟩
theorem st_bad (g : Nat) (T : Tab) (src role : Int) (key : List Int) (w : World) (K : TabB w g T) (h : T.ok) (hk : key.length = 32) (hb : ¬ ((src = 1 ∨ src = 2 ∨ src = 3) ∧ 0 ≤ role ∧ role ≤ 3)) :
    Calls Tryd.prog 27 #[.pointer (some ⟨g, 0, none⟩), .int .i64 src, .int .i64 role, .agg (u8V key)] w fun e w' => e = .returned (.int .i64 1) ∧ TabB w' g T ∧ Only g w w' := by
  refine (tabf_start g T src role key w K h hk).mono ?_
  rintro e w' ⟨h, ho⟩
  rw [if_neg hb] at h
  exact ⟨h.1, h.2, ho⟩
theorem en_on (g k : Nat) (T : Tab) (src : Int) (w : World) (K : TabB w g T) (h : T.ok) (hk3 : k < 3) (hs : src = (k : Int) + 1) (hc : (T.ses k).on = true) :
    Calls Tryd.prog 26 #[.pointer (some ⟨g, 0, none⟩), .int .i64 src] w fun e w' => e = .returned (.bool true) ∧ TabB w' g (T.put k ses0) ∧ Only g w w' := by
  refine (tabf_end g T src w K h).mono ?_
  have e2 : (src - 1).toNat = k := by omega
  rintro e w' ⟨h, ho⟩
  rw [e2, if_pos (by omega), if_pos hc] at h
  exact ⟨h.1, h.2, ho⟩
theorem en_off (g k : Nat) (T : Tab) (src : Int) (w : World) (K : TabB w g T) (h : T.ok) (hk3 : k < 3) (hs : src = (k : Int) + 1) (hc : (T.ses k).on = false) :
    Calls Tryd.prog 26 #[.pointer (some ⟨g, 0, none⟩), .int .i64 src] w fun e w' => e = .returned (.bool false) ∧ TabB w' g T ∧ Only g w w' := by
  refine (tabf_end g T src w K h).mono ?_
  have e2 : (src - 1).toNat = k := by omega
  rintro e w' ⟨h, ho⟩
  rw [e2, if_pos (by omega), if_neg (by rw [hc]; exact Bool.false_ne_true)] at h
  exact ⟨h.1, h.2, ho⟩
theorem en_bad (g : Nat) (T : Tab) (src : Int) (w : World) (K : TabB w g T) (h : T.ok) (hb : ¬ (src = 1 ∨ src = 2 ∨ src = 3)) :
    Calls Tryd.prog 26 #[.pointer (some ⟨g, 0, none⟩), .int .i64 src] w fun e w' => e = .returned (.bool false) ∧ TabB w' g T ∧ Only g w w' := by
  refine (tabf_end g T src w K h).mono ?_
  rintro e w' ⟨h, ho⟩
  rw [if_neg hb] at h
  exact ⟨h.1, h.2, ho⟩
/-- one who just began is taken -/
theorem take_first (g k : Nat) (T : Tab) (src role mb q : Int) (key : List Int) (B : Option Addr) (c : Nat) (w : World) (K : TabB w g (T.put k (sesB true mb role key))) (h : T.ok) (hk : key.length = 32) (hkb : ∀ x ∈ key, 0 ≤ x ∧ x ≤ 255) (hk3 : k < 3) (hs : src = (k : Int) + 1) (hq : 0 ≤ q ∧ q ≤ 4294967295)
    (hc : 13 ≤ c) (hc2 : c ≤ 9223372036854775807) (hr : Row w B (beatB q ++ tagOf key src (beatB q))) (hR : Roots w) :
    Calls Tryd.prog 28 #[.pointer (some ⟨g, 0, none⟩), .int .i64 src, .slice B 13 c] w fun e w' => e = .returned (.tuple #[.agg (msgV (beatL q)), .int .i64 0]) ∧ TabB w' g (T.put k ⟨true, 0, max T.beat 0, role, key, some (q.toNat, 1)⟩) ∧ Only g w w' := by
  have ht := take_sealed (T := T.put k (sesB true mb role key)) (i := k) (b := beatB q) hk3 (by rw [Tab.ses_put]; rfl)
  rw [Tab.ses_put, ← hs, show (sesB true mb role key).key = key from rfl, takeM_msg (beat_take q hq) ⟨(by show (3 : Int) ≠ 1; decide), (by show (3 : Int) ≠ 2; decide)⟩ (by rw [Tab.ses_put]; rfl), Tab.ses_put, Tab.put_put, (Tab.put_beat T k _).1] at ht
  refine (tabf_take g _ src _ B 13 c w K (h.put k (sesB_ok true mb role key hk hkb)) (by rw [List.length_append, beat_len q hq, tagOf_len]) hc hc2 (by omega) hr hR).mono ?_
  rw [ht]
  rintro e w' ⟨he, hk, ho⟩
  exact ⟨he, hk, ho⟩
end Go.Proofs.YtapednkmefbldaaDoor

/- The walk of TableFull. -/
namespace Go.Proofs.YtapednkmefbldaaDoor
open Go.RowKit

def onV (T : Tab) : Array Value := #[.bool false, .bool T.s0.on, .bool T.s1.on, .bool T.s2.on]
def off4 : Array Value := #[.bool false, .bool false, .bool false, .bool false]
set_option maxRecDepth 100000 in
theorem build_b4 : Tryd.prog.built 63 [] = some off4 := by kernel_rfl
theorem off4_size : off4.size = 4 := rfl
theorem off4_one : off4.all (·.oneCell') = true := by simp [off4, Value.oneCell']
set_option maxRecDepth 100000 in
theorem agg_b4 : AggT Tryd.prog 63 4 := ⟨⟨_, Tryd.underlying63, rfl⟩, by kernel_rfl⟩
set_option maxRecDepth 100000 in
theorem zeroT_b4 : ZeroT Tryd.prog 63 off4 := by
  intro ev o w ho
  unfold execOp
  simp only [ho]
  simp [go_sem]
  exact congrArg (fun c => w.alloc (.cells c 63)) (by kernel_rfl)
set_option maxRecDepth 100000 in
theorem built_beat (q : Int) : Tryd.prog.built 66 [(0, .int .i64 3), (1, .int .i64 q)] = some (msgV (beatL q)) := by kernel_rfl
set_option maxRecDepth 100000 in
set_option maxHeartbeats 3200000 in
theorem walk_TableFull (v0 v1 v2 : Value) (w : World) (hR : Roots w) (q0 : ∃ n : Int, v0 = .int .u8 n ∧ 0 ≤ n ∧ n ≤ 255) (q1 : IsRow .u8 w v1) (q2 : ∃ b0, Value.okWide Tryd.prog w .any b0 22 v2) :
    Calls Tryd.prog 7 #[v0, v1, v2] w fun e w' => e = .returned (.bool true) ∧ Below w.heap.size w w' := by
  obtain ⟨n, rfl, n0, n1⟩ := q0
  obtain ⟨A, xs, cap, rfl, hx1, hx2, hx3, hx4⟩ := bytes_of_row q1
  obtain ⟨b2, q2⟩ := q2
  obtain ⟨key, rfl, KL, KB⟩ := flat_b32 _ _ _ q2
  have RT := Lib.hid hR
  have CP := Lib.hid (fun W => rput_any (beatL 7) ⟨rfl, .inl rfl⟩ W)
  have BM := Lib.hid (built_beat 7)
  have B4 := Lib.hid build_b4
  have KS : Hid ((u8V key).size = 32) := Lib.hid (by rw [u8V_size, KL])
  replace KL := Lib.hid KL
  replace KB := Lib.hid KB
  clear q1 q2 hR
  obtain ⟨kv, hkv⟩ : ∃ x, x = u8V key := ⟨_, rfl⟩
  rw [← hkv] at KS ⊢
  replace hkv := Lib.hid hkv
  have XR := Lib.hid hx3
  obtain ⟨m, hm⟩ : ∃ m, xs.length = m := ⟨_, rfl⟩
  replace HM := Lib.hid hm
  rw [hm] at hx1 ⊢
  clear hm hx3
  go_enter Tryd.func7, Tryd.ntmps7
  go_wp2_with fail
  have K5 := Lib.hid (Blk.new w kv 22)
  have BB := Lib.hid (below_alloc1 w (.cells kv 22))
  have l5 := K5.out.lt
  generalize w.alloc (.cells kv 22) = w1 at *
  ((with_reducible refine (shown16 _).mono ?_))
  rintro e w2 ⟨rfl, b2⟩
  replace K5 := Lib.hid (K5.out.below b2)
  replace BB := Lib.hid (bt BB.out b2)
  clear b2
  go_wp2_with (((with_reducible show wpList _ _ _ (⟨some 27, _, _, _, _, _⟩ :: _) _ _); refine Marker.mk ?_))
  refine Marker.in ?_
  generalize 1 + n % 3 = most at *
  obtain ⟨pv, hpv, hps, hp1, hp2⟩ := built_pol 9 most
  have CN := Lib.hid (fun W => tabf_new pv 9 most W hps hp1 hp2)
  replace hpv := Lib.hid hpv
  clear hps hp1 hp2
  go_wp2_with (first | ((with_reducible show wpList _ _ _ (⟨some 27, _, _, _, _, _⟩ :: _) _ _); refine wpList_build' rfl 62 _ rfl pv hpv.out ?_))
  have lk2 := K5.out.lt
  ((with_reducible refine (CN.out _).mono ?_))
  rintro e w3 ⟨g, hg, rfl, kt, b2⟩
  have lg := BB.out.size
  replace K5 := Lib.hid (K5.out.below b2)
  replace BB := Lib.hid (bt BB.out b2)
  have KT := Lib.hid kt
  have lg3 := Blk.lt kt
  have lg2 : w2.heap.size ≤ g := hg
  clear b2 CN kt hpv hg
  have l6 : w.heap.size < g := by omega
  clear lg lg2 lk2 l5
  go_wp2_with (first | ((with_reducible show wpList _ _ _ (⟨some 35, _, _, _, _, _⟩ :: _) _ _); refine wpList_build' rfl 63 _ rfl off4 B4.out ?_) | ((with_reducible show wpList _ _ _ (⟨_, .alloc 63, _, _, _, none⟩ :: _) _ _); (with_reducible refine wpRow_alloc zeroT_b4 ?_ ?_ ?_); (· exact wanted0 rfl); (· rfl); refine Marker.mk ?_))
  refine Marker.in ?_
  have KO := Lib.hid (Blk.new w3 off4 63)
  have bel := below_alloc1 w3 (.cells off4 63)
  replace K5 := Lib.hid (K5.out.below bel)
  replace BB := Lib.hid (bt BB.out bel)
  replace KT := Lib.hid (KT.out.below bel)
  clear bel
  generalize w3.alloc (.cells off4 63) = w4 at *
  generalize w3.heap.size = go at *
  go_wp2_with ((with_reducible show wpList _ _ _ (⟨_, .store 63 _ _, _, _, _, none⟩ :: _) _ _); (with_reducible refine wpBlk_store (g := go) (cs := off4) agg_b4 ?_ ?_ KO ?_ ?_ ?_ ?_); (· exact wanted0 rfl); (· exact ⟨rfl, rfl, rfl⟩); (· exact off4_size); (· exact off4_size); (· exact off4_one); refine Marker.mk ?_)
  refine Marker.in ?_
  replace KO : Hid (Blk (w4.setRow go off4) go (onV (tab0 9 most)) 63) := Lib.hid (KO.out.setRow _)
  replace K5 := Lib.hid (K5.out.setRow_other go off4 (by omega))
  replace KT : Hid (TabB (w4.setRow go off4) g (tab0 9 most)) := Lib.hid (Blk.setRow_other KT.out go off4 (by omega))
  replace BB := Lib.hid (below_setRow (g := go) BB.out (by omega) off4)
  generalize w4.setRow go off4 = w5 at *
  go_wp2_with (((with_reducible show wpList _ _ _ (⟨some 37, _, _, _, _, _⟩ :: _) _ _); refine wpList_build' rfl 66 _ rfl (msgV (beatL 7)) BM.out ?_))
  ((with_reducible refine (CP.out _).mono ?_))
  rintro e w6 hp
  unfold RPutP at hp
  rw [beat_put 7 (by omega)] at hp
  obtain ⟨⟨A6, c6, base6, rfl, hown⟩, b6⟩ := hp
  rw [beat_len 7 (by omega)]
  obtain ⟨g6, cur, rfl, -, kb6, hcur, hc5⟩ := own_blk hown (by rw [beat_len 7 (by omega)]; omega)
  have KB6 := Lib.hid kb6
  have HC6 := Lib.hid (own_cap8 hown)
  rw [beat_len 7 (by omega)] at hcur
  replace hcur := Lib.hid hcur
  replace K5 := Lib.hid (K5.out.below b6)
  replace KO := Lib.hid (KO.out.below b6)
  replace KT := Lib.hid (KT.out.below b6)
  replace BB := Lib.hid (bt BB.out b6)
  have n6a : Hid (g6 ≠ g) := Lib.hid (blk_ne KB6.out KT.out (by decide))
  have n6b : Hid (g6 ≠ go) := Lib.hid (blk_ne KB6.out KO.out (by decide))
  have B7R : Hid (∀ W, Blk W g6 cur 5 → Row W (some ⟨g6, 0, none⟩) (beatB 7)) := Lib.hid (by
    intro W k
    have := row_cur (P := beatB 7) k (by rw [beat_len 7 (by omega)]; exact hcur.out) hown.row.2 0 5
    rwa [List.drop_zero, List.take_of_length_le (by rw [beat_len 7 (by omega)]; omega)] at this)
  clear hown b6 CP BM B4 kb6 hc5
  go_wp2_with fail
  have lgo : g < go := by omega
  go_loopw [11, 14] (fun x y wr => ∃ (i : Nat) (T : Tab), i ≤ m ∧ i ≤ 20 ∧ y = .int .i64 i ∧ x = .int .i64 T.many ∧ T.ok ∧ T.most = most ∧ Blk wr w.heap.size kv 22 ∧ TabB wr g T ∧ Blk wr go (onV T) 63 ∧ Blk wr g6 cur 5 ∧ Below w.heap.size w wr) (fun _ y _ => 20 - (intOf y).toNat)
  case atStart => exact ⟨0, tab0 9 most, by omega, by omega, rfl, rfl, tab0_ok 9 most, rfl, K5.out, KT.out, KO.out, KB6.out, BB.out⟩
  case round =>
    clear K5 KT KO KB6 BB
    obtain ⟨i, T, him, hi20, rfl, rfl, hT, hmo, K5, KT, KO, KB6, BB⟩ := hrel
    replace K5 := Lib.hid K5
    replace KT := Lib.hid KT
    replace KO := Lib.hid KO
    replace KB6 := Lib.hid KB6
    replace BB := Lib.hid BB
    replace hT := Lib.hid hT
    replace hmo := Lib.hid hmo
    by_cases hlt : i < m
    · by_cases hl2 : i < 20
      · have t1 : decide ((i : Int) < (m : Int)) = true := decide_eq_true (by omega)
        have t2 : decide ((i : Int) < 20) = true := decide_eq_true (by omega)
        obtain ⟨b, off, x, hA, hcx, x0, x1⟩ : ∃ (b off : Nat) (x : Int), A = some ⟨b, off, none⟩ ∧ wr.cell? ⟨b, off + i, none⟩ = some (.int .u8 x) ∧ 0 ≤ x ∧ x ≤ 255 := by
          have hl : i < xs.length := by rw [HM.out]; exact hlt
          have hr := XR.out.below BB.out
          obtain ⟨h | ⟨b, off, h, hc⟩, h2⟩ := hr
          · rw [h] at hl; simp at hl
          · exact ⟨b, off, xs[i], h, hc i hl, h2 _ (List.getElem_mem _)⟩
        subst hA
        obtain ⟨sx, hsx⟩ : ∃ z, x % 4 = z := ⟨_, rfl⟩
        have hs4 : Hid (sx = 0 ∨ sx = 1 ∨ sx = 2 ∨ sx = 3) := Lib.hid (by omega)
        replace hsx := Lib.hid hsx
        obtain ⟨ro, hro⟩ : ∃ z : Int, (i : Int) % 4 = z := ⟨_, rfl⟩
        have hr4 : Hid (0 ≤ ro ∧ ro ≤ 3) := Lib.hid (by omega)
        replace hro := Lib.hid hro
        have mi := T.many_in
        have HMI := Lib.hid mi
        go_wp2_with ((with_reducible show wpList _ _ _ (⟨_, .load 22 _, _, _, _, none⟩ :: _) _ _); (with_reducible refine wpBlk_load (g := w.heap.size) agg_b32 ?_ ?_ K5 ?_ ?_); (· exact wanted0 rfl); (· exact ⟨rfl, rfl⟩); (· exact KS.out))
        · simp only [hsx.out]
          rcases hs4.out with rfl | rfl | rfl | rfl
          ·
            ((with_reducible refine (en_bad g T 0 _ KT.out hT.out (by decide)).mono ?_))
            rintro e w9 ⟨rfl, kt, o9⟩
            replace K5 := Lib.hid (o9.blk K5.out (Nat.ne_of_lt l6))
            replace KO := Lib.hid (o9.blk KO.out (Nat.ne_of_gt lgo))
            replace KB6 := Lib.hid (o9.blk KB6.out n6a.out)
            replace BB := Lib.hid (BB.out.trans (o9.bel _ (Nat.le_of_lt l6) BB.out.size))
            replace KT := Lib.hid kt
            clear kt o9
            have co : w9.cell? ⟨go, 0, none⟩ = some (.bool false) := by rw [KO.out.cell]; simp [onV]
            have fo : w9.frozen? ⟨go, 0, none⟩ = false := KO.out.frozen _
            go_wp2_with fail
            have e9 : (onV T).setIfInBounds 0 (.bool false) = onV T := by simp [onV]
            replace KO : Hid (Blk (w9.setCell ⟨go, 0, none⟩ (.bool false)) go (onV T) 63) := Lib.hid (by rw [← e9]; exact KO.out.set 0 (.bool false))
            replace K5 := Lib.hid (K5.out.other go 0 (.bool false) (by omega))
            replace KB6 := Lib.hid (KB6.out.other go 0 (.bool false) n6b.out)
            replace KT := Lib.hid (Blk.other KT.out go 0 (.bool false) (by omega))
            replace BB := Lib.hid (BB.out.setCell (p := ⟨go, 0, none⟩) (show w.heap.size ≤ go by omega) (.bool false))
            clear e9
            exact ⟨⟨i + 1, T, by omega, by omega, by simp, rfl, hT.out, hmo.out, K5.out, KT.out, KO.out, KB6.out, BB.out⟩, by simp [intOf]; omega⟩
          ·
            cases hon : (T.ses 0).on
            ·
              have hon1 : T.s0.on = false := hon
              ((with_reducible refine (en_off g 0 T 1 _ KT.out hT.out (by decide) (by decide) hon).mono ?_))
              rintro e w9 ⟨rfl, kt, o9⟩
              replace K5 := Lib.hid (o9.blk K5.out (Nat.ne_of_lt l6))
              replace KO := Lib.hid (o9.blk KO.out (Nat.ne_of_gt lgo))
              replace KB6 := Lib.hid (o9.blk KB6.out n6a.out)
              replace BB := Lib.hid (BB.out.trans (o9.bel _ (Nat.le_of_lt l6) BB.out.size))
              replace KT := Lib.hid kt
              clear kt o9
              have co : w9.cell? ⟨go, 1, none⟩ = some (.bool false) := by rw [KO.out.cell]; simp [onV, hon1]
              have fo : w9.frozen? ⟨go, 1, none⟩ = false := KO.out.frozen _
              have hon2 := Lib.hid hon1
              clear hon hon1
              go_wp2_with fail
              have hon1 := hon2.out
              have e9 : (onV T).setIfInBounds 1 (.bool false) = onV T := by simp [onV, hon1]
              replace KO : Hid (Blk (w9.setCell ⟨go, 1, none⟩ (.bool false)) go (onV T) 63) := Lib.hid (by rw [← e9]; exact KO.out.set 1 (.bool false))
              replace K5 := Lib.hid (K5.out.other go 1 (.bool false) (by omega))
              replace KB6 := Lib.hid (KB6.out.other go 1 (.bool false) n6b.out)
              replace KT := Lib.hid (Blk.other KT.out go 1 (.bool false) (by omega))
              replace BB := Lib.hid (BB.out.setCell (p := ⟨go, 1, none⟩) (show w.heap.size ≤ go by omega) (.bool false))
              clear e9
              exact ⟨⟨i + 1, T, by omega, by omega, by simp, rfl, hT.out, hmo.out, K5.out, KT.out, KO.out, KB6.out, BB.out⟩, by simp [intOf]; omega⟩
            ·
              have hon1 : T.s0.on = true := hon
              ((with_reducible refine (en_on g 0 T 1 _ KT.out hT.out (by decide) (by decide) hon).mono ?_))
              rintro e w9 ⟨rfl, kt, o9⟩
              replace K5 := Lib.hid (o9.blk K5.out (Nat.ne_of_lt l6))
              replace KO := Lib.hid (o9.blk KO.out (Nat.ne_of_gt lgo))
              replace KB6 := Lib.hid (o9.blk KB6.out n6a.out)
              replace BB := Lib.hid (BB.out.trans (o9.bel _ (Nat.le_of_lt l6) BB.out.size))
              replace KT := Lib.hid kt
              clear kt o9
              have co : w9.cell? ⟨go, 1, none⟩ = some (.bool true) := by rw [KO.out.cell]; simp [onV, hon1]
              have fo : w9.frozen? ⟨go, 1, none⟩ = false := KO.out.frozen _
              have hm3 : (T.put 0 ses0).many = T.many - 1 := by rw [Tab.many_put0, hon1]; simp [ses0]
              replace hm3 := Lib.hid hm3
              have hon2 := Lib.hid hon1
              clear hon hon1
              go_wp2_with fail
              have hon1 := hon2.out
              have e9 : (onV T).setIfInBounds 1 (.bool false) = onV (T.put 0 ses0) := by simp [onV, Tab.put, ses0]
              replace KO : Hid (Blk (w9.setCell ⟨go, 1, none⟩ (.bool false)) go (onV (T.put 0 ses0)) 63) := Lib.hid (by rw [← e9]; exact KO.out.set 1 (.bool false))
              replace K5 := Lib.hid (K5.out.other go 1 (.bool false) (by omega))
              replace KB6 := Lib.hid (KB6.out.other go 1 (.bool false) n6b.out)
              replace KT := Lib.hid (Blk.other KT.out go 1 (.bool false) (by omega))
              replace BB := Lib.hid (BB.out.setCell (p := ⟨go, 1, none⟩) (show w.heap.size ≤ go by omega) (.bool false))
              clear e9
              exact ⟨⟨i + 1, (T.put 0 ses0), by omega, by omega, by simp, by rw [hm3.out], hT.out.put 0 ses0_ok, ((Tab.put_beat T 0 _).2.trans hmo.out), K5.out, KT.out, KO.out, KB6.out, BB.out⟩, by simp [intOf]; omega⟩
          ·
            cases hon : (T.ses 1).on
            ·
              have hon1 : T.s1.on = false := hon
              ((with_reducible refine (en_off g 1 T 2 _ KT.out hT.out (by decide) (by decide) hon).mono ?_))
              rintro e w9 ⟨rfl, kt, o9⟩
              replace K5 := Lib.hid (o9.blk K5.out (Nat.ne_of_lt l6))
              replace KO := Lib.hid (o9.blk KO.out (Nat.ne_of_gt lgo))
              replace KB6 := Lib.hid (o9.blk KB6.out n6a.out)
              replace BB := Lib.hid (BB.out.trans (o9.bel _ (Nat.le_of_lt l6) BB.out.size))
              replace KT := Lib.hid kt
              clear kt o9
              have co : w9.cell? ⟨go, 2, none⟩ = some (.bool false) := by rw [KO.out.cell]; simp [onV, hon1]
              have fo : w9.frozen? ⟨go, 2, none⟩ = false := KO.out.frozen _
              have hon2 := Lib.hid hon1
              clear hon hon1
              go_wp2_with fail
              have hon1 := hon2.out
              have e9 : (onV T).setIfInBounds 2 (.bool false) = onV T := by simp [onV, hon1]
              replace KO : Hid (Blk (w9.setCell ⟨go, 2, none⟩ (.bool false)) go (onV T) 63) := Lib.hid (by rw [← e9]; exact KO.out.set 2 (.bool false))
              replace K5 := Lib.hid (K5.out.other go 2 (.bool false) (by omega))
              replace KB6 := Lib.hid (KB6.out.other go 2 (.bool false) n6b.out)
              replace KT := Lib.hid (Blk.other KT.out go 2 (.bool false) (by omega))
              replace BB := Lib.hid (BB.out.setCell (p := ⟨go, 2, none⟩) (show w.heap.size ≤ go by omega) (.bool false))
              clear e9
              exact ⟨⟨i + 1, T, by omega, by omega, by simp, rfl, hT.out, hmo.out, K5.out, KT.out, KO.out, KB6.out, BB.out⟩, by simp [intOf]; omega⟩
            ·
              have hon1 : T.s1.on = true := hon
              ((with_reducible refine (en_on g 1 T 2 _ KT.out hT.out (by decide) (by decide) hon).mono ?_))
              rintro e w9 ⟨rfl, kt, o9⟩
              replace K5 := Lib.hid (o9.blk K5.out (Nat.ne_of_lt l6))
              replace KO := Lib.hid (o9.blk KO.out (Nat.ne_of_gt lgo))
              replace KB6 := Lib.hid (o9.blk KB6.out n6a.out)
              replace BB := Lib.hid (BB.out.trans (o9.bel _ (Nat.le_of_lt l6) BB.out.size))
              replace KT := Lib.hid kt
              clear kt o9
              have co : w9.cell? ⟨go, 2, none⟩ = some (.bool true) := by rw [KO.out.cell]; simp [onV, hon1]
              have fo : w9.frozen? ⟨go, 2, none⟩ = false := KO.out.frozen _
              have hm3 : (T.put 1 ses0).many = T.many - 1 := by rw [Tab.many_put1, hon1]; simp [ses0]
              replace hm3 := Lib.hid hm3
              have hon2 := Lib.hid hon1
              clear hon hon1
              go_wp2_with fail
              have hon1 := hon2.out
              have e9 : (onV T).setIfInBounds 2 (.bool false) = onV (T.put 1 ses0) := by simp [onV, Tab.put, ses0]
              replace KO : Hid (Blk (w9.setCell ⟨go, 2, none⟩ (.bool false)) go (onV (T.put 1 ses0)) 63) := Lib.hid (by rw [← e9]; exact KO.out.set 2 (.bool false))
              replace K5 := Lib.hid (K5.out.other go 2 (.bool false) (by omega))
              replace KB6 := Lib.hid (KB6.out.other go 2 (.bool false) n6b.out)
              replace KT := Lib.hid (Blk.other KT.out go 2 (.bool false) (by omega))
              replace BB := Lib.hid (BB.out.setCell (p := ⟨go, 2, none⟩) (show w.heap.size ≤ go by omega) (.bool false))
              clear e9
              exact ⟨⟨i + 1, (T.put 1 ses0), by omega, by omega, by simp, by rw [hm3.out], hT.out.put 1 ses0_ok, ((Tab.put_beat T 1 _).2.trans hmo.out), K5.out, KT.out, KO.out, KB6.out, BB.out⟩, by simp [intOf]; omega⟩
          ·
            cases hon : (T.ses 2).on
            ·
              have hon1 : T.s2.on = false := hon
              ((with_reducible refine (en_off g 2 T 3 _ KT.out hT.out (by decide) (by decide) hon).mono ?_))
              rintro e w9 ⟨rfl, kt, o9⟩
              replace K5 := Lib.hid (o9.blk K5.out (Nat.ne_of_lt l6))
              replace KO := Lib.hid (o9.blk KO.out (Nat.ne_of_gt lgo))
              replace KB6 := Lib.hid (o9.blk KB6.out n6a.out)
              replace BB := Lib.hid (BB.out.trans (o9.bel _ (Nat.le_of_lt l6) BB.out.size))
              replace KT := Lib.hid kt
              clear kt o9
              have co : w9.cell? ⟨go, 3, none⟩ = some (.bool false) := by rw [KO.out.cell]; simp [onV, hon1]
              have fo : w9.frozen? ⟨go, 3, none⟩ = false := KO.out.frozen _
              have hon2 := Lib.hid hon1
              clear hon hon1
              go_wp2_with fail
              have hon1 := hon2.out
              have e9 : (onV T).setIfInBounds 3 (.bool false) = onV T := by simp [onV, hon1]
              replace KO : Hid (Blk (w9.setCell ⟨go, 3, none⟩ (.bool false)) go (onV T) 63) := Lib.hid (by rw [← e9]; exact KO.out.set 3 (.bool false))
              replace K5 := Lib.hid (K5.out.other go 3 (.bool false) (by omega))
              replace KB6 := Lib.hid (KB6.out.other go 3 (.bool false) n6b.out)
              replace KT := Lib.hid (Blk.other KT.out go 3 (.bool false) (by omega))
              replace BB := Lib.hid (BB.out.setCell (p := ⟨go, 3, none⟩) (show w.heap.size ≤ go by omega) (.bool false))
              clear e9
              exact ⟨⟨i + 1, T, by omega, by omega, by simp, rfl, hT.out, hmo.out, K5.out, KT.out, KO.out, KB6.out, BB.out⟩, by simp [intOf]; omega⟩
            ·
              have hon1 : T.s2.on = true := hon
              ((with_reducible refine (en_on g 2 T 3 _ KT.out hT.out (by decide) (by decide) hon).mono ?_))
              rintro e w9 ⟨rfl, kt, o9⟩
              replace K5 := Lib.hid (o9.blk K5.out (Nat.ne_of_lt l6))
              replace KO := Lib.hid (o9.blk KO.out (Nat.ne_of_gt lgo))
              replace KB6 := Lib.hid (o9.blk KB6.out n6a.out)
              replace BB := Lib.hid (BB.out.trans (o9.bel _ (Nat.le_of_lt l6) BB.out.size))
              replace KT := Lib.hid kt
              clear kt o9
              have co : w9.cell? ⟨go, 3, none⟩ = some (.bool true) := by rw [KO.out.cell]; simp [onV, hon1]
              have fo : w9.frozen? ⟨go, 3, none⟩ = false := KO.out.frozen _
              have hm3 : (T.put 2 ses0).many = T.many - 1 := by rw [Tab.many_put2, hon1]; simp [ses0]
              replace hm3 := Lib.hid hm3
              have hon2 := Lib.hid hon1
              clear hon hon1
              go_wp2_with fail
              have hon1 := hon2.out
              have e9 : (onV T).setIfInBounds 3 (.bool false) = onV (T.put 2 ses0) := by simp [onV, Tab.put, ses0]
              replace KO : Hid (Blk (w9.setCell ⟨go, 3, none⟩ (.bool false)) go (onV (T.put 2 ses0)) 63) := Lib.hid (by rw [← e9]; exact KO.out.set 3 (.bool false))
              replace K5 := Lib.hid (K5.out.other go 3 (.bool false) (by omega))
              replace KB6 := Lib.hid (KB6.out.other go 3 (.bool false) n6b.out)
              replace KT := Lib.hid (Blk.other KT.out go 3 (.bool false) (by omega))
              replace BB := Lib.hid (BB.out.setCell (p := ⟨go, 3, none⟩) (show w.heap.size ≤ go by omega) (.bool false))
              clear e9
              exact ⟨⟨i + 1, (T.put 2 ses0), by omega, by omega, by simp, by rw [hm3.out], hT.out.put 2 ses0_ok, ((Tab.put_beat T 2 _).2.trans hmo.out), K5.out, KT.out, KO.out, KB6.out, BB.out⟩, by simp [intOf]; omega⟩
        · simp only [hsx.out]
          rw [hro.out]
          rcases hs4.out with rfl | rfl | rfl | rfl
          ·
            rw [hkv.out]
            ((with_reducible refine (st_bad g T 0 ro key _ KT.out hT.out KL.out (by omega)).mono ?_))
            rintro e w9 ⟨rfl, kt, o9⟩
            rw [← hkv.out]
            replace K5 := Lib.hid (o9.blk K5.out (Nat.ne_of_lt l6))
            replace KO := Lib.hid (o9.blk KO.out (Nat.ne_of_gt lgo))
            replace KB6 := Lib.hid (o9.blk KB6.out n6a.out)
            replace BB := Lib.hid (BB.out.trans (o9.bel _ (Nat.le_of_lt l6) BB.out.size))
            replace KT := Lib.hid kt
            clear kt o9
            have co : w9.cell? ⟨go, 0, none⟩ = some (.bool false) := by rw [KO.out.cell]; simp [onV]
            have fo : w9.frozen? ⟨go, 0, none⟩ = false := KO.out.frozen _
            go_wp2_with fail
            exact ⟨⟨i + 1, T, by omega, by omega, by simp, rfl, hT.out, hmo.out, K5.out, KT.out, KO.out, KB6.out, BB.out⟩, by simp [intOf]; omega⟩
          ·
            cases hon : (T.ses 0).on
            ·
              by_cases hfull : most ≤ T.many
              ·
                have hon1 : T.s0.on = false := hon
                rw [hkv.out]
                ((with_reducible refine (st_full g 0 T 1 ro key _ KT.out hT.out KL.out (by decide) (by decide) hr4.out hon (by rw [hmo.out]; exact hfull)).mono ?_))
                rintro e w9 ⟨rfl, kt, o9⟩
                rw [← hkv.out]
                replace K5 := Lib.hid (o9.blk K5.out (Nat.ne_of_lt l6))
                replace KO := Lib.hid (o9.blk KO.out (Nat.ne_of_gt lgo))
                replace KB6 := Lib.hid (o9.blk KB6.out n6a.out)
                replace BB := Lib.hid (BB.out.trans (o9.bel _ (Nat.le_of_lt l6) BB.out.size))
                replace KT := Lib.hid kt
                clear kt o9
                have co : w9.cell? ⟨go, 1, none⟩ = some (.bool false) := by rw [KO.out.cell]; simp [onV, hon1]
                have fo : w9.frozen? ⟨go, 1, none⟩ = false := KO.out.frozen _
                replace hon1 := Lib.hid hon1
                clear hon
                have df : decide (most ≤ T.many) = true := decide_eq_true hfull
                go_wp2_with fail
                exact ⟨⟨i + 1, T, by omega, by omega, by simp, rfl, hT.out, hmo.out, K5.out, KT.out, KO.out, KB6.out, BB.out⟩, by simp [intOf]; omega⟩
              ·
                have hon1 : T.s0.on = false := hon
                rw [hkv.out]
                ((with_reducible refine (st_ok g 0 T 1 ro key _ KT.out hT.out KL.out (by decide) (by decide) hr4.out (.inr (by rw [hmo.out]; omega))).mono ?_))
                rintro e w9 ⟨rfl, kt, o9⟩
                rw [← hkv.out]
                replace K5 := Lib.hid (o9.blk K5.out (Nat.ne_of_lt l6))
                replace KO := Lib.hid (o9.blk KO.out (Nat.ne_of_gt lgo))
                replace KB6 := Lib.hid (o9.blk KB6.out n6a.out)
                replace BB := Lib.hid (BB.out.trans (o9.bel _ (Nat.le_of_lt l6) BB.out.size))
                replace KT := Lib.hid kt
                clear kt o9
                have co : w9.cell? ⟨go, 1, none⟩ = some (.bool false) := by rw [KO.out.cell]; simp [onV, hon1]
                have fo : w9.frozen? ⟨go, 1, none⟩ = false := KO.out.frozen _
                replace hon1 := Lib.hid hon1
                clear hon
                have df : decide (most ≤ T.many) = false := decide_eq_false hfull
                obtain ⟨T3, hT3⟩ : ∃ z, z = (T.put 0 ⟨true, 0, max T.beat 0, ro, key, some ((7 : Int).toNat, 1)⟩) := ⟨_, rfl⟩
                have hm3 : Hid (T3.many = T.many + 1) := Lib.hid (by rw [hT3, Tab.many_put0, hon1.out]; simp)
                have ho3 : Hid (T3.ok) := Lib.hid (by rw [hT3]; exact hT.out.put 0 ⟨KL.out, KB.out, by decide, by decide⟩)
                have hr3 : Hid (T3.roleOf 1 = ro) := Lib.hid (by rw [hT3]; rfl)
                have hb3 : Hid (T3.most = most) := Lib.hid (by rw [hT3, (Tab.put_beat T 0 _).2]; exact hmo.out)
                have hv3 : Hid ((onV T).setIfInBounds 1 (.bool true) = onV T3) := Lib.hid (by simp [onV, Tab.put, hT3])
                have CTK := Lib.hid (fun (A : Option Addr) (c : Nat) (W : World) (kt : TabB W g (T.put 0 (sesB true (max T.beat 0) ro key))) (h13 : 13 ≤ c) (hcx : c ≤ 9223372036854775807) (hr : Row W A (beatB 7 ++ tagOf key 1 (beatB 7))) (hR : Roots W) => take_first g 0 T 1 ro (max T.beat 0) 7 key A c W kt hT.out KL.out KB.out (by decide) (by decide) (by decide) h13 hcx hr hR)
                rw [← hT3] at CTK
                go_wp2_with ((with_reducible show wpList _ _ _ (⟨_, .load 22 _, _, _, _, none⟩ :: _) _ _); refine Marker.mk ?_)
                refine Marker.in ?_
                clear co fo
                have KO2 : Hid (Blk (w9.setCell ⟨go, 1, none⟩ (.bool true)) go (onV T3) 63) := Lib.hid (by rw [← hv3.out]; exact KO.out.set 1 (.bool true))
                replace KO := KO2
                clear KO2 hT3 hv3
                replace K5 := Lib.hid (K5.out.other go 1 (.bool true) (by omega))
                replace KB6 := Lib.hid (KB6.out.other go 1 (.bool true) n6b.out)
                replace KT := Lib.hid (Blk.other KT.out go 1 (.bool true) (by omega))
                replace BB := Lib.hid (BB.out.setCell (p := ⟨go, 1, none⟩) (show w.heap.size ≤ go by omega) (.bool true))
                generalize w9.setCell ⟨go, 1, none⟩ (.bool true) = w10 at *
                go_wp2_with ((with_reducible show wpList _ _ _ (⟨_, .load 22 _, _, _, _, none⟩ :: _) _ _); (with_reducible refine wpBlk_load (g := w.heap.size) agg_b32 ?_ ?_ K5 ?_ ?_); (· exact wanted0 rfl); (· exact ⟨rfl, rfl⟩); (· exact KS.out))
                rw [hkv.out]
                ((with_reducible refine (rclose_any key (beatB 7) (some ⟨g6, 0, none⟩) 5 c6 1 _ KL.out KB.out (beat_len 7 (by omega)) (B7R.out _ KB6.out) (by decide)).mono ?_))
                rintro e w11 ⟨⟨A7, c7, rfl, own7⟩, b7⟩
                rw [← hkv.out]
                replace K5 := Lib.hid (K5.out.below b7)
                replace KO := Lib.hid (KO.out.below b7)
                replace KB6 := Lib.hid (KB6.out.below b7)
                replace KT := Lib.hid (KT.out.below b7)
                replace BB := Lib.hid (bt BB.out b7)
                have h13 : Hid (13 ≤ c7 ∧ c7 ≤ 9223372036854775807) := Lib.hid (by have := own_cap8 own7; rw [List.length_append, beat_len 7 (by omega), tagOf_len] at this; exact this)
                have HR7 := Lib.hid own7.row
                clear own7 b7
                go_wp2_with fail
                have kt1 : TabB w11 g (T.put 0 (sesB true (max T.beat 0) ro key)) := KT.out
                ((with_reducible refine (CTK.out A7 c7 _ kt1 h13.out.1 h13.out.2 HR7.out (RT.out.below BB.out)).mono ?_))
                rintro e w12 ⟨rfl, kt, o12⟩
                replace K5 := Lib.hid (o12.blk K5.out (Nat.ne_of_lt l6))
                replace KO := Lib.hid (o12.blk KO.out (Nat.ne_of_gt lgo))
                replace KB6 := Lib.hid (o12.blk KB6.out n6a.out)
                replace BB := Lib.hid (BB.out.trans (o12.bel _ (Nat.le_of_lt l6) BB.out.size))
                replace KT := Lib.hid kt
                clear kt o12 HR7 CTK h13 kt1
                go_wp2_with (((with_reducible show wpList _ _ _ (⟨_, .alloc 66, _, _, _, none⟩ :: _) _ _); (with_reducible refine wpRow_alloc zeroT_msgy ?_ ?_ ?_); (· exact wanted0 rfl); (· rfl); refine Marker.mk ?_))
                refine Marker.in ?_
                have lg9 := Blk.lt KT.out
                have lo9 := KO.out.lt
                have l69 := KB6.out.lt
                have K9 := Lib.hid (Blk.new w12 (msgV (z12 0)) 66)
                have bel := below_alloc1 w12 (.cells (msgV (z12 0)) 66)
                replace K5 := Lib.hid (K5.out.below bel)
                replace KO := Lib.hid (KO.out.below bel)
                replace KB6 := Lib.hid (KB6.out.below bel)
                replace KT := Lib.hid (KT.out.below bel)
                replace BB := Lib.hid (bt BB.out bel)
                clear bel
                generalize w12.alloc (.cells (msgV (z12 0)) 66) = w13 at *
                generalize w12.heap.size = g13 at *
                go_wp2_with (((with_reducible show wpList _ _ _ (⟨_, .store 66 _ _, _, _, _, none⟩ :: _) _ _); (with_reducible refine wpBlk_store (g := g13) (cs := msgV (beatL 7)) agg_msg ?_ ?_ K9 ?_ ?_ ?_ ?_); (· exact wanted0 rfl); (· exact ⟨rfl, rfl, rfl⟩); (· exact msgV_size _); (· exact msgV_size _); (· exact msgV_one _); refine Marker.mk ?_))
                refine Marker.in ?_
                replace K5 := Lib.hid (Blk.setRow_other K5.out g13 (msgV (beatL 7)) (by omega))
                replace KO := Lib.hid (Blk.setRow_other KO.out g13 (msgV (beatL 7)) (by omega))
                replace KB6 := Lib.hid (Blk.setRow_other KB6.out g13 (msgV (beatL 7)) (by omega))
                replace KT := Lib.hid (Blk.setRow_other KT.out g13 (msgV (beatL 7)) (by omega))
                replace BB := Lib.hid (below_setRow (g := g13) BB.out (by omega) (msgV (beatL 7)))
                clear K9 lg9 lo9 l69
                generalize w13.setRow g13 (msgV (beatL 7)) = w14 at *
                have kt1 : TabB w14 g T3 := KT.out
                go_wp2_with fail
                ((with_reducible refine (tabf_role g T3 1 _ kt1 ho3.out).mono ?_))
                rintro e w15 ⟨rfl, rfl⟩
                rw [hr3.out, ← hro.out]
                go_wp2_with fail
                ((with_reducible refine (tabf_many g T3 _ kt1 ho3.out).mono ?_))
                rintro e w15 ⟨rfl, rfl⟩
                rw [hm3.out]
                go_wp2_with fail
                exact ⟨⟨i + 1, T3, by omega, by omega, by simp, (by rw [hm3.out]), ho3.out, hb3.out, K5.out, KT.out, KO.out, KB6.out, BB.out⟩, by simp [intOf]; omega⟩
            ·
              have hon1 : T.s0.on = true := hon
              rw [hkv.out]
              ((with_reducible refine (st_ok g 0 T 1 ro key _ KT.out hT.out KL.out (by decide) (by decide) hr4.out (.inl hon)).mono ?_))
              rintro e w9 ⟨rfl, kt, o9⟩
              rw [← hkv.out]
              replace K5 := Lib.hid (o9.blk K5.out (Nat.ne_of_lt l6))
              replace KO := Lib.hid (o9.blk KO.out (Nat.ne_of_gt lgo))
              replace KB6 := Lib.hid (o9.blk KB6.out n6a.out)
              replace BB := Lib.hid (BB.out.trans (o9.bel _ (Nat.le_of_lt l6) BB.out.size))
              replace KT := Lib.hid kt
              clear kt o9
              have co : w9.cell? ⟨go, 1, none⟩ = some (.bool true) := by rw [KO.out.cell]; simp [onV, hon1]
              have fo : w9.frozen? ⟨go, 1, none⟩ = false := KO.out.frozen _
              replace hon1 := Lib.hid hon1
              clear hon
              obtain ⟨T3, hT3⟩ : ∃ z, z = (T.put 0 ⟨true, 0, max T.beat 0, ro, key, some ((7 : Int).toNat, 1)⟩) := ⟨_, rfl⟩
              have hm3 : Hid (T3.many = T.many) := Lib.hid (by rw [hT3, Tab.many_put0, hon1.out]; simp)
              have ho3 : Hid (T3.ok) := Lib.hid (by rw [hT3]; exact hT.out.put 0 ⟨KL.out, KB.out, by decide, by decide⟩)
              have hr3 : Hid (T3.roleOf 1 = ro) := Lib.hid (by rw [hT3]; rfl)
              have hb3 : Hid (T3.most = most) := Lib.hid (by rw [hT3, (Tab.put_beat T 0 _).2]; exact hmo.out)
              have hv3 : Hid ((onV T).setIfInBounds 1 (.bool true) = onV T3) := Lib.hid (by simp [onV, Tab.put, hT3])
              have CTK := Lib.hid (fun (A : Option Addr) (c : Nat) (W : World) (kt : TabB W g (T.put 0 (sesB true (max T.beat 0) ro key))) (h13 : 13 ≤ c) (hcx : c ≤ 9223372036854775807) (hr : Row W A (beatB 7 ++ tagOf key 1 (beatB 7))) (hR : Roots W) => take_first g 0 T 1 ro (max T.beat 0) 7 key A c W kt hT.out KL.out KB.out (by decide) (by decide) (by decide) h13 hcx hr hR)
              rw [← hT3] at CTK
              go_wp2_with ((with_reducible show wpList _ _ _ (⟨_, .load 22 _, _, _, _, none⟩ :: _) _ _); refine Marker.mk ?_)
              refine Marker.in ?_
              clear co fo
              have KO2 : Hid (Blk (w9.setCell ⟨go, 1, none⟩ (.bool true)) go (onV T3) 63) := Lib.hid (by rw [← hv3.out]; exact KO.out.set 1 (.bool true))
              replace KO := KO2
              clear KO2 hT3 hv3
              replace K5 := Lib.hid (K5.out.other go 1 (.bool true) (by omega))
              replace KB6 := Lib.hid (KB6.out.other go 1 (.bool true) n6b.out)
              replace KT := Lib.hid (Blk.other KT.out go 1 (.bool true) (by omega))
              replace BB := Lib.hid (BB.out.setCell (p := ⟨go, 1, none⟩) (show w.heap.size ≤ go by omega) (.bool true))
              generalize w9.setCell ⟨go, 1, none⟩ (.bool true) = w10 at *
              go_wp2_with ((with_reducible show wpList _ _ _ (⟨_, .load 22 _, _, _, _, none⟩ :: _) _ _); (with_reducible refine wpBlk_load (g := w.heap.size) agg_b32 ?_ ?_ K5 ?_ ?_); (· exact wanted0 rfl); (· exact ⟨rfl, rfl⟩); (· exact KS.out))
              rw [hkv.out]
              ((with_reducible refine (rclose_any key (beatB 7) (some ⟨g6, 0, none⟩) 5 c6 1 _ KL.out KB.out (beat_len 7 (by omega)) (B7R.out _ KB6.out) (by decide)).mono ?_))
              rintro e w11 ⟨⟨A7, c7, rfl, own7⟩, b7⟩
              rw [← hkv.out]
              replace K5 := Lib.hid (K5.out.below b7)
              replace KO := Lib.hid (KO.out.below b7)
              replace KB6 := Lib.hid (KB6.out.below b7)
              replace KT := Lib.hid (KT.out.below b7)
              replace BB := Lib.hid (bt BB.out b7)
              have h13 : Hid (13 ≤ c7 ∧ c7 ≤ 9223372036854775807) := Lib.hid (by have := own_cap8 own7; rw [List.length_append, beat_len 7 (by omega), tagOf_len] at this; exact this)
              have HR7 := Lib.hid own7.row
              clear own7 b7
              go_wp2_with fail
              have kt1 : TabB w11 g (T.put 0 (sesB true (max T.beat 0) ro key)) := KT.out
              ((with_reducible refine (CTK.out A7 c7 _ kt1 h13.out.1 h13.out.2 HR7.out (RT.out.below BB.out)).mono ?_))
              rintro e w12 ⟨rfl, kt, o12⟩
              replace K5 := Lib.hid (o12.blk K5.out (Nat.ne_of_lt l6))
              replace KO := Lib.hid (o12.blk KO.out (Nat.ne_of_gt lgo))
              replace KB6 := Lib.hid (o12.blk KB6.out n6a.out)
              replace BB := Lib.hid (BB.out.trans (o12.bel _ (Nat.le_of_lt l6) BB.out.size))
              replace KT := Lib.hid kt
              clear kt o12 HR7 CTK h13 kt1
              go_wp2_with (((with_reducible show wpList _ _ _ (⟨_, .alloc 66, _, _, _, none⟩ :: _) _ _); (with_reducible refine wpRow_alloc zeroT_msgy ?_ ?_ ?_); (· exact wanted0 rfl); (· rfl); refine Marker.mk ?_))
              refine Marker.in ?_
              have lg9 := Blk.lt KT.out
              have lo9 := KO.out.lt
              have l69 := KB6.out.lt
              have K9 := Lib.hid (Blk.new w12 (msgV (z12 0)) 66)
              have bel := below_alloc1 w12 (.cells (msgV (z12 0)) 66)
              replace K5 := Lib.hid (K5.out.below bel)
              replace KO := Lib.hid (KO.out.below bel)
              replace KB6 := Lib.hid (KB6.out.below bel)
              replace KT := Lib.hid (KT.out.below bel)
              replace BB := Lib.hid (bt BB.out bel)
              clear bel
              generalize w12.alloc (.cells (msgV (z12 0)) 66) = w13 at *
              generalize w12.heap.size = g13 at *
              go_wp2_with (((with_reducible show wpList _ _ _ (⟨_, .store 66 _ _, _, _, _, none⟩ :: _) _ _); (with_reducible refine wpBlk_store (g := g13) (cs := msgV (beatL 7)) agg_msg ?_ ?_ K9 ?_ ?_ ?_ ?_); (· exact wanted0 rfl); (· exact ⟨rfl, rfl, rfl⟩); (· exact msgV_size _); (· exact msgV_size _); (· exact msgV_one _); refine Marker.mk ?_))
              refine Marker.in ?_
              replace K5 := Lib.hid (Blk.setRow_other K5.out g13 (msgV (beatL 7)) (by omega))
              replace KO := Lib.hid (Blk.setRow_other KO.out g13 (msgV (beatL 7)) (by omega))
              replace KB6 := Lib.hid (Blk.setRow_other KB6.out g13 (msgV (beatL 7)) (by omega))
              replace KT := Lib.hid (Blk.setRow_other KT.out g13 (msgV (beatL 7)) (by omega))
              replace BB := Lib.hid (below_setRow (g := g13) BB.out (by omega) (msgV (beatL 7)))
              clear K9 lg9 lo9 l69
              generalize w13.setRow g13 (msgV (beatL 7)) = w14 at *
              have kt1 : TabB w14 g T3 := KT.out
              go_wp2_with fail
              ((with_reducible refine (tabf_role g T3 1 _ kt1 ho3.out).mono ?_))
              rintro e w15 ⟨rfl, rfl⟩
              rw [hr3.out, ← hro.out]
              go_wp2_with fail
              ((with_reducible refine (tabf_many g T3 _ kt1 ho3.out).mono ?_))
              rintro e w15 ⟨rfl, rfl⟩
              rw [hm3.out]
              go_wp2_with fail
              exact ⟨⟨i + 1, T3, by omega, by omega, by simp, (by rw [hm3.out]), ho3.out, hb3.out, K5.out, KT.out, KO.out, KB6.out, BB.out⟩, by simp [intOf]; omega⟩
          ·
            cases hon : (T.ses 1).on
            ·
              by_cases hfull : most ≤ T.many
              ·
                have hon1 : T.s1.on = false := hon
                rw [hkv.out]
                ((with_reducible refine (st_full g 1 T 2 ro key _ KT.out hT.out KL.out (by decide) (by decide) hr4.out hon (by rw [hmo.out]; exact hfull)).mono ?_))
                rintro e w9 ⟨rfl, kt, o9⟩
                rw [← hkv.out]
                replace K5 := Lib.hid (o9.blk K5.out (Nat.ne_of_lt l6))
                replace KO := Lib.hid (o9.blk KO.out (Nat.ne_of_gt lgo))
                replace KB6 := Lib.hid (o9.blk KB6.out n6a.out)
                replace BB := Lib.hid (BB.out.trans (o9.bel _ (Nat.le_of_lt l6) BB.out.size))
                replace KT := Lib.hid kt
                clear kt o9
                have co : w9.cell? ⟨go, 2, none⟩ = some (.bool false) := by rw [KO.out.cell]; simp [onV, hon1]
                have fo : w9.frozen? ⟨go, 2, none⟩ = false := KO.out.frozen _
                replace hon1 := Lib.hid hon1
                clear hon
                have df : decide (most ≤ T.many) = true := decide_eq_true hfull
                go_wp2_with fail
                exact ⟨⟨i + 1, T, by omega, by omega, by simp, rfl, hT.out, hmo.out, K5.out, KT.out, KO.out, KB6.out, BB.out⟩, by simp [intOf]; omega⟩
              ·
                have hon1 : T.s1.on = false := hon
                rw [hkv.out]
                ((with_reducible refine (st_ok g 1 T 2 ro key _ KT.out hT.out KL.out (by decide) (by decide) hr4.out (.inr (by rw [hmo.out]; omega))).mono ?_))
                rintro e w9 ⟨rfl, kt, o9⟩
                rw [← hkv.out]
                replace K5 := Lib.hid (o9.blk K5.out (Nat.ne_of_lt l6))
                replace KO := Lib.hid (o9.blk KO.out (Nat.ne_of_gt lgo))
                replace KB6 := Lib.hid (o9.blk KB6.out n6a.out)
                replace BB := Lib.hid (BB.out.trans (o9.bel _ (Nat.le_of_lt l6) BB.out.size))
                replace KT := Lib.hid kt
                clear kt o9
                have co : w9.cell? ⟨go, 2, none⟩ = some (.bool false) := by rw [KO.out.cell]; simp [onV, hon1]
                have fo : w9.frozen? ⟨go, 2, none⟩ = false := KO.out.frozen _
                replace hon1 := Lib.hid hon1
                clear hon
                have df : decide (most ≤ T.many) = false := decide_eq_false hfull
                obtain ⟨T3, hT3⟩ : ∃ z, z = (T.put 1 ⟨true, 0, max T.beat 0, ro, key, some ((7 : Int).toNat, 1)⟩) := ⟨_, rfl⟩
                have hm3 : Hid (T3.many = T.many + 1) := Lib.hid (by rw [hT3, Tab.many_put1, hon1.out]; simp)
                have ho3 : Hid (T3.ok) := Lib.hid (by rw [hT3]; exact hT.out.put 1 ⟨KL.out, KB.out, by decide, by decide⟩)
                have hr3 : Hid (T3.roleOf 2 = ro) := Lib.hid (by rw [hT3]; rfl)
                have hb3 : Hid (T3.most = most) := Lib.hid (by rw [hT3, (Tab.put_beat T 1 _).2]; exact hmo.out)
                have hv3 : Hid ((onV T).setIfInBounds 2 (.bool true) = onV T3) := Lib.hid (by simp [onV, Tab.put, hT3])
                have CTK := Lib.hid (fun (A : Option Addr) (c : Nat) (W : World) (kt : TabB W g (T.put 1 (sesB true (max T.beat 0) ro key))) (h13 : 13 ≤ c) (hcx : c ≤ 9223372036854775807) (hr : Row W A (beatB 7 ++ tagOf key 2 (beatB 7))) (hR : Roots W) => take_first g 1 T 2 ro (max T.beat 0) 7 key A c W kt hT.out KL.out KB.out (by decide) (by decide) (by decide) h13 hcx hr hR)
                rw [← hT3] at CTK
                go_wp2_with ((with_reducible show wpList _ _ _ (⟨_, .load 22 _, _, _, _, none⟩ :: _) _ _); refine Marker.mk ?_)
                refine Marker.in ?_
                clear co fo
                have KO2 : Hid (Blk (w9.setCell ⟨go, 2, none⟩ (.bool true)) go (onV T3) 63) := Lib.hid (by rw [← hv3.out]; exact KO.out.set 2 (.bool true))
                replace KO := KO2
                clear KO2 hT3 hv3
                replace K5 := Lib.hid (K5.out.other go 2 (.bool true) (by omega))
                replace KB6 := Lib.hid (KB6.out.other go 2 (.bool true) n6b.out)
                replace KT := Lib.hid (Blk.other KT.out go 2 (.bool true) (by omega))
                replace BB := Lib.hid (BB.out.setCell (p := ⟨go, 2, none⟩) (show w.heap.size ≤ go by omega) (.bool true))
                generalize w9.setCell ⟨go, 2, none⟩ (.bool true) = w10 at *
                go_wp2_with ((with_reducible show wpList _ _ _ (⟨_, .load 22 _, _, _, _, none⟩ :: _) _ _); (with_reducible refine wpBlk_load (g := w.heap.size) agg_b32 ?_ ?_ K5 ?_ ?_); (· exact wanted0 rfl); (· exact ⟨rfl, rfl⟩); (· exact KS.out))
                rw [hkv.out]
                ((with_reducible refine (rclose_any key (beatB 7) (some ⟨g6, 0, none⟩) 5 c6 2 _ KL.out KB.out (beat_len 7 (by omega)) (B7R.out _ KB6.out) (by decide)).mono ?_))
                rintro e w11 ⟨⟨A7, c7, rfl, own7⟩, b7⟩
                rw [← hkv.out]
                replace K5 := Lib.hid (K5.out.below b7)
                replace KO := Lib.hid (KO.out.below b7)
                replace KB6 := Lib.hid (KB6.out.below b7)
                replace KT := Lib.hid (KT.out.below b7)
                replace BB := Lib.hid (bt BB.out b7)
                have h13 : Hid (13 ≤ c7 ∧ c7 ≤ 9223372036854775807) := Lib.hid (by have := own_cap8 own7; rw [List.length_append, beat_len 7 (by omega), tagOf_len] at this; exact this)
                have HR7 := Lib.hid own7.row
                clear own7 b7
                go_wp2_with fail
                have kt1 : TabB w11 g (T.put 1 (sesB true (max T.beat 0) ro key)) := KT.out
                ((with_reducible refine (CTK.out A7 c7 _ kt1 h13.out.1 h13.out.2 HR7.out (RT.out.below BB.out)).mono ?_))
                rintro e w12 ⟨rfl, kt, o12⟩
                replace K5 := Lib.hid (o12.blk K5.out (Nat.ne_of_lt l6))
                replace KO := Lib.hid (o12.blk KO.out (Nat.ne_of_gt lgo))
                replace KB6 := Lib.hid (o12.blk KB6.out n6a.out)
                replace BB := Lib.hid (BB.out.trans (o12.bel _ (Nat.le_of_lt l6) BB.out.size))
                replace KT := Lib.hid kt
                clear kt o12 HR7 CTK h13 kt1
                go_wp2_with (((with_reducible show wpList _ _ _ (⟨_, .alloc 66, _, _, _, none⟩ :: _) _ _); (with_reducible refine wpRow_alloc zeroT_msgy ?_ ?_ ?_); (· exact wanted0 rfl); (· rfl); refine Marker.mk ?_))
                refine Marker.in ?_
                have lg9 := Blk.lt KT.out
                have lo9 := KO.out.lt
                have l69 := KB6.out.lt
                have K9 := Lib.hid (Blk.new w12 (msgV (z12 0)) 66)
                have bel := below_alloc1 w12 (.cells (msgV (z12 0)) 66)
                replace K5 := Lib.hid (K5.out.below bel)
                replace KO := Lib.hid (KO.out.below bel)
                replace KB6 := Lib.hid (KB6.out.below bel)
                replace KT := Lib.hid (KT.out.below bel)
                replace BB := Lib.hid (bt BB.out bel)
                clear bel
                generalize w12.alloc (.cells (msgV (z12 0)) 66) = w13 at *
                generalize w12.heap.size = g13 at *
                go_wp2_with (((with_reducible show wpList _ _ _ (⟨_, .store 66 _ _, _, _, _, none⟩ :: _) _ _); (with_reducible refine wpBlk_store (g := g13) (cs := msgV (beatL 7)) agg_msg ?_ ?_ K9 ?_ ?_ ?_ ?_); (· exact wanted0 rfl); (· exact ⟨rfl, rfl, rfl⟩); (· exact msgV_size _); (· exact msgV_size _); (· exact msgV_one _); refine Marker.mk ?_))
                refine Marker.in ?_
                replace K5 := Lib.hid (Blk.setRow_other K5.out g13 (msgV (beatL 7)) (by omega))
                replace KO := Lib.hid (Blk.setRow_other KO.out g13 (msgV (beatL 7)) (by omega))
                replace KB6 := Lib.hid (Blk.setRow_other KB6.out g13 (msgV (beatL 7)) (by omega))
                replace KT := Lib.hid (Blk.setRow_other KT.out g13 (msgV (beatL 7)) (by omega))
                replace BB := Lib.hid (below_setRow (g := g13) BB.out (by omega) (msgV (beatL 7)))
                clear K9 lg9 lo9 l69
                generalize w13.setRow g13 (msgV (beatL 7)) = w14 at *
                have kt1 : TabB w14 g T3 := KT.out
                go_wp2_with fail
                ((with_reducible refine (tabf_role g T3 2 _ kt1 ho3.out).mono ?_))
                rintro e w15 ⟨rfl, rfl⟩
                rw [hr3.out, ← hro.out]
                go_wp2_with fail
                ((with_reducible refine (tabf_many g T3 _ kt1 ho3.out).mono ?_))
                rintro e w15 ⟨rfl, rfl⟩
                rw [hm3.out]
                go_wp2_with fail
                exact ⟨⟨i + 1, T3, by omega, by omega, by simp, (by rw [hm3.out]), ho3.out, hb3.out, K5.out, KT.out, KO.out, KB6.out, BB.out⟩, by simp [intOf]; omega⟩
            ·
              have hon1 : T.s1.on = true := hon
              rw [hkv.out]
              ((with_reducible refine (st_ok g 1 T 2 ro key _ KT.out hT.out KL.out (by decide) (by decide) hr4.out (.inl hon)).mono ?_))
              rintro e w9 ⟨rfl, kt, o9⟩
              rw [← hkv.out]
              replace K5 := Lib.hid (o9.blk K5.out (Nat.ne_of_lt l6))
              replace KO := Lib.hid (o9.blk KO.out (Nat.ne_of_gt lgo))
              replace KB6 := Lib.hid (o9.blk KB6.out n6a.out)
              replace BB := Lib.hid (BB.out.trans (o9.bel _ (Nat.le_of_lt l6) BB.out.size))
              replace KT := Lib.hid kt
              clear kt o9
              have co : w9.cell? ⟨go, 2, none⟩ = some (.bool true) := by rw [KO.out.cell]; simp [onV, hon1]
              have fo : w9.frozen? ⟨go, 2, none⟩ = false := KO.out.frozen _
              replace hon1 := Lib.hid hon1
              clear hon
              obtain ⟨T3, hT3⟩ : ∃ z, z = (T.put 1 ⟨true, 0, max T.beat 0, ro, key, some ((7 : Int).toNat, 1)⟩) := ⟨_, rfl⟩
              have hm3 : Hid (T3.many = T.many) := Lib.hid (by rw [hT3, Tab.many_put1, hon1.out]; simp)
              have ho3 : Hid (T3.ok) := Lib.hid (by rw [hT3]; exact hT.out.put 1 ⟨KL.out, KB.out, by decide, by decide⟩)
              have hr3 : Hid (T3.roleOf 2 = ro) := Lib.hid (by rw [hT3]; rfl)
              have hb3 : Hid (T3.most = most) := Lib.hid (by rw [hT3, (Tab.put_beat T 1 _).2]; exact hmo.out)
              have hv3 : Hid ((onV T).setIfInBounds 2 (.bool true) = onV T3) := Lib.hid (by simp [onV, Tab.put, hT3])
              have CTK := Lib.hid (fun (A : Option Addr) (c : Nat) (W : World) (kt : TabB W g (T.put 1 (sesB true (max T.beat 0) ro key))) (h13 : 13 ≤ c) (hcx : c ≤ 9223372036854775807) (hr : Row W A (beatB 7 ++ tagOf key 2 (beatB 7))) (hR : Roots W) => take_first g 1 T 2 ro (max T.beat 0) 7 key A c W kt hT.out KL.out KB.out (by decide) (by decide) (by decide) h13 hcx hr hR)
              rw [← hT3] at CTK
              go_wp2_with ((with_reducible show wpList _ _ _ (⟨_, .load 22 _, _, _, _, none⟩ :: _) _ _); refine Marker.mk ?_)
              refine Marker.in ?_
              clear co fo
              have KO2 : Hid (Blk (w9.setCell ⟨go, 2, none⟩ (.bool true)) go (onV T3) 63) := Lib.hid (by rw [← hv3.out]; exact KO.out.set 2 (.bool true))
              replace KO := KO2
              clear KO2 hT3 hv3
              replace K5 := Lib.hid (K5.out.other go 2 (.bool true) (by omega))
              replace KB6 := Lib.hid (KB6.out.other go 2 (.bool true) n6b.out)
              replace KT := Lib.hid (Blk.other KT.out go 2 (.bool true) (by omega))
              replace BB := Lib.hid (BB.out.setCell (p := ⟨go, 2, none⟩) (show w.heap.size ≤ go by omega) (.bool true))
              generalize w9.setCell ⟨go, 2, none⟩ (.bool true) = w10 at *
              go_wp2_with ((with_reducible show wpList _ _ _ (⟨_, .load 22 _, _, _, _, none⟩ :: _) _ _); (with_reducible refine wpBlk_load (g := w.heap.size) agg_b32 ?_ ?_ K5 ?_ ?_); (· exact wanted0 rfl); (· exact ⟨rfl, rfl⟩); (· exact KS.out))
              rw [hkv.out]
              ((with_reducible refine (rclose_any key (beatB 7) (some ⟨g6, 0, none⟩) 5 c6 2 _ KL.out KB.out (beat_len 7 (by omega)) (B7R.out _ KB6.out) (by decide)).mono ?_))
              rintro e w11 ⟨⟨A7, c7, rfl, own7⟩, b7⟩
              rw [← hkv.out]
              replace K5 := Lib.hid (K5.out.below b7)
              replace KO := Lib.hid (KO.out.below b7)
              replace KB6 := Lib.hid (KB6.out.below b7)
              replace KT := Lib.hid (KT.out.below b7)
              replace BB := Lib.hid (bt BB.out b7)
              have h13 : Hid (13 ≤ c7 ∧ c7 ≤ 9223372036854775807) := Lib.hid (by have := own_cap8 own7; rw [List.length_append, beat_len 7 (by omega), tagOf_len] at this; exact this)
              have HR7 := Lib.hid own7.row
              clear own7 b7
              go_wp2_with fail
              have kt1 : TabB w11 g (T.put 1 (sesB true (max T.beat 0) ro key)) := KT.out
              ((with_reducible refine (CTK.out A7 c7 _ kt1 h13.out.1 h13.out.2 HR7.out (RT.out.below BB.out)).mono ?_))
              rintro e w12 ⟨rfl, kt, o12⟩
              replace K5 := Lib.hid (o12.blk K5.out (Nat.ne_of_lt l6))
              replace KO := Lib.hid (o12.blk KO.out (Nat.ne_of_gt lgo))
              replace KB6 := Lib.hid (o12.blk KB6.out n6a.out)
              replace BB := Lib.hid (BB.out.trans (o12.bel _ (Nat.le_of_lt l6) BB.out.size))
              replace KT := Lib.hid kt
              clear kt o12 HR7 CTK h13 kt1
              go_wp2_with (((with_reducible show wpList _ _ _ (⟨_, .alloc 66, _, _, _, none⟩ :: _) _ _); (with_reducible refine wpRow_alloc zeroT_msgy ?_ ?_ ?_); (· exact wanted0 rfl); (· rfl); refine Marker.mk ?_))
              refine Marker.in ?_
              have lg9 := Blk.lt KT.out
              have lo9 := KO.out.lt
              have l69 := KB6.out.lt
              have K9 := Lib.hid (Blk.new w12 (msgV (z12 0)) 66)
              have bel := below_alloc1 w12 (.cells (msgV (z12 0)) 66)
              replace K5 := Lib.hid (K5.out.below bel)
              replace KO := Lib.hid (KO.out.below bel)
              replace KB6 := Lib.hid (KB6.out.below bel)
              replace KT := Lib.hid (KT.out.below bel)
              replace BB := Lib.hid (bt BB.out bel)
              clear bel
              generalize w12.alloc (.cells (msgV (z12 0)) 66) = w13 at *
              generalize w12.heap.size = g13 at *
              go_wp2_with (((with_reducible show wpList _ _ _ (⟨_, .store 66 _ _, _, _, _, none⟩ :: _) _ _); (with_reducible refine wpBlk_store (g := g13) (cs := msgV (beatL 7)) agg_msg ?_ ?_ K9 ?_ ?_ ?_ ?_); (· exact wanted0 rfl); (· exact ⟨rfl, rfl, rfl⟩); (· exact msgV_size _); (· exact msgV_size _); (· exact msgV_one _); refine Marker.mk ?_))
              refine Marker.in ?_
              replace K5 := Lib.hid (Blk.setRow_other K5.out g13 (msgV (beatL 7)) (by omega))
              replace KO := Lib.hid (Blk.setRow_other KO.out g13 (msgV (beatL 7)) (by omega))
              replace KB6 := Lib.hid (Blk.setRow_other KB6.out g13 (msgV (beatL 7)) (by omega))
              replace KT := Lib.hid (Blk.setRow_other KT.out g13 (msgV (beatL 7)) (by omega))
              replace BB := Lib.hid (below_setRow (g := g13) BB.out (by omega) (msgV (beatL 7)))
              clear K9 lg9 lo9 l69
              generalize w13.setRow g13 (msgV (beatL 7)) = w14 at *
              have kt1 : TabB w14 g T3 := KT.out
              go_wp2_with fail
              ((with_reducible refine (tabf_role g T3 2 _ kt1 ho3.out).mono ?_))
              rintro e w15 ⟨rfl, rfl⟩
              rw [hr3.out, ← hro.out]
              go_wp2_with fail
              ((with_reducible refine (tabf_many g T3 _ kt1 ho3.out).mono ?_))
              rintro e w15 ⟨rfl, rfl⟩
              rw [hm3.out]
              go_wp2_with fail
              exact ⟨⟨i + 1, T3, by omega, by omega, by simp, (by rw [hm3.out]), ho3.out, hb3.out, K5.out, KT.out, KO.out, KB6.out, BB.out⟩, by simp [intOf]; omega⟩
          ·
            cases hon : (T.ses 2).on
            ·
              by_cases hfull : most ≤ T.many
              ·
                have hon1 : T.s2.on = false := hon
                rw [hkv.out]
                ((with_reducible refine (st_full g 2 T 3 ro key _ KT.out hT.out KL.out (by decide) (by decide) hr4.out hon (by rw [hmo.out]; exact hfull)).mono ?_))
                rintro e w9 ⟨rfl, kt, o9⟩
                rw [← hkv.out]
                replace K5 := Lib.hid (o9.blk K5.out (Nat.ne_of_lt l6))
                replace KO := Lib.hid (o9.blk KO.out (Nat.ne_of_gt lgo))
                replace KB6 := Lib.hid (o9.blk KB6.out n6a.out)
                replace BB := Lib.hid (BB.out.trans (o9.bel _ (Nat.le_of_lt l6) BB.out.size))
                replace KT := Lib.hid kt
                clear kt o9
                have co : w9.cell? ⟨go, 3, none⟩ = some (.bool false) := by rw [KO.out.cell]; simp [onV, hon1]
                have fo : w9.frozen? ⟨go, 3, none⟩ = false := KO.out.frozen _
                replace hon1 := Lib.hid hon1
                clear hon
                have df : decide (most ≤ T.many) = true := decide_eq_true hfull
                go_wp2_with fail
                exact ⟨⟨i + 1, T, by omega, by omega, by simp, rfl, hT.out, hmo.out, K5.out, KT.out, KO.out, KB6.out, BB.out⟩, by simp [intOf]; omega⟩
              ·
                have hon1 : T.s2.on = false := hon
                rw [hkv.out]
                ((with_reducible refine (st_ok g 2 T 3 ro key _ KT.out hT.out KL.out (by decide) (by decide) hr4.out (.inr (by rw [hmo.out]; omega))).mono ?_))
                rintro e w9 ⟨rfl, kt, o9⟩
                rw [← hkv.out]
                replace K5 := Lib.hid (o9.blk K5.out (Nat.ne_of_lt l6))
                replace KO := Lib.hid (o9.blk KO.out (Nat.ne_of_gt lgo))
                replace KB6 := Lib.hid (o9.blk KB6.out n6a.out)
                replace BB := Lib.hid (BB.out.trans (o9.bel _ (Nat.le_of_lt l6) BB.out.size))
                replace KT := Lib.hid kt
                clear kt o9
                have co : w9.cell? ⟨go, 3, none⟩ = some (.bool false) := by rw [KO.out.cell]; simp [onV, hon1]
                have fo : w9.frozen? ⟨go, 3, none⟩ = false := KO.out.frozen _
                replace hon1 := Lib.hid hon1
                clear hon
                have df : decide (most ≤ T.many) = false := decide_eq_false hfull
                obtain ⟨T3, hT3⟩ : ∃ z, z = (T.put 2 ⟨true, 0, max T.beat 0, ro, key, some ((7 : Int).toNat, 1)⟩) := ⟨_, rfl⟩
                have hm3 : Hid (T3.many = T.many + 1) := Lib.hid (by rw [hT3, Tab.many_put2, hon1.out]; simp)
                have ho3 : Hid (T3.ok) := Lib.hid (by rw [hT3]; exact hT.out.put 2 ⟨KL.out, KB.out, by decide, by decide⟩)
                have hr3 : Hid (T3.roleOf 3 = ro) := Lib.hid (by rw [hT3]; rfl)
                have hb3 : Hid (T3.most = most) := Lib.hid (by rw [hT3, (Tab.put_beat T 2 _).2]; exact hmo.out)
                have hv3 : Hid ((onV T).setIfInBounds 3 (.bool true) = onV T3) := Lib.hid (by simp [onV, Tab.put, hT3])
                have CTK := Lib.hid (fun (A : Option Addr) (c : Nat) (W : World) (kt : TabB W g (T.put 2 (sesB true (max T.beat 0) ro key))) (h13 : 13 ≤ c) (hcx : c ≤ 9223372036854775807) (hr : Row W A (beatB 7 ++ tagOf key 3 (beatB 7))) (hR : Roots W) => take_first g 2 T 3 ro (max T.beat 0) 7 key A c W kt hT.out KL.out KB.out (by decide) (by decide) (by decide) h13 hcx hr hR)
                rw [← hT3] at CTK
                go_wp2_with ((with_reducible show wpList _ _ _ (⟨_, .load 22 _, _, _, _, none⟩ :: _) _ _); refine Marker.mk ?_)
                refine Marker.in ?_
                clear co fo
                have KO2 : Hid (Blk (w9.setCell ⟨go, 3, none⟩ (.bool true)) go (onV T3) 63) := Lib.hid (by rw [← hv3.out]; exact KO.out.set 3 (.bool true))
                replace KO := KO2
                clear KO2 hT3 hv3
                replace K5 := Lib.hid (K5.out.other go 3 (.bool true) (by omega))
                replace KB6 := Lib.hid (KB6.out.other go 3 (.bool true) n6b.out)
                replace KT := Lib.hid (Blk.other KT.out go 3 (.bool true) (by omega))
                replace BB := Lib.hid (BB.out.setCell (p := ⟨go, 3, none⟩) (show w.heap.size ≤ go by omega) (.bool true))
                generalize w9.setCell ⟨go, 3, none⟩ (.bool true) = w10 at *
                go_wp2_with ((with_reducible show wpList _ _ _ (⟨_, .load 22 _, _, _, _, none⟩ :: _) _ _); (with_reducible refine wpBlk_load (g := w.heap.size) agg_b32 ?_ ?_ K5 ?_ ?_); (· exact wanted0 rfl); (· exact ⟨rfl, rfl⟩); (· exact KS.out))
                rw [hkv.out]
                ((with_reducible refine (rclose_any key (beatB 7) (some ⟨g6, 0, none⟩) 5 c6 3 _ KL.out KB.out (beat_len 7 (by omega)) (B7R.out _ KB6.out) (by decide)).mono ?_))
                rintro e w11 ⟨⟨A7, c7, rfl, own7⟩, b7⟩
                rw [← hkv.out]
                replace K5 := Lib.hid (K5.out.below b7)
                replace KO := Lib.hid (KO.out.below b7)
                replace KB6 := Lib.hid (KB6.out.below b7)
                replace KT := Lib.hid (KT.out.below b7)
                replace BB := Lib.hid (bt BB.out b7)
                have h13 : Hid (13 ≤ c7 ∧ c7 ≤ 9223372036854775807) := Lib.hid (by have := own_cap8 own7; rw [List.length_append, beat_len 7 (by omega), tagOf_len] at this; exact this)
                have HR7 := Lib.hid own7.row
                clear own7 b7
                go_wp2_with fail
                have kt1 : TabB w11 g (T.put 2 (sesB true (max T.beat 0) ro key)) := KT.out
                ((with_reducible refine (CTK.out A7 c7 _ kt1 h13.out.1 h13.out.2 HR7.out (RT.out.below BB.out)).mono ?_))
                rintro e w12 ⟨rfl, kt, o12⟩
                replace K5 := Lib.hid (o12.blk K5.out (Nat.ne_of_lt l6))
                replace KO := Lib.hid (o12.blk KO.out (Nat.ne_of_gt lgo))
                replace KB6 := Lib.hid (o12.blk KB6.out n6a.out)
                replace BB := Lib.hid (BB.out.trans (o12.bel _ (Nat.le_of_lt l6) BB.out.size))
                replace KT := Lib.hid kt
                clear kt o12 HR7 CTK h13 kt1
                go_wp2_with (((with_reducible show wpList _ _ _ (⟨_, .alloc 66, _, _, _, none⟩ :: _) _ _); (with_reducible refine wpRow_alloc zeroT_msgy ?_ ?_ ?_); (· exact wanted0 rfl); (· rfl); refine Marker.mk ?_))
                refine Marker.in ?_
                have lg9 := Blk.lt KT.out
                have lo9 := KO.out.lt
                have l69 := KB6.out.lt
                have K9 := Lib.hid (Blk.new w12 (msgV (z12 0)) 66)
                have bel := below_alloc1 w12 (.cells (msgV (z12 0)) 66)
                replace K5 := Lib.hid (K5.out.below bel)
                replace KO := Lib.hid (KO.out.below bel)
                replace KB6 := Lib.hid (KB6.out.below bel)
                replace KT := Lib.hid (KT.out.below bel)
                replace BB := Lib.hid (bt BB.out bel)
                clear bel
                generalize w12.alloc (.cells (msgV (z12 0)) 66) = w13 at *
                generalize w12.heap.size = g13 at *
                go_wp2_with (((with_reducible show wpList _ _ _ (⟨_, .store 66 _ _, _, _, _, none⟩ :: _) _ _); (with_reducible refine wpBlk_store (g := g13) (cs := msgV (beatL 7)) agg_msg ?_ ?_ K9 ?_ ?_ ?_ ?_); (· exact wanted0 rfl); (· exact ⟨rfl, rfl, rfl⟩); (· exact msgV_size _); (· exact msgV_size _); (· exact msgV_one _); refine Marker.mk ?_))
                refine Marker.in ?_
                replace K5 := Lib.hid (Blk.setRow_other K5.out g13 (msgV (beatL 7)) (by omega))
                replace KO := Lib.hid (Blk.setRow_other KO.out g13 (msgV (beatL 7)) (by omega))
                replace KB6 := Lib.hid (Blk.setRow_other KB6.out g13 (msgV (beatL 7)) (by omega))
                replace KT := Lib.hid (Blk.setRow_other KT.out g13 (msgV (beatL 7)) (by omega))
                replace BB := Lib.hid (below_setRow (g := g13) BB.out (by omega) (msgV (beatL 7)))
                clear K9 lg9 lo9 l69
                generalize w13.setRow g13 (msgV (beatL 7)) = w14 at *
                have kt1 : TabB w14 g T3 := KT.out
                go_wp2_with fail
                ((with_reducible refine (tabf_role g T3 3 _ kt1 ho3.out).mono ?_))
                rintro e w15 ⟨rfl, rfl⟩
                rw [hr3.out, ← hro.out]
                go_wp2_with fail
                ((with_reducible refine (tabf_many g T3 _ kt1 ho3.out).mono ?_))
                rintro e w15 ⟨rfl, rfl⟩
                rw [hm3.out]
                go_wp2_with fail
                exact ⟨⟨i + 1, T3, by omega, by omega, by simp, (by rw [hm3.out]), ho3.out, hb3.out, K5.out, KT.out, KO.out, KB6.out, BB.out⟩, by simp [intOf]; omega⟩
            ·
              have hon1 : T.s2.on = true := hon
              rw [hkv.out]
              ((with_reducible refine (st_ok g 2 T 3 ro key _ KT.out hT.out KL.out (by decide) (by decide) hr4.out (.inl hon)).mono ?_))
              rintro e w9 ⟨rfl, kt, o9⟩
              rw [← hkv.out]
              replace K5 := Lib.hid (o9.blk K5.out (Nat.ne_of_lt l6))
              replace KO := Lib.hid (o9.blk KO.out (Nat.ne_of_gt lgo))
              replace KB6 := Lib.hid (o9.blk KB6.out n6a.out)
              replace BB := Lib.hid (BB.out.trans (o9.bel _ (Nat.le_of_lt l6) BB.out.size))
              replace KT := Lib.hid kt
              clear kt o9
              have co : w9.cell? ⟨go, 3, none⟩ = some (.bool true) := by rw [KO.out.cell]; simp [onV, hon1]
              have fo : w9.frozen? ⟨go, 3, none⟩ = false := KO.out.frozen _
              replace hon1 := Lib.hid hon1
              clear hon
              obtain ⟨T3, hT3⟩ : ∃ z, z = (T.put 2 ⟨true, 0, max T.beat 0, ro, key, some ((7 : Int).toNat, 1)⟩) := ⟨_, rfl⟩
              have hm3 : Hid (T3.many = T.many) := Lib.hid (by rw [hT3, Tab.many_put2, hon1.out]; simp)
              have ho3 : Hid (T3.ok) := Lib.hid (by rw [hT3]; exact hT.out.put 2 ⟨KL.out, KB.out, by decide, by decide⟩)
              have hr3 : Hid (T3.roleOf 3 = ro) := Lib.hid (by rw [hT3]; rfl)
              have hb3 : Hid (T3.most = most) := Lib.hid (by rw [hT3, (Tab.put_beat T 2 _).2]; exact hmo.out)
              have hv3 : Hid ((onV T).setIfInBounds 3 (.bool true) = onV T3) := Lib.hid (by simp [onV, Tab.put, hT3])
              have CTK := Lib.hid (fun (A : Option Addr) (c : Nat) (W : World) (kt : TabB W g (T.put 2 (sesB true (max T.beat 0) ro key))) (h13 : 13 ≤ c) (hcx : c ≤ 9223372036854775807) (hr : Row W A (beatB 7 ++ tagOf key 3 (beatB 7))) (hR : Roots W) => take_first g 2 T 3 ro (max T.beat 0) 7 key A c W kt hT.out KL.out KB.out (by decide) (by decide) (by decide) h13 hcx hr hR)
              rw [← hT3] at CTK
              go_wp2_with ((with_reducible show wpList _ _ _ (⟨_, .load 22 _, _, _, _, none⟩ :: _) _ _); refine Marker.mk ?_)
              refine Marker.in ?_
              clear co fo
              have KO2 : Hid (Blk (w9.setCell ⟨go, 3, none⟩ (.bool true)) go (onV T3) 63) := Lib.hid (by rw [← hv3.out]; exact KO.out.set 3 (.bool true))
              replace KO := KO2
              clear KO2 hT3 hv3
              replace K5 := Lib.hid (K5.out.other go 3 (.bool true) (by omega))
              replace KB6 := Lib.hid (KB6.out.other go 3 (.bool true) n6b.out)
              replace KT := Lib.hid (Blk.other KT.out go 3 (.bool true) (by omega))
              replace BB := Lib.hid (BB.out.setCell (p := ⟨go, 3, none⟩) (show w.heap.size ≤ go by omega) (.bool true))
              generalize w9.setCell ⟨go, 3, none⟩ (.bool true) = w10 at *
              go_wp2_with ((with_reducible show wpList _ _ _ (⟨_, .load 22 _, _, _, _, none⟩ :: _) _ _); (with_reducible refine wpBlk_load (g := w.heap.size) agg_b32 ?_ ?_ K5 ?_ ?_); (· exact wanted0 rfl); (· exact ⟨rfl, rfl⟩); (· exact KS.out))
              rw [hkv.out]
              ((with_reducible refine (rclose_any key (beatB 7) (some ⟨g6, 0, none⟩) 5 c6 3 _ KL.out KB.out (beat_len 7 (by omega)) (B7R.out _ KB6.out) (by decide)).mono ?_))
              rintro e w11 ⟨⟨A7, c7, rfl, own7⟩, b7⟩
              rw [← hkv.out]
              replace K5 := Lib.hid (K5.out.below b7)
              replace KO := Lib.hid (KO.out.below b7)
              replace KB6 := Lib.hid (KB6.out.below b7)
              replace KT := Lib.hid (KT.out.below b7)
              replace BB := Lib.hid (bt BB.out b7)
              have h13 : Hid (13 ≤ c7 ∧ c7 ≤ 9223372036854775807) := Lib.hid (by have := own_cap8 own7; rw [List.length_append, beat_len 7 (by omega), tagOf_len] at this; exact this)
              have HR7 := Lib.hid own7.row
              clear own7 b7
              go_wp2_with fail
              have kt1 : TabB w11 g (T.put 2 (sesB true (max T.beat 0) ro key)) := KT.out
              ((with_reducible refine (CTK.out A7 c7 _ kt1 h13.out.1 h13.out.2 HR7.out (RT.out.below BB.out)).mono ?_))
              rintro e w12 ⟨rfl, kt, o12⟩
              replace K5 := Lib.hid (o12.blk K5.out (Nat.ne_of_lt l6))
              replace KO := Lib.hid (o12.blk KO.out (Nat.ne_of_gt lgo))
              replace KB6 := Lib.hid (o12.blk KB6.out n6a.out)
              replace BB := Lib.hid (BB.out.trans (o12.bel _ (Nat.le_of_lt l6) BB.out.size))
              replace KT := Lib.hid kt
              clear kt o12 HR7 CTK h13 kt1
              go_wp2_with (((with_reducible show wpList _ _ _ (⟨_, .alloc 66, _, _, _, none⟩ :: _) _ _); (with_reducible refine wpRow_alloc zeroT_msgy ?_ ?_ ?_); (· exact wanted0 rfl); (· rfl); refine Marker.mk ?_))
              refine Marker.in ?_
              have lg9 := Blk.lt KT.out
              have lo9 := KO.out.lt
              have l69 := KB6.out.lt
              have K9 := Lib.hid (Blk.new w12 (msgV (z12 0)) 66)
              have bel := below_alloc1 w12 (.cells (msgV (z12 0)) 66)
              replace K5 := Lib.hid (K5.out.below bel)
              replace KO := Lib.hid (KO.out.below bel)
              replace KB6 := Lib.hid (KB6.out.below bel)
              replace KT := Lib.hid (KT.out.below bel)
              replace BB := Lib.hid (bt BB.out bel)
              clear bel
              generalize w12.alloc (.cells (msgV (z12 0)) 66) = w13 at *
              generalize w12.heap.size = g13 at *
              go_wp2_with (((with_reducible show wpList _ _ _ (⟨_, .store 66 _ _, _, _, _, none⟩ :: _) _ _); (with_reducible refine wpBlk_store (g := g13) (cs := msgV (beatL 7)) agg_msg ?_ ?_ K9 ?_ ?_ ?_ ?_); (· exact wanted0 rfl); (· exact ⟨rfl, rfl, rfl⟩); (· exact msgV_size _); (· exact msgV_size _); (· exact msgV_one _); refine Marker.mk ?_))
              refine Marker.in ?_
              replace K5 := Lib.hid (Blk.setRow_other K5.out g13 (msgV (beatL 7)) (by omega))
              replace KO := Lib.hid (Blk.setRow_other KO.out g13 (msgV (beatL 7)) (by omega))
              replace KB6 := Lib.hid (Blk.setRow_other KB6.out g13 (msgV (beatL 7)) (by omega))
              replace KT := Lib.hid (Blk.setRow_other KT.out g13 (msgV (beatL 7)) (by omega))
              replace BB := Lib.hid (below_setRow (g := g13) BB.out (by omega) (msgV (beatL 7)))
              clear K9 lg9 lo9 l69
              generalize w13.setRow g13 (msgV (beatL 7)) = w14 at *
              have kt1 : TabB w14 g T3 := KT.out
              go_wp2_with fail
              ((with_reducible refine (tabf_role g T3 3 _ kt1 ho3.out).mono ?_))
              rintro e w15 ⟨rfl, rfl⟩
              rw [hr3.out, ← hro.out]
              go_wp2_with fail
              ((with_reducible refine (tabf_many g T3 _ kt1 ho3.out).mono ?_))
              rintro e w15 ⟨rfl, rfl⟩
              rw [hm3.out]
              go_wp2_with fail
              exact ⟨⟨i + 1, T3, by omega, by omega, by simp, (by rw [hm3.out]), ho3.out, hb3.out, K5.out, KT.out, KO.out, KB6.out, BB.out⟩, by simp [intOf]; omega⟩
      ·
        have t1 : decide ((i : Int) < (m : Int)) = true := decide_eq_true (by omega)
        have t2 : decide ((i : Int) < 20) = false := decide_eq_false (by omega)
        have kt1 : TabB wr g T := KT.out
        go_wp2_with fail
        ((with_reducible refine (tabf_many g T _ kt1 hT.out).mono ?_))
        rintro e w15 ⟨rfl, rfl⟩
        go_wp2_with ((with_reducible show wpList _ _ _ (⟨_, .load 22 _, _, _, _, _⟩ :: _) _ _); (with_reducible refine wpBlk_load (g := w.heap.size) agg_b32 ?_ ?_ K5 ?_ ?_); (· (first | exact wanted0 rfl | (simp [Region.wanted, yielded]; done))); (· exact ⟨rfl, rfl⟩); (· exact KS.out))
        rw [hkv.out]
        ((with_reducible refine (st_bad g T 1 4 key _ kt1 hT.out KL.out (by omega)).mono ?_))
        rintro e w9 ⟨rfl, kt, o9⟩
        rw [← hkv.out]
        replace K5 := Lib.hid (o9.blk K5.out (Nat.ne_of_lt l6))
        replace BB := Lib.hid (BB.out.trans (o9.bel _ (Nat.le_of_lt l6) BB.out.size))
        clear o9 kt1 KT
        go_wp2_with ((with_reducible show wpList _ _ _ (⟨_, .load 22 _, _, _, _, _⟩ :: _) _ _); (with_reducible refine wpBlk_load (g := w.heap.size) agg_b32 ?_ ?_ K5 ?_ ?_); (· (first | exact wanted0 rfl | (simp [Region.wanted, yielded]; done))); (· exact ⟨rfl, rfl⟩); (· exact KS.out))
        rw [hkv.out]
        ((with_reducible refine (st_bad g T 4 1 key _ kt hT.out KL.out (by omega)).mono ?_))
        rintro e w10 ⟨rfl, kt2, o9⟩
        rw [← hkv.out]
        replace BB := Lib.hid (BB.out.trans (o9.bel _ (Nat.le_of_lt l6) BB.out.size))
        go_wp2_with fail
        go_ret
        exact ⟨rfl, BB.out⟩
    ·
      have t1 : decide ((i : Int) < (m : Int)) = false := decide_eq_false (by omega)
      have kt1 : TabB wr g T := KT.out
      go_wp2_with fail
      ((with_reducible refine (tabf_many g T _ kt1 hT.out).mono ?_))
      rintro e w15 ⟨rfl, rfl⟩
      go_wp2_with ((with_reducible show wpList _ _ _ (⟨_, .load 22 _, _, _, _, _⟩ :: _) _ _); (with_reducible refine wpBlk_load (g := w.heap.size) agg_b32 ?_ ?_ K5 ?_ ?_); (· (first | exact wanted0 rfl | (simp [Region.wanted, yielded]; done))); (· exact ⟨rfl, rfl⟩); (· exact KS.out))
      rw [hkv.out]
      ((with_reducible refine (st_bad g T 1 4 key _ kt1 hT.out KL.out (by omega)).mono ?_))
      rintro e w9 ⟨rfl, kt, o9⟩
      rw [← hkv.out]
      replace K5 := Lib.hid (o9.blk K5.out (Nat.ne_of_lt l6))
      replace BB := Lib.hid (BB.out.trans (o9.bel _ (Nat.le_of_lt l6) BB.out.size))
      clear o9 kt1 KT
      go_wp2_with ((with_reducible show wpList _ _ _ (⟨_, .load 22 _, _, _, _, _⟩ :: _) _ _); (with_reducible refine wpBlk_load (g := w.heap.size) agg_b32 ?_ ?_ K5 ?_ ?_); (· (first | exact wanted0 rfl | (simp [Region.wanted, yielded]; done))); (· exact ⟨rfl, rfl⟩); (· exact KS.out))
      rw [hkv.out]
      ((with_reducible refine (st_bad g T 4 1 key _ kt hT.out KL.out (by omega)).mono ?_))
      rintro e w10 ⟨rfl, kt2, o9⟩
      rw [← hkv.out]
      replace BB := Lib.hid (BB.out.trans (o9.bel _ (Nat.le_of_lt l6) BB.out.size))
      go_wp2_with fail
      go_ret
      exact ⟨rfl, BB.out⟩
end Go.Proofs.YtapednkmefbldaaDoor
