/- The walk of ShaAll. -/
import Derived.Test.YtalekcpdkfdmaaaDoorRefS
import Derived.Test.YtalekcpdkfdmaaaDoorEqB
import Derived.Test.YtalekcpdkfdmaaaDoorConv
namespace Go.Proofs.YtalekcpdkfdmaaaDoor
open Go.RowKit

set_option maxRecDepth 100000 in
theorem flat_x64 (v : Value) (w : World) (base : Nat) (h : Value.okWide Tryd.prog w .any base 25 v) : ∃ l : List Int, v = .agg (u8V l) ∧ l.length = 64 ∧ ∀ x ∈ l, 0 ≤ x ∧ x ≤ 255 := by
  obtain ⟨cs, rfl, hs, hc⟩ := flat (ts := List.replicate 64 5) (.inr ⟨_, _, Tryd.underlying25⟩) (by kernel_rfl) (by kernel_rfl) h
  have hs2 : cs.size = 64 := by simpa using hs
  have key : ∀ i (hi : i < 64), ∃ n : Int, cs[i]? = some (.int .u8 n) ∧ 0 ≤ n ∧ n ≤ 255 := by
    intro i hi
    obtain ⟨n, e, n0, n1⟩ := opn_u8 Tryd.underlying5 (hc i 5 (cs[i]'(by omega)) (by rw [List.getElem?_replicate, if_pos hi]) (Array.getElem?_eq_getElem (by omega)))
    exact ⟨n, by rw [Array.getElem?_eq_getElem (by omega), e], n0, n1⟩
  let f : Nat → Int := fun i => match cs[i]? with
    | some (.int _ n) => n
    | _ => 0
  have hf : ∀ i, i < 64 → cs[i]? = some (.int .u8 (f i)) ∧ 0 ≤ f i ∧ f i ≤ 255 := by
    intro i hi
    obtain ⟨n, e, n0, n1⟩ := key i hi
    have e2 : f i = n := by simp only [f, e]
    rw [e2]
    exact ⟨e, n0, n1⟩
  have ec : cs = u8V ((List.range 64).map f) := by
    apply Array.ext
    · rw [hs2]; simp [u8V]
    · intro i h1 h2
      have := (hf i (by omega)).1
      rw [Array.getElem?_eq_getElem h1] at this
      have h3 := Option.some.inj this
      rw [h3]
      simp [u8V]
  refine ⟨(List.range 64).map f, by rw [ec], by simp, ?_⟩
  intro x hx
  obtain ⟨i, hi, rfl⟩ := List.mem_map.1 hx
  have := List.mem_range.1 hi
  exact (hf i (by omega)).2
set_option maxRecDepth 100000 in
theorem flat_h8 (v : Value) (w : World) (base : Nat) (h : Value.okWide Tryd.prog w .any base 24 v) : ∃ (n0 : Int) (n1 : Int) (n2 : Int) (n3 : Int) (n4 : Int) (n5 : Int) (n6 : Int) (n7 : Int), v = .agg #[.int .u32 n0, .int .u32 n1, .int .u32 n2, .int .u32 n3, .int .u32 n4, .int .u32 n5, .int .u32 n6, .int .u32 n7] ∧ (0 ≤ n0 ∧ n0 ≤ 4294967295) ∧ (0 ≤ n1 ∧ n1 ≤ 4294967295) ∧ (0 ≤ n2 ∧ n2 ≤ 4294967295) ∧ (0 ≤ n3 ∧ n3 ≤ 4294967295) ∧ (0 ≤ n4 ∧ n4 ≤ 4294967295) ∧ (0 ≤ n5 ∧ n5 ≤ 4294967295) ∧ (0 ≤ n6 ∧ n6 ≤ 4294967295) ∧ (0 ≤ n7 ∧ n7 ≤ 4294967295) := by
  obtain ⟨cs, rfl, hs, hc⟩ := flat (ts := [23, 23, 23, 23, 23, 23, 23, 23]) (.inr ⟨_, _, Tryd.underlying24⟩) (by kernel_rfl) (by kernel_rfl) h
  obtain ⟨l⟩ := cs
  match l, hs with
  | [x0, x1, x2, x3, x4, x5, x6, x7], _ =>
    obtain ⟨n0, rfl, a0, b0⟩ := opn_u32 Tryd.underlying23 (hc 0 _ x0 rfl rfl)
    obtain ⟨n1, rfl, a1, b1⟩ := opn_u32 Tryd.underlying23 (hc 1 _ x1 rfl rfl)
    obtain ⟨n2, rfl, a2, b2⟩ := opn_u32 Tryd.underlying23 (hc 2 _ x2 rfl rfl)
    obtain ⟨n3, rfl, a3, b3⟩ := opn_u32 Tryd.underlying23 (hc 3 _ x3 rfl rfl)
    obtain ⟨n4, rfl, a4, b4⟩ := opn_u32 Tryd.underlying23 (hc 4 _ x4 rfl rfl)
    obtain ⟨n5, rfl, a5, b5⟩ := opn_u32 Tryd.underlying23 (hc 5 _ x5 rfl rfl)
    obtain ⟨n6, rfl, a6, b6⟩ := opn_u32 Tryd.underlying23 (hc 6 _ x6 rfl rfl)
    obtain ⟨n7, rfl, a7, b7⟩ := opn_u32 Tryd.underlying23 (hc 7 _ x7 rfl rfl)
    exact ⟨n0, n1, n2, n3, n4, n5, n6, n7, rfl, ⟨a0, b0⟩, ⟨a1, b1⟩, ⟨a2, b2⟩, ⟨a3, b3⟩, ⟨a4, b4⟩, ⟨a5, b5⟩, ⟨a6, b6⟩, ⟨a7, b7⟩⟩

section
variable {P : Program}
theorem run_eqItems_u32 {e : TypeId} (he : P.underlying e = some (.int .u32)) (d : Nat) (x : List Int) (n : Nat) (hx : x.length = n) (W : World) : ∀ (m j : Nat), j + m ≤ n →
    (Op.eqItems (d + 1) e 1 (u32V x) (u32V x) (List.range' j m)).run P W = .ok true W
  | 0, j, _ => by
    simp only [List.range'_zero, Op.eqItems, Sem.run_pure]
  | m + 1, j, h => by
    have p1 := run_part_int' he (u32V x) j _ (u32V_get x j (by omega)) W
    rw [List.range'_succ]
    simp only [Op.eqItems, Sem.run_bind, Nat.mul_one, p1, Result.andThen_ok, run_equalIn_int W d e .u32 .u32 _ _ he, beq_self_eq_true, Bool.not_true, Bool.false_eq_true, if_false]
    exact run_eqItems_u32 he d x n hx W m (j + 1) (by omega)
end
theorem info_u32e : ∃ i, Tryd.prog.info? 23 = some i := ⟨_, rfl⟩
theorem eql_st (q : St) (W : World) : (binOp .eql 24 (.agg q.cells) (.agg q.cells)).run Tryd.prog W = .ok (.bool true) W := by
  obtain ⟨i, hi⟩ := info_u32e
  have h : (Op.equalIn (9998 + 1 + 1) 24 (.agg (u32V q.list)) (.agg (u32V q.list))).run Tryd.prog W = .ok true W := by
    rw [run_equalIn_array W (9998 + 1) _ _ Tryd.underlying24 hi, show Tryd.prog.cellsOf 23 = 1 by kernel_rfl, List.range_eq_range', run_eqItems_u32 Tryd.underlying23 9998 q.list 8 rfl W 8 0 (by omega)]
  have e : q.cells = u32V q.list := rfl
  rw [e]
  simp [go_sem, h]
def RAll (A : Option Addr) (n c L : Nat) (sv P x : List Int) (ps : ByteArray) (h r : St) (i : Nat) (v : Value) (w : World) : Prop := match i with
  | 2 => v = .slice A n c
  | 3 => v = .agg (u8V sv)
  | 4 => v = .slice A n c
  | 5 => v = .agg (u8V sv)
  | 9 => v = .slice A n c
  | 10 => ∃ B d, v = .slice B L d ∧ Row w B P
  | 11 => v = .string ps
  | 12 => v = .slice A n c
  | 13 => ∃ B d, v = .slice B L d ∧ Row w B P
  | 14 => v = .string ps
  | 18 => v = .agg h.cells
  | 19 => v = .agg (u8V x)
  | 20 => v = .agg r.cells
  | 21 => v = .agg h.cells
  | 22 => v = .agg (u8V x)
  | 23 => v = .agg r.cells
  | 27 => v = .agg startS.cells
  | 28 => v = .agg startS.cells
  | _ => v = .bool true
theorem RAll_keep (A : Option Addr) (n c L : Nat) (sv P x : List Int) (ps : ByteArray) (h r : St) : ∀ i v w w', i < 32 → RAll A n c L sv P x ps h r i v w → BelR w w' → RAll A n c L sv P x ps h r i v w' := by
  intro i v w w' hi h hb
  unfold RAll at *
  split at h
  case h_6 | h_9 => obtain ⟨g, d, e, k⟩ := h; exact ⟨g, d, e, row_below k hb⟩
  all_goals exact h
set_option maxRecDepth 100000 in
set_option maxHeartbeats 1600000 in
theorem walk_ShaAll (v0 v1 v2 : Value) (w : World) (hR : Roots w) (q0 : IsRow .u8 w v0) (q1 : ∃ b0, Value.okWide Tryd.prog w .any b0 24 v1) (q2 : ∃ b0, Value.okWide Tryd.prog w .any b0 25 v2) :
    Calls Tryd.prog 3 #[v0, v1, v2] w fun e w' => e = .returned (.bool true) ∧ Below w.heap.size w w' := by
  obtain ⟨b1, q1⟩ := q1
  obtain ⟨b2, q2⟩ := q2
  obtain ⟨A, k, n, c, hn, n3, n1, n2, hk, hA, hf⟩ := few_of (k := 300) q0 few04
  obtain ⟨ha, hb, hc, hd, he, hf_, hg, hh, rfl, -⟩ := flat_h8 _ _ _ q1
  obtain ⟨x, rfl, XL, XB⟩ := flat_x64 _ _ _ q2
  rw [show (#[.int .u32 ha, .int .u32 hb, .int .u32 hc, .int .u32 hd, .int .u32 he, .int .u32 hf_, .int .u32 hg, .int .u32 hh] : Array Value) = (St.mk ha hb hc hd he hf_ hg hh).cells from rfl]
  generalize St.mk ha hb hc hd he hf_ hg hh = h
  have CS := fun (W : World) (hb : Below w.heap.size w W) => sum_any A k n c W hn (row_below hk hb) (by omega) (hR.below hb)
  have CR := fun (W : World) (hb : Below w.heap.size w W) => rsum_any A k n c W hn (row_below hk hb) (by omega)
  have CP := fun (W : World) (hb : Below w.heap.size w W) => pad_any A k n c W hn (row_below hk hb) (by omega)
  have CQ := fun (W : World) (hb : Below w.heap.size w W) => rpad_any A k n c W hn (row_below hk hb) (by omega)
  have CB := fun (W : World) (hb : Below w.heap.size w W) => block_any h x XL XB W (hR.below hb)
  have CC := fun (W : World) => rblock_any h x XL XB W
  have SL := sha_len k
  have PB := padL_bytes k hk.2
  have PL := padL_len k
  rw [hn] at PL
  generalize sha k = sv at *
  generalize padL k = P at *
  generalize wholeOf n = L at *
  generalize blockS h x = r at *
  have EQ1 := eql_b32_self sv SL
  have EQ2 := eql_st r
  have EQ3 := eql_st startS
  have CV := fun (W : World) (B : Option Addr) (d : Nat) (hr : Row W B P) => conv_row L d PL hr
  generalize strOfNums P = ps at *
  replace CS := Lib.hid CS
  replace CR := Lib.hid CR
  replace CP := Lib.hid CP
  replace CQ := Lib.hid CQ
  replace CB := Lib.hid CB
  replace CC := Lib.hid CC
  replace PB := Lib.hid PB
  replace PL := Lib.hid PL
  replace XL := Lib.hid XL
  replace XB := Lib.hid XB
  replace EQ1 := Lib.hid EQ1
  replace EQ2 := Lib.hid EQ2
  replace EQ3 := Lib.hid EQ3
  replace CV := Lib.hid CV
  have HF := Lib.hid hf
  have RT := Lib.hid hR
  clear hn hk hf hA hR q0 q1 q2 SL
  go_enter Tryd.func3, Tryd.ntmps3
  go_wp2_with fail
  have K4 := Lib.hid ((Blk.new w h.cells 24).alloc (.cells (u8V x) 25))
  have K5 := Lib.hid (Blk.new' (w.alloc (.cells h.cells 24)) (u8V x) 25 (g := w.heap.size + 1) (by simp))
  have BB := Lib.hid (below_alloc2 w (.cells h.cells 24) (.cells (u8V x) 25))
  generalize (w.alloc (.cells h.cells 24)).alloc (.cells (u8V x) 25) = w1 at *
  ((with_reducible refine (shown04 _ (RT.out.below BB.out)).mono ?_))
  rintro e w2 ⟨rfl, b2⟩
  replace K4 := Lib.hid (K4.out.below b2)
  replace K5 := Lib.hid (K5.out.below b2)
  replace BB := Lib.hid (bt BB.out b2)
  clear b2
  go_wp2_with fail
  ((with_reducible refine (HF.out _).mono ?_))
  rintro e w3 ⟨rfl, rfl⟩
  clear HF
  go_wp2_with fail
  refine wp_region_confR' belR_kept (by kernel_rfl) 32 (by kernel_rfl) (by simp) (by decide) (RAll A n c L sv P x ps h r) (RAll_keep A n c L sv P x ps h r) ?_ ?_
  · simp only [ConfStepsR, List.take_succ_cons, List.take_zero, putAll, Act.put, List.setIfInBounds_toArray, List.set_cons_succ, List.set_cons_zero, and_true]
    refine ⟨?_, ?_, ?_, ?_, ?_, ?_, ?_, ?_, ?_, ?_, ?_, ?_, ?_, ?_, ?_, ?_, ?_, ?_, ?_, ?_, ?_, ?_, ?_, ?_, ?_, ?_, ?_, ?_, ?_, ?_, ?_, ?_⟩
    all_goals intro v w' hb hd
    · exact conf_valueR belR_kept (wanted0 rfl) (by simp [go_sem]) rfl
    · have d0 : v 0 = Value.bool true := hd.at 0 rfl
      exact conf_valueR belR_kept (wanted0 rfl) (by simp [go_sem, d0]) rfl
    · have d1 : v 1 = Value.bool true := hd.at 1 rfl
      exact conf_valueR belR_kept (wantedY rfl rfl (congrArg some d1)) (by simp [go_sem, d1]) rfl
    · have d1 : v 1 = Value.bool true := hd.at 1 rfl
      have d2 : v 2 = Value.slice A n c := hd.at 2 rfl
      refine conf_callR (f := 15) (args := #[v 2]) (wantedY rfl rfl (congrArg some d1)) (by simp [go_sem]) ?_
      rw [d2]
      exact (CS.out w' (bt BB.out hb)).mono fun e w'' ⟨he, hb'⟩ => ⟨_, he, hb', rfl⟩
    · have d1 : v 1 = Value.bool true := hd.at 1 rfl
      exact conf_valueR belR_kept (wantedY rfl rfl (congrArg some d1)) (by simp [go_sem, d1]) rfl
    · have d1 : v 1 = Value.bool true := hd.at 1 rfl
      have d4 : v 4 = Value.slice A n c := hd.at 4 rfl
      refine conf_callR (f := 16) (args := #[v 4]) (wantedY rfl rfl (congrArg some d1)) (by simp [go_sem]) ?_
      rw [d4]
      exact (CR.out w' (bt BB.out hb)).mono fun e w'' ⟨he, hb'⟩ => ⟨_, he, hb', rfl⟩
    · have d1 : v 1 = Value.bool true := hd.at 1 rfl
      have d3 : v 3 = Value.agg (u8V sv) := hd.at 3 rfl
      have d5 : v 5 = Value.agg (u8V sv) := hd.at 5 rfl
      exact conf_valueR belR_kept (wantedY rfl rfl (congrArg some d1)) (by simp [go_sem, d1, d3, d5, EQ1.out]) rfl
    · have d1 : v 1 = Value.bool true := hd.at 1 rfl
      have d6 : v 6 = Value.bool true := hd.at 6 rfl
      exact conf_valueR belR_kept (wanted0 rfl) (by simp [go_sem, d1, d6]) rfl
    · have d7 : v 7 = Value.bool true := hd.at 7 rfl
      exact conf_valueR belR_kept (wanted0 rfl) (by simp [go_sem, d7]) rfl
    · have d8 : v 8 = Value.bool true := hd.at 8 rfl
      exact conf_valueR belR_kept (wantedY rfl rfl (congrArg some d8)) (by simp [go_sem, d8]) rfl
    · have d8 : v 8 = Value.bool true := hd.at 8 rfl
      have d9 : v 9 = Value.slice A n c := hd.at 9 rfl
      refine conf_callR (f := 17) (args := #[v 9]) (wantedY rfl rfl (congrArg some d8)) (by simp [go_sem]) ?_
      rw [d9]
      exact (CP.out w' (bt BB.out hb)).mono fun e w'' ⟨he, hk, hb'⟩ => ⟨_, he, hb', _, _, rfl, u8V_row hk PB.out⟩
    · have d8 : v 8 = Value.bool true := hd.at 8 rfl
      obtain ⟨B, d, d10, r10⟩ : ∃ B d, v 10 = .slice B L d ∧ Row w' B P := hd.at 10 rfl
      exact conf_valueR belR_kept (wantedY rfl rfl (congrArg some d8)) (by simp [go_sem, d10, CV.out w' B d r10]) rfl
    · have d8 : v 8 = Value.bool true := hd.at 8 rfl
      exact conf_valueR belR_kept (wantedY rfl rfl (congrArg some d8)) (by simp [go_sem, d8]) rfl
    · have d8 : v 8 = Value.bool true := hd.at 8 rfl
      have d12 : v 12 = Value.slice A n c := hd.at 12 rfl
      refine conf_callR (f := 18) (args := #[v 12]) (wantedY rfl rfl (congrArg some d8)) (by simp [go_sem]) ?_
      rw [d12]
      exact (CQ.out w' (bt BB.out hb)).mono fun e w'' ⟨⟨B, d, he, o⟩, hb'⟩ => ⟨_, he, hb', _, _, rfl, o.row⟩
    · have d8 : v 8 = Value.bool true := hd.at 8 rfl
      obtain ⟨B, d, d13, r13⟩ : ∃ B d, v 13 = .slice B L d ∧ Row w' B P := hd.at 13 rfl
      exact conf_valueR belR_kept (wantedY rfl rfl (congrArg some d8)) (by simp [go_sem, d13, CV.out w' B d r13]) rfl
    · have d8 : v 8 = Value.bool true := hd.at 8 rfl
      have d11 : v 11 = Value.string ps := hd.at 11 rfl
      have d14 : v 14 = Value.string ps := hd.at 14 rfl
      exact conf_valueR belR_kept (wantedY rfl rfl (congrArg some d8)) (by simp [go_sem, d8, d11, d14]) rfl
    · have d8 : v 8 = Value.bool true := hd.at 8 rfl
      have d15 : v 15 = Value.bool true := hd.at 15 rfl
      exact conf_valueR belR_kept (wanted0 rfl) (by simp [go_sem, d8, d15]) rfl
    · have d16 : v 16 = Value.bool true := hd.at 16 rfl
      exact conf_valueR belR_kept (wanted0 rfl) (by simp [go_sem, d16]) rfl
    · have d17 : v 17 = Value.bool true := hd.at 17 rfl
      exact conf_loadR belR_kept (g := w.heap.size) agg_8 (wantedY rfl rfl (congrArg some d17)) ⟨rfl, by simp [go_sem]⟩ (K4.out.below hb) (St.cells_size _) rfl
    · have d17 : v 17 = Value.bool true := hd.at 17 rfl
      exact conf_loadR belR_kept (g := w.heap.size + 1) agg_b64 (wantedY rfl rfl (congrArg some d17)) ⟨rfl, by simp [go_sem]⟩ (K5.out.below hb) (by rw [u8V_size, XL.out]) rfl
    · have d17 : v 17 = Value.bool true := hd.at 17 rfl
      have d18 : v 18 = Value.agg h.cells := hd.at 18 rfl
      have d19 : v 19 = Value.agg (u8V x) := hd.at 19 rfl
      refine conf_callR (f := 19) (args := #[v 18, v 19]) (wantedY rfl rfl (congrArg some d17)) (by simp [go_sem]) ?_
      rw [d18, d19]
      exact (CB.out w' (bt BB.out hb)).mono fun e w'' ⟨he, hb'⟩ => ⟨_, he, hb', rfl⟩
    · have d17 : v 17 = Value.bool true := hd.at 17 rfl
      exact conf_loadR belR_kept (g := w.heap.size) agg_8 (wantedY rfl rfl (congrArg some d17)) ⟨rfl, by simp [go_sem]⟩ (K4.out.below hb) (St.cells_size _) rfl
    · have d17 : v 17 = Value.bool true := hd.at 17 rfl
      exact conf_loadR belR_kept (g := w.heap.size + 1) agg_b64 (wantedY rfl rfl (congrArg some d17)) ⟨rfl, by simp [go_sem]⟩ (K5.out.below hb) (by rw [u8V_size, XL.out]) rfl
    · have d17 : v 17 = Value.bool true := hd.at 17 rfl
      have d21 : v 21 = Value.agg h.cells := hd.at 21 rfl
      have d22 : v 22 = Value.agg (u8V x) := hd.at 22 rfl
      refine conf_callR (f := 20) (args := #[v 21, v 22]) (wantedY rfl rfl (congrArg some d17)) (by simp [go_sem]) ?_
      rw [d21, d22]
      exact (CC.out w').mono fun e w'' ⟨he, hb'⟩ => ⟨_, he, hb', rfl⟩
    · have d17 : v 17 = Value.bool true := hd.at 17 rfl
      have d20 : v 20 = Value.agg r.cells := hd.at 20 rfl
      have d23 : v 23 = Value.agg r.cells := hd.at 23 rfl
      exact conf_valueR belR_kept (wantedY rfl rfl (congrArg some d17)) (by simp [go_sem, d17, d20, d23, EQ2.out]) rfl
    · have d17 : v 17 = Value.bool true := hd.at 17 rfl
      have d24 : v 24 = Value.bool true := hd.at 24 rfl
      exact conf_valueR belR_kept (wanted0 rfl) (by simp [go_sem, d17, d24]) rfl
    · have d25 : v 25 = Value.bool true := hd.at 25 rfl
      exact conf_valueR belR_kept (wanted0 rfl) (by simp [go_sem, d25]) rfl
    · have d26 : v 26 = Value.bool true := hd.at 26 rfl
      refine conf_callR (f := 21) (args := #[]) (wantedY rfl rfl (congrArg some d26)) (by simp [go_sem]) ?_
      exact (start_any w').mono fun e w'' ⟨he, hb'⟩ => ⟨_, he, hb', rfl⟩
    · have d26 : v 26 = Value.bool true := hd.at 26 rfl
      refine conf_callR (f := 22) (args := #[]) (wantedY rfl rfl (congrArg some d26)) (by simp [go_sem]) ?_
      exact (rstart_any w').mono fun e w'' ⟨he, hb'⟩ => ⟨_, he, hb', rfl⟩
    · have d26 : v 26 = Value.bool true := hd.at 26 rfl
      have d27 : v 27 = Value.agg startS.cells := hd.at 27 rfl
      have d28 : v 28 = Value.agg startS.cells := hd.at 28 rfl
      exact conf_valueR belR_kept (wantedY rfl rfl (congrArg some d26)) (by simp [go_sem, d26, d27, d28, EQ3.out]) rfl
    · have d26 : v 26 = Value.bool true := hd.at 26 rfl
      have d29 : v 29 = Value.bool true := hd.at 29 rfl
      exact conf_valueR belR_kept (wanted0 rfl) (by simp [go_sem, d26, d29]) rfl
    · have d30 : v 30 = Value.bool true := hd.at 30 rfl
      exact conf_valueR belR_kept (wanted0 rfl) (by simp [go_sem, d30]) rfl
  · intro v w' hb hr
    have d31 : v 31 = Value.bool true := hr 31 (by omega)
    simp only [List.take_succ_cons, List.take_zero, List.drop_succ_cons, List.drop_zero, putAll, Act.put, List.setIfInBounds_toArray, List.set_cons_succ, List.set_cons_zero]
    rw [d31]
    have b11 := bt BB.out hb
    clear hr hb d31
    go_wp2_with fail
    go_ret
    exact ⟨rfl, b11⟩
end Go.Proofs.YtalekcpdkfdmaaaDoor
