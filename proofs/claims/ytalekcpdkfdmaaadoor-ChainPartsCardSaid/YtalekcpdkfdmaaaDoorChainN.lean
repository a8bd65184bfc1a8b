/- chain.Next. -/
import Derived.Test.YtalekcpdkfdmaaaDoorChainL
import Derived.Test.YtalekcpdkfdmaaaDoorAppB
import Derived.ArgAppend
namespace Go.Proofs.YtalekcpdkfdmaaaDoor
open Go.RowKit

/-- append onto a slice that is full -/
theorem run_append_full (w : World) (g : Nat) (xs : List Int) (hr0 : Row w (some ⟨g, 0, none⟩) xs) (g' c : Nat) (ys : List Int) (hr : Row w (some ⟨g', 0, none⟩) ys) (hpos : 0 < ys.length) (hsmall : xs.length + ys.length ≤ 1000000000) (ty : TypeId) :
    ∃ A' cap' w', (Builtin.append_ #[22, 22] ty #[.slice (some ⟨g, 0, none⟩) xs.length xs.length, .slice (some ⟨g', 0, none⟩) ys.length c]).run Tryd.prog w = .ok (.slice A' (xs.length + ys.length) cap') w' ∧
      Own w' w.heap.size A' cap' (xs ++ ys) ∧ Below w.heap.size w w' := by
  obtain ⟨i0, hi, hz0, hz1, hz2⟩ := info_parts info_u8
  have cells : ∀ (g : Nat) (l : List Int), Row w (some ⟨g, 0, none⟩) l → ∀ (j : Nat) u, (l.map (Value.int .u8))[j]? = some u → w.cell? ((⟨g, 0, none⟩ : Addr).add j) = some u := by
    intro g l hl j u hu
    have hj : j < l.length := by
      rcases Nat.lt_or_ge j l.length with h | h
      · exact h
      · rw [List.getElem?_eq_none (by simpa using h)] at hu; cases hu
    rcases hl.1 with h | ⟨b, off, h, hc⟩
    · subst h; simp at hj
    · injection h with h
      have e : ((⟨g, 0, none⟩ : Addr)).add j = ⟨b, off + j, none⟩ := by rw [h]; unfold Addr.add; split <;> simp_all
      rw [e, hc j hj]
      simpa [hj] using hu
  have hbb : ∀ x ∈ xs ++ ys, 0 ≤ x ∧ x ≤ 255 := by
    intro x hx
    rcases List.mem_append.1 hx with h | h
    · exact hr0.2 x h
    · exact hr.2 x h
  obtain ⟨v', w', hrun, h2, h3⟩ := run_append_arg_grows (P := Tryd.prog) w 22 ty 5 i0 (.int .u8 0) 1 1 Tryd.underlying22 hi hz0 hz1 hz2 rfl (by omega) ⟨g, 0, none⟩ xs.length xs.length (xs.map (Value.int .u8)) (by simp) (cells g xs hr0) ⟨g', 0, none⟩ ys.length c (ys.map (Value.int .u8)) (by simp) (cells g' ys hr) (by omega) (by unfold maxLen; omega) (by omega)
  have hbel : Below w.heap.size w w' := (Below.refl _ _).grown h3 (Nat.le_refl _) (fun k hk => by cases hk)
  rcases h2.2 with ⟨hv, hn⟩ | ⟨g2, cap', cur, hv, hrest⟩
  · omega
  · refine ⟨some ⟨g2, 0, none⟩, cap', w', by rw [hrun, hv], ⟨?_, hbb⟩, hbel⟩
    rw [hv] at h2
    rw [List.length_append, List.map_append]
    exact h2
theorem wpList_append_full {ops : Array Oper} {rest : List Oper} {o : Oper} {a : Act} {Q : Exit → Act → World → Prop} (w : World) (hgd : Region.wanted o (yielded ops a.tmps) = true) (s x : Operand)
    (ho : o.op = .call { callee := .builtin .append, args := #[s, x], argTypes := #[22, 22] })
    (g n : Nat) (xs : List Int) (hn : xs.length = n) (hs : a.eval s = .slice (some ⟨g, 0, none⟩) n n) (hr0 : Row w (some ⟨g, 0, none⟩) xs)
    (g' c m : Nat) (ys : List Int) (hm : ys.length = m) (hx : a.eval x = .slice (some ⟨g', 0, none⟩) m c) (hr : Row w (some ⟨g', 0, none⟩) ys)
    (hpos : 0 < m) (hsmall : n + m ≤ 1000000000)
    (h : ∀ A' cap' w', Own w' w.heap.size A' cap' (xs ++ ys) → Below w.heap.size w w' → wpList Tryd.prog ops Q rest (a.put o.dst (.slice A' (n + m) cap')) w') : wpList Tryd.prog ops Q (o :: rest) a w := by
  subst hn hm
  obtain ⟨A', cap', w', hrun, hown, hbel⟩ := run_append_full w g xs hr0 g' c ys hr hpos hsmall o.type
  refine wpRow_run hgd (v := .slice A' (xs.length + ys.length) cap') (w' := w') ?_ (h _ _ _ hown hbel)
  unfold execOp
  simp only [ho, resolve, invoke, builtin, Sem.run_bind, Sem.run_pure, Result.andThen_ok, List.map_toArray, List.map_cons, List.map_nil, hs, hx, hrun]

set_option maxRecDepth 100000 in
set_option maxHeartbeats 800000 in
theorem next_any (hd : List Int) (k s q e c h : Int) (hl : hd.length = 32) (hb : ∀ x ∈ hd, 0 ≤ x ∧ x ≤ 255) (w : World) (hR : Roots w) :
    Calls Tryd.prog 34 #[.agg (u8V hd), .agg #[.int .i64 k, .int .i64 s, .int .i64 q, .int .i64 e, .int .i64 c, .int .i64 h]] w fun e' w' => e' = .returned (.agg (u8V (sha (hd ++ recB k s q e c h)))) ∧ Below w.heap.size w w' := by
  have RT := Lib.hid hR
  have HL := Lib.hid hl
  have HB := Lib.hid hb
  have CR := fun W : World => rec_any k s q e c h W
  have RL := recB_len k s q e c h
  have RB := recB_bytes k s q e c h
  generalize recB k s q e c h = rb at *
  replace RL := Lib.hid RL
  replace RB := Lib.hid RB
  replace CR := Lib.hid CR
  clear hl hb hR
  have CS := fun (A : Option Addr) (cp : Nat) (W : World) (hr : Row W A (hd ++ rb)) (hb : Below w.heap.size w W) => sum_any A (hd ++ rb) 42 cp W (by rw [List.length_append, HL.out, RL.out]) hr (by omega) (RT.out.below hb)
  have AL := sha_len (hd ++ rb)
  generalize sha (hd ++ rb) = ans at *
  replace AL := Lib.hid AL
  replace CS := Lib.hid CS
  go_enter Tryd.func34, Tryd.ntmps34
  go_wp2_with ((with_reducible show wpList _ _ _ (⟨_, .alloc 28, _, _, _, none⟩ :: _) _ _); (with_reducible refine wpRow_alloc zeroT_b32 ?_ ?_ ?_); (· exact wanted0 rfl); (· rfl); refine Marker.mk ?_)
  refine Marker.in ?_
  have K2 := Lib.hid (((Blk.new w (u8V hd) 28).alloc (.cells #[.int .i64 k, .int .i64 s, .int .i64 q, .int .i64 e, .int .i64 c, .int .i64 h] 48)).alloc (.cells (u8V (zeros 32)) 28))
  have K3 := Lib.hid ((Blk.new' (w.alloc (.cells (u8V hd) 28)) #[.int .i64 k, .int .i64 s, .int .i64 q, .int .i64 e, .int .i64 c, .int .i64 h] 48 (g := w.heap.size + 1) (by simp)).alloc (.cells (u8V (zeros 32)) 28))
  have K4 := Lib.hid (Blk.new' ((w.alloc (.cells (u8V hd) 28)).alloc (.cells #[.int .i64 k, .int .i64 s, .int .i64 q, .int .i64 e, .int .i64 c, .int .i64 h] 48)) (u8V (zeros 32)) 28 (g := w.heap.size + 1 + 1) (by simp))
  have BB := Lib.hid (below_alloc3 w (.cells (u8V hd) 28) (.cells #[.int .i64 k, .int .i64 s, .int .i64 q, .int .i64 e, .int .i64 c, .int .i64 h] 48) (.cells (u8V (zeros 32)) 28))
  generalize ((w.alloc (.cells (u8V hd) 28)).alloc (.cells #[.int .i64 k, .int .i64 s, .int .i64 q, .int .i64 e, .int .i64 c, .int .i64 h] 48)).alloc (.cells (u8V (zeros 32)) 28) = w1 at *
  obtain ⟨g3, hg3⟩ : ∃ g, w.heap.size + 1 = g := ⟨_, rfl⟩
  rw [hg3] at K3 K4
  simp only [hg3]
  obtain ⟨g4, hg4⟩ : ∃ g, g3 + 1 = g := ⟨_, rfl⟩
  rw [hg4] at K4
  simp only [hg4]
  have lo4 : w.heap.size < g4 := by omega
  clear hg3 hg4
  go_wp2_with ((with_reducible show wpList _ _ _ (⟨_, .load 48 _, _, _, _, none⟩ :: _) _ _); (with_reducible refine wpBlk_load (g := g3) agg_rec ?_ ?_ K3 ?_ ?_); (· exact wanted0 rfl); (· exact ⟨rfl, rfl⟩); (· rfl))
  ((with_reducible refine (CR.out _).mono ?_))
  rintro e' w2 ⟨rfl, b2⟩
  clear CR K3
  replace K2 := Lib.hid (K2.out.below b2)
  replace K4 := Lib.hid (K4.out.below b2)
  replace BB := Lib.hid (bt BB.out b2)
  clear b2
  have l4 := K4.out.lt
  go_wp2_with ((with_reducible show wpList _ _ _ (⟨_, .alloc 44, _, _, _, none⟩ :: _) _ _); (with_reducible refine wpRow_alloc zeroT_b10 ?_ ?_ ?_); (· exact wanted0 rfl); (· rfl); refine Marker.mk ?_)
  refine Marker.in ?_
  have bel := below_alloc1 w2 (.cells (u8V (zeros 10)) 44)
  replace K2 := Lib.hid (K2.out.below bel)
  replace K4 := Lib.hid (K4.out.below bel)
  replace BB := Lib.hid (bt BB.out bel)
  have K5 := Lib.hid (Blk.new w2 (u8V (zeros 10)) 44)
  clear bel
  generalize w2.alloc (.cells (u8V (zeros 10)) 44) = w3 at *
  generalize w2.heap.size = g5 at *
  go_wp2_with ((with_reducible show wpList _ _ _ (⟨_, .store 44 _ _, _, _, _, none⟩ :: _) _ _); (with_reducible refine wpBlk_store (g := g5) (cs := u8V rb) agg_b10 ?_ ?_ K5 ?_ ?_ ?_ ?_); (· exact wanted0 rfl); (· exact ⟨rfl, rfl, rfl⟩); (· rw [u8V_size, zeros_len]); (· rw [u8V_size, RL.out]); (· exact u8V_one _); refine Marker.mk ?_)
  refine Marker.in ?_
  replace K2 := Lib.hid (K2.out.setRow_other g5 (u8V rb) (by omega))
  replace K4 := Lib.hid (K4.out.setRow_other g5 (u8V rb) (by omega))
  replace K5 := Lib.hid (K5.out.setRow (u8V rb))
  replace BB := Lib.hid (below_setRow (g := g5) BB.out (by omega) (u8V rb))
  generalize w3.setRow g5 (u8V rb) = w4 at *
  go_wp2_with fail
  refine wp_region_qt' 2 (by kernel_rfl) (by kernel_rfl) ?_
  simp only [List.take_succ_cons, List.take_zero, List.drop_succ_cons, List.drop_zero]
  repeat (go_big_quiet_step (fail))
  refine wpQuiet_nil ?_
  intro _ hw'
  obtain ⟨nq, rfl⟩ := hw'
  replace BB := Lib.hid (below_drewN BB.out nq)
  replace K2 := Lib.hid (K2.out.drewN nq)
  replace K4 := Lib.hid (K4.out.drewN nq)
  replace K5 := Lib.hid (K5.out.drewN nq)
  generalize w4.drewN nq = w5 at *
  have r2 := Lib.hid (u8V_row K2.out HB.out)
  have r5 := Lib.hid (u8V_row K5.out RB.out)
  (with_reducible refine wpList_append_full _ ?_ (.tmp 8) (.tmp 9) rfl w.heap.size 32 hd HL.out ?_ r2.out g5 10 10 rb RL.out ?_ r5.out (by omega) (by omega) ?_)
  · exact wanted0 rfl
  · rfl
  · rfl
  intro A1 cap1 w6 o6 b6
  have r6 := Lib.hid o6.row
  clear r2 r5 o6 K2 K5
  replace K4 := Lib.hid (K4.out.below b6)
  replace BB := Lib.hid (bt BB.out b6)
  clear b6
  go_wp2_with fail
  ((with_reducible refine (CS.out _ _ _ r6.out BB.out).mono ?_))
  rintro e' w7 ⟨rfl, b7⟩
  replace K4 := Lib.hid (K4.out.below b7)
  replace BB := Lib.hid (bt BB.out b7)
  clear b7 r6 CS
  go_wp2_with ((with_reducible show wpList _ _ _ (⟨_, .store 28 _ _, _, _, _, none⟩ :: _) _ _); (with_reducible refine wpBlk_store (g := g4) (cs := u8V ans) agg_b32 ?_ ?_ K4 ?_ ?_ ?_ ?_); (· exact wanted0 rfl); (· exact ⟨rfl, rfl, rfl⟩); (· rw [u8V_size, zeros_len]); (· rw [u8V_size, AL.out]); (· exact u8V_one _); refine Marker.mk ?_)
  refine Marker.in ?_
  go_wp2_with fail
  refine bodyPost_ret (v := .agg (u8V ans)) (results_blk agg_b32 rfl _ _ g4 _ rfl (K4.out.setRow _) (by rw [u8V_size, AL.out])) rfl ⟨rfl, below_setRow BB.out (by omega) _⟩
end Go.Proofs.YtalekcpdkfdmaaaDoor
