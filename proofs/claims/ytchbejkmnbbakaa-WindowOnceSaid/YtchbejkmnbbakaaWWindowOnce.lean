/- The walk of WindowOnce. -/
import Derived.Test.YtchbejkmnbbakaaOnce
import Derived.Test.YtchbejkmnbbakaaAppI
import Derived.Test.YtchbejkmnbbakaaRowK
import Derived.Test.YtchbejkmnbbakaaWinC
import Derived.Test.YtchbejkmnbbakaaMinMax
namespace Go.Proofs.Ytchbejkmnbbakaa
open Go.RowKit

theorem agg_win : AggT Try.prog 39 3 := ⟨⟨_, Try.underlying39, rfl⟩, by kernel_rfl⟩
theorem wcells_size (v : Option (Nat × Nat)) : (wcells v).size = 3 := by rcases v with _ | ⟨h, s⟩ <;> rfl
theorem wcells_one (v : Option (Nat × Nat)) : (wcells v).all (·.oneCell') = true := by rcases v with _ | ⟨h, s⟩ <;> simp [wcells, Value.oneCell']
theorem zeroT_win : ZeroT Try.prog 39 (wcells none) := by
  intro ev o w ho
  unfold execOp
  simp only [ho]
  simp [go_sem]
  rfl
theorem neq_win_self (v : Option (Nat × Nat)) (W : World) : (binOp .neq 39 (.agg (wcells v)) (.agg (wcells v))).run Try.prog W = .ok (.bool false) W := by
  rcases v with _ | ⟨h, s⟩
  · have := run_neq_win false false 0 0 0 0 W
    simpa [wcells] using this
  · have := run_neq_win true true h h s s W
    simpa [wcells] using this
def ints (us : List Nat) : List Int := us.map (fun u : Nat => (u : Int))
theorem ints_len (us : List Nat) : (ints us).length = us.length := by simp [ints]
set_option maxRecDepth 100000 in
set_option maxHeartbeats 1600000 in
theorem walk_WindowOnce (v0 v1 : Value) (w : World) (q0 : IsRow .u16 w v0) (q1 : ∃ n : Int, v1 = .int .u32 n ∧ 0 ≤ n ∧ n ≤ 4294967295) :
    Calls Try.prog 4 #[v0, v1] w fun e w' => e = .returned (.bool true) ∧ Below w.heap.size w w' := by
  obtain ⟨A0, len, cap0, z, rfl, hlen, hrow⟩ := row_u16 q0
  obtain ⟨fr, rfl, f0, f1⟩ := q1
  have HROW := Lib.hid hrow
  have BB := Lib.hid (Below.refl w.heap.size w)
  clear hrow q0
  go_enter Try.func4, Try.ntmps4
  go_wp2_with fail
  ((with_reducible refine (shown10 _).mono ?_))
  rintro e w1 ⟨rfl, b1⟩
  replace BB := Lib.hid (bt BB.out b1)
  have l1 : w.heap.size ≤ w1.heap.size := b1.size
  clear b1
  go_wp2_with ((with_reducible show wpList _ _ _ (⟨_, .alloc 39, _, _, _, none⟩ :: _) _ _); (with_reducible refine wpRow_alloc zeroT_win ?_ ?_ ?_); (· exact wanted0 rfl); (· rfl); refine Marker.mk ?_)
  refine Marker.in ?_
  have bel := below_alloc1 w1 (.cells (wcells none) 39)
  replace BB := Lib.hid (bt BB.out bel)
  have KW := Lib.hid (Blk.new w1 (wcells none) 39)
  clear bel
  generalize w1.alloc (.cells (wcells none) 39) = w2 at *
  generalize w1.heap.size = gw at *
  go_wp2_with ((with_reducible show wpList _ _ _ (⟨_, .store 39 _ _, _, _, _, none⟩ :: _) _ _); (with_reducible refine wpBlk_store (g := gw) (cs := wcells none) agg_win ?_ ?_ KW ?_ ?_ ?_ ?_); (· exact wanted0 rfl); (· exact ⟨rfl, rfl, rfl⟩); (· rfl); (· rfl); (· exact wcells_one _); refine Marker.mk ?_)
  refine Marker.in ?_
  replace KW := Lib.hid (KW.out.setRow (wcells none))
  replace BB := Lib.hid (below_setRow (g := gw) BB.out (by omega) (wcells none))
  generalize w2.setRow gw (wcells none) = w3 at *
  have l3 := KW.out.lt
  go_wp2_with fail
  go_loopw [7, 8, 9] (fun u hi y wr => ∃ (i : Nat) (v : Option (Nat × Nat)) (us : List Nat) (A : Option Addr) (cap m : Nat), i ≤ len ∧ i ≤ 100 ∧ y = .int .i64 i ∧ u = .slice A m cap ∧ hi = .int .i64 (hiV v) ∧ us.length = m ∧ m ≤ i ∧ WInv us v ∧ (∀ x ∈ us, x ≤ 4294967295) ∧ OwnI wr w.heap.size A cap (ints us) ∧ Apart A gw ∧ Blk wr gw (wcells v) 39 ∧ Below w.heap.size w wr) (fun _ _ y _ => len - (intOf y).toNat)
  case atStart =>
    have bl := below_alloc1 w3 (.cells #[] 3)
    refine ⟨0, none, [], some ⟨w3.heap.size, 0, none⟩, 0, 0, Nat.zero_le _, Nat.zero_le _, rfl, rfl, rfl, rfl, Nat.le_refl _, rfl, fun x hx => by simp at hx, ownI_lit w3 _ (by omega), fun a ha => ?_, KW.out.below bl, bt BB.out bl⟩
    injection ha with ha
    subst ha
    show w3.heap.size ≠ gw
    omega
  case round =>
    clear KW BB
    obtain ⟨i, v, us, A, cap, m, hi, hi2, rfl, rfl, rfl, hum, hul, hinv, hub, hown, hap, KW, BB⟩ := hrel
    by_cases hlt : i < len ∧ i < 100
    · obtain ⟨hlt, h100⟩ := hlt
      obtain ⟨b, off, rfl, hb, hc, hz⟩ := HROW.out i hlt
      have hc' := (BB.cell (p := ⟨b, off + i, none⟩) (by simpa using hb)).trans hc
      obtain ⟨n, hn⟩ : ∃ n : Nat, min (fr + (z i : Int)) 4294967295 = (n : Int) := ⟨(min (fr + (z i : Int)) 4294967295).toNat, by omega⟩
      have hn2 : n ≤ 4294967295 := by omega
      clear hc
      have HOWN := Lib.hid hown
      replace hn := Lib.hid hn
      replace hinv := Lib.hid hinv
      replace hub := Lib.hid hub
      replace hap := Lib.hid hap
      replace KW := Lib.hid KW
      replace BB := Lib.hid BB
      have wz : IntKind.i64.wrap ((z i : Nat) : Int) = ((z i : Nat) : Int) := IntWalk.i64_in _ ⟨by omega, by omega⟩
      have ws : IntKind.i64.wrap (fr + ((z i : Nat) : Int)) = fr + ((z i : Nat) : Int) := IntWalk.i64_in _ ⟨by omega, by omega⟩
      generalize z i = zi at *
      clear hown
      have lgw : gw < wr.heap.size := KW.out.lt
      have t1 : decide ((i : Int) < (len : Int)) = true := decide_eq_true (by omega)
      have t2 : decide ((i : Int) < 100) = true := decide_eq_true (by omega)
      rcases v with _ | ⟨h, s⟩
      · obtain ⟨ST1, ST2, ST3⟩ := once_step n hinv.out
        have HOK := Lib.hid (once_ok hinv.out hub.out)
        obtain ⟨h', s', hsee⟩ := see_some none n
        have hhi := once_hi hinv.out hsee
        obtain ⟨f, hf⟩ : ∃ f, (wsee none n).2 = f := ⟨_, rfl⟩
        have S1 : ∀ W, Calls Try.prog 20 #[.agg (wcells none), .int .i64 (n : Int)] W fun e w' => e = .returned (.tuple #[.agg (wcells (some (h', s'))), .bool f]) ∧ Below W.heap.size W w' := by
          intro W
          have := see_any none n W HOK.out hn2
          rw [hsee, hf, wval_cells, wval_cells] at this
          exact this
        rw [hsee] at ST2 ST3
        rw [hf] at ST1 ST2 ST3
        have hhv : hiV none = -1 := rfl
        rw [hhv]
        have tF : true = fresh0 none n := rfl
        rw [hhv] at hhi
        generalize hF : fresh0 none n = F at tF
        have ST1' : f = (F && us.all fun u => u != n) := by rw [ST1, freshB, hF]
        subst tF
        clear ST1 hF hf hsee hhv
        replace S1 := Lib.hid S1
        replace ST1 := Lib.hid ST1'
        replace ST2 := Lib.hid ST2
        replace ST3 := Lib.hid ST3
        replace hhi := Lib.hid hhi
        clear ST1' HOK
        go_wp2_with ((with_reducible show wpList _ _ _ (⟨some 36, _, _, _, _, _⟩ :: _) _ _); go_loud (refine wpList_min (.tmp 35) (.const (.int .i64 4294967295)) #[3, 3] rfl rfl rfl rfl hn.out ?_))
        go_loop [11, 12] (fun x y => ∃ k : Nat, k ≤ m ∧ y = .int .i64 k ∧ x = .bool (true && (us.take k).all fun u => u != n)) (fun _ y => m - (intOf y).toNat)
        case atStart => exact ⟨0, Nat.zero_le _, rfl, by simp⟩
        case round =>
          obtain ⟨k, hk, rfl, rfl⟩ := hrel
          by_cases hkm : k < m
          · have tk : decide ((k : Int) < (m : Int)) = true := decide_eq_true (by omega)
            obtain ⟨g, rfl, -, hcell⟩ := HOWN.out.cell k (by rw [ints_len]; omega)
            have eu : (ints us)[k]'(by rw [ints_len]; omega) = ((us[k]'(by omega) : Nat) : Int) := by simp [ints]
            rw [eu] at hcell
            have ea := all_take us n k (by omega)
            have hu : us[k]'(by omega) ≤ 4294967295 := hub.out _ (List.getElem_mem _)
            generalize us[k]'(by omega) = u at *
            generalize hall : ((us.take k).all fun u => u != n) = bb at *
            replace ea := Lib.hid ea
            clear eu hall
            obtain ⟨B, hB⟩ : ∃ B, (true && bb) = B := ⟨_, rfl⟩
            rw [hB]
            replace hB := Lib.hid hB
            rcases B with _ | _
            · go_wp2_with fail
              exact ⟨⟨k + 1, by omega, by simp, by rw [ea.out, ← Bool.and_assoc, hB.out]; rfl⟩, by simp [intOf]; omega⟩
            · by_cases eun : u = n
              · subst eun
                go_wp2_with fail
                exact ⟨⟨k + 1, by omega, by simp, by rw [ea.out, ← Bool.and_assoc, hB.out]; simp⟩, by simp [intOf]; omega⟩
              · have tu : ¬ ((u : Int) = (n : Int)) := by omega
                go_wp2_with fail
                exact ⟨⟨k + 1, by omega, by simp, by rw [ea.out, ← Bool.and_assoc, hB.out]; simp [eun]; rw [Bool.eq_iff_iff]; simp only [bne_iff_ne]; omega⟩, by simp [intOf]; omega⟩
          · obtain rfl : k = m := by omega
            have tk : decide ((k : Int) < (k : Int)) = false := decide_eq_false (by omega)
            rw [List.take_of_length_le (by omega), ← ST1.out]
            clear hkm hk
            go_wp2_with ((with_reducible show wpList _ _ _ (⟨_, .load 39 _, _, _, _, none⟩ :: _) _ _); (with_reducible refine wpBlk_load (g := gw) agg_win ?_ ?_ KW ?_ ?_); (· exact wanted0 rfl); (· exact ⟨rfl, rfl⟩); (· exact wcells_size _))
            ((with_reducible refine (S1.out _).mono ?_))
            rintro e w5 ⟨rfl, b5⟩
            replace KW := Lib.hid (KW.out.below b5)
            replace HOWN := Lib.hid (ownI_below HOWN.out b5)
            replace BB := Lib.hid (bt BB.out b5)
            have l5 : gw < w5.heap.size := KW.out.lt
            have hap2 : Apart A w5.heap.size := fun a ha => Nat.ne_of_lt (HOWN.out.lt a ha).2
            clear b5 hc' S1
            go_wp2_with ((with_reducible show wpList _ _ _ (⟨_, .alloc 39, _, _, _, none⟩ :: _) _ _); (with_reducible refine wpRow_alloc zeroT_win ?_ ?_ ?_); (· exact wanted0 rfl); (· rfl); refine Marker.mk ?_)
            refine Marker.in ?_
            replace HOWN := Lib.hid (ownI_below HOWN.out (below_alloc1 w5 (.cells (wcells none) 39)))
            have bel := below_alloc1 w5 (.cells (wcells none) 39)
            replace KW := Lib.hid (KW.out.below bel)
            replace BB := Lib.hid (bt BB.out bel)
            have KV := Lib.hid (Blk.new w5 (wcells none) 39)
            clear bel
            generalize w5.alloc (.cells (wcells none) 39) = w6 at *
            generalize w5.heap.size = gv at *
            replace hap2 := Lib.hid hap2
            go_wp2_with ((with_reducible show wpList _ _ _ (⟨_, .store 39 _ _, _, _, _, none⟩ :: _) _ _); (with_reducible refine wpBlk_store (g := gv) (cs := wcells (some (h', s'))) agg_win ?_ ?_ KV ?_ ?_ ?_ ?_); (· exact wanted0 rfl); (· exact ⟨rfl, rfl, rfl⟩); (· rfl); (· rfl); (· exact wcells_one _); refine Marker.mk ?_)
            refine Marker.in ?_
            replace HOWN := Lib.hid (ownI_same (w' := w6.setRow gv (wcells (some (h', s')))) HOWN.out fun a ha => _root_.Go.setRow_other w6 gv a.block _ (hap2.out a ha))
            replace KW := Lib.hid (KW.out.setRow_other gv (wcells (some (h', s'))) (by omega))
            replace KV := Lib.hid (KV.out.setRow (wcells (some (h', s'))))
            replace BB := Lib.hid (below_setRow (g := gv) BB.out (by omega) (wcells (some (h', s'))))
            generalize w6.setRow gv (wcells (some (h', s'))) = w7 at *
            have nh : (0 : Int) ≤ (h' : Int) := by omega
            have th : decide ((0 : Int) ≤ (h' : Int)) = true := decide_eq_true nh
            rcases f with _ | _
            · exact absurd (ST3.out rfl) (by simp)
            · have hinv2 := Lib.hid (ST2.out rfl)
              have odd := once_odd hinv2.out
              clear ST1 ST2 ST3
              go_wp2_with (first | ((with_reducible show wpList _ _ _ (⟨_, .load 39 _, _, _, _, none⟩ :: _) _ _); (with_reducible refine wpBlk_load (g := gv) agg_win ?_ ?_ KV ?_ ?_); (· exact wanted0 rfl); (· exact ⟨rfl, rfl⟩); (· exact wcells_size _)) | ((with_reducible show wpList _ _ _ (⟨_, .store 39 _ _, _, _, _, none⟩ :: _) _ _); (with_reducible refine wpBlk_store (g := gw) (cs := wcells (some (h', s'))) agg_win ?_ ?_ KW ?_ ?_ ?_ ?_); (· exact wanted0 rfl); (· exact ⟨rfl, rfl, rfl⟩); (· rfl); (· rfl); (· exact wcells_one _); refine Marker.mk ?_))
              refine Marker.in ?_
              replace HOWN := Lib.hid (ownI_same (w' := w7.setRow gw (wcells (some (h', s')))) HOWN.out fun a ha => _root_.Go.setRow_other w7 gw a.block _ (hap.out a ha))
              replace KW := Lib.hid (KW.out.setRow (wcells (some (h', s'))))
              replace BB := Lib.hid (below_setRow (g := gw) BB.out (by omega) (wcells (some (h', s'))))
              generalize w7.setRow gw (wcells (some (h', s'))) = w8 at *
              clear KV
              have l8 : gw < w8.heap.size := KW.out.lt
              have z8 : w.heap.size ≤ w8.heap.size := BB.out.size
              have bl8 := Lib.hid (below_alloc1 w8 (.cells #[.int .i64 (n : Int)] 3))
              have cl8 : (w8.alloc (.cells #[.int .i64 (n : Int)] 3)).cell? ⟨w8.heap.size, 0, none⟩ = some (.int .i64 (n : Int)) := (blk_cells (heap_alloc_new w8 _)).1 0
              replace cl8 := Lib.hid cl8
              go_wp2_with (at_builtin; go_loud (refine wpList_append_int _ rfl (.tmp 80) (.tmp 82) rfl w.heap.size A cap k (ints us) (by rw [ints_len]; exact hum) rfl (ownI_below HOWN.out bl8.out) ⟨w8.heap.size, 0, none⟩ 1 (n : Int) rfl cl8.out (by omega) (Nat.le_trans z8 bl8.out.size) ?_); intro A1 cap1 w9 o9 b9 k9; refine Marker.mk ?_)
              refine Marker.in ?_
              obtain ⟨hg9, hap9⟩ := k9 gw (Nat.lt_of_lt_of_le l8 bl8.out.size) hap.out
              have KW9 : Blk w9 gw (wcells (some (h', s'))) 39 := hg9.trans (KW.out.below bl8.out)
              replace BB := Lib.hid ((bt BB.out bl8.out).trans b9)
              have cw := (blk_cells KW9).1
              simp only [wcells] at cw
              replace KW := Lib.hid KW9
              have o9' : OwnI w9 w.heap.size A1 cap1 (ints (us ++ [n])) := by simpa [ints] using o9
              replace o9 := Lib.hid o9'
              replace hap := Lib.hid hap9
              clear KW9 o9' hap9 HOWN hg9 k9 b9 cl8 bl8 hap2 l8 z8
              go_wp2_with ((with_reducible show wpList _ _ _ (⟨some 86, _, _, _, _, _⟩ :: _) _ _); go_loud (refine wpList_max (.tmp 84) (.tmp 85) #[3, 3] rfl rfl rfl rfl hhi.out.symm ?_))
              exact ⟨⟨i + 1, some (h', s'), us ++ [n], A1, cap1, k + 1, by omega, by omega, by simp, rfl, rfl, by simp [hum], by omega, hinv2.out, fun x hx => by rcases List.mem_append.1 hx with hx | hx; (· exact hub.out x hx); (· rw [List.mem_singleton.1 hx]; exact hn2), o9.out, hap.out, KW.out, BB.out⟩, by simp [intOf]; omega⟩
      · obtain ⟨ST1, ST2, ST3⟩ := once_step n hinv.out
        have HOK := Lib.hid (once_ok hinv.out hub.out)
        obtain ⟨h', s', hsee⟩ := see_some (some (h, s)) n
        have hhi := once_hi hinv.out hsee
        obtain ⟨f, hf⟩ : ∃ f, (wsee (some (h, s)) n).2 = f := ⟨_, rfl⟩
        have S1 : ∀ W, Calls Try.prog 20 #[.agg (wcells (some (h, s))), .int .i64 (n : Int)] W fun e w' => e = .returned (.tuple #[.agg (wcells (some (h', s'))), .bool f]) ∧ Below W.heap.size W w' := by
          intro W
          have := see_any (some (h, s)) n W HOK.out hn2
          rw [hsee, hf, wval_cells, wval_cells] at this
          exact this
        rw [hsee] at ST2 ST3
        rw [hf] at ST1 ST2 ST3
        have hh1 : h ≤ 4294967295 := HOK.out.1
        have tH : decide ((h : Int) < 0) = false := decide_eq_false (by omega)
        have w64 : IntKind.i64.wrap ((h : Int) - 64) = (h : Int) - 64 := IntWalk.i64_in _ ⟨by omega, by omega⟩
        have hhv : hiV (some (h, s)) = (h : Int) := rfl
        rw [hhv]
        have tF : decide ((h : Int) - 64 < (n : Int)) = fresh0 (some (h, s)) n := rfl
        rw [hhv] at hhi
        generalize hF : fresh0 (some (h, s)) n = F at tF
        have ST1' : f = (F && us.all fun u => u != n) := by rw [ST1, freshB, hF]
        clear ST1 hF hf hsee hhv
        replace S1 := Lib.hid S1
        replace ST1 := Lib.hid ST1'
        replace ST2 := Lib.hid ST2
        replace ST3 := Lib.hid ST3
        replace hhi := Lib.hid hhi
        clear ST1' HOK
        go_wp2_with ((with_reducible show wpList _ _ _ (⟨some 36, _, _, _, _, _⟩ :: _) _ _); go_loud (refine wpList_min (.tmp 35) (.const (.int .i64 4294967295)) #[3, 3] rfl rfl rfl rfl hn.out ?_))
        go_loop [11, 12] (fun x y => ∃ k : Nat, k ≤ m ∧ y = .int .i64 k ∧ x = .bool (F && (us.take k).all fun u => u != n)) (fun _ y => m - (intOf y).toNat)
        case atStart => exact ⟨0, Nat.zero_le _, rfl, by simp⟩
        case round =>
          obtain ⟨k, hk, rfl, rfl⟩ := hrel
          by_cases hkm : k < m
          · have tk : decide ((k : Int) < (m : Int)) = true := decide_eq_true (by omega)
            obtain ⟨g, rfl, -, hcell⟩ := HOWN.out.cell k (by rw [ints_len]; omega)
            have eu : (ints us)[k]'(by rw [ints_len]; omega) = ((us[k]'(by omega) : Nat) : Int) := by simp [ints]
            rw [eu] at hcell
            have ea := all_take us n k (by omega)
            have hu : us[k]'(by omega) ≤ 4294967295 := hub.out _ (List.getElem_mem _)
            generalize us[k]'(by omega) = u at *
            generalize hall : ((us.take k).all fun u => u != n) = bb at *
            replace ea := Lib.hid ea
            clear eu hall
            obtain ⟨B, hB⟩ : ∃ B, (F && bb) = B := ⟨_, rfl⟩
            rw [hB]
            replace hB := Lib.hid hB
            rcases B with _ | _
            · go_wp2_with fail
              exact ⟨⟨k + 1, by omega, by simp, by rw [ea.out, ← Bool.and_assoc, hB.out]; rfl⟩, by simp [intOf]; omega⟩
            · by_cases eun : u = n
              · subst eun
                go_wp2_with fail
                exact ⟨⟨k + 1, by omega, by simp, by rw [ea.out, ← Bool.and_assoc, hB.out]; simp⟩, by simp [intOf]; omega⟩
              · have tu : ¬ ((u : Int) = (n : Int)) := by omega
                go_wp2_with fail
                exact ⟨⟨k + 1, by omega, by simp, by rw [ea.out, ← Bool.and_assoc, hB.out]; simp [eun]; rw [Bool.eq_iff_iff]; simp only [bne_iff_ne]; omega⟩, by simp [intOf]; omega⟩
          · obtain rfl : k = m := by omega
            have tk : decide ((k : Int) < (k : Int)) = false := decide_eq_false (by omega)
            rw [List.take_of_length_le (by omega), ← ST1.out]
            clear hkm hk tF
            go_wp2_with ((with_reducible show wpList _ _ _ (⟨_, .load 39 _, _, _, _, none⟩ :: _) _ _); (with_reducible refine wpBlk_load (g := gw) agg_win ?_ ?_ KW ?_ ?_); (· exact wanted0 rfl); (· exact ⟨rfl, rfl⟩); (· exact wcells_size _))
            ((with_reducible refine (S1.out _).mono ?_))
            rintro e w5 ⟨rfl, b5⟩
            replace KW := Lib.hid (KW.out.below b5)
            replace HOWN := Lib.hid (ownI_below HOWN.out b5)
            replace BB := Lib.hid (bt BB.out b5)
            have l5 : gw < w5.heap.size := KW.out.lt
            have hap2 : Apart A w5.heap.size := fun a ha => Nat.ne_of_lt (HOWN.out.lt a ha).2
            clear b5 hc' S1
            go_wp2_with ((with_reducible show wpList _ _ _ (⟨_, .alloc 39, _, _, _, none⟩ :: _) _ _); (with_reducible refine wpRow_alloc zeroT_win ?_ ?_ ?_); (· exact wanted0 rfl); (· rfl); refine Marker.mk ?_)
            refine Marker.in ?_
            replace HOWN := Lib.hid (ownI_below HOWN.out (below_alloc1 w5 (.cells (wcells none) 39)))
            have bel := below_alloc1 w5 (.cells (wcells none) 39)
            replace KW := Lib.hid (KW.out.below bel)
            replace BB := Lib.hid (bt BB.out bel)
            have KV := Lib.hid (Blk.new w5 (wcells none) 39)
            clear bel
            generalize w5.alloc (.cells (wcells none) 39) = w6 at *
            generalize w5.heap.size = gv at *
            replace hap2 := Lib.hid hap2
            go_wp2_with ((with_reducible show wpList _ _ _ (⟨_, .store 39 _ _, _, _, _, none⟩ :: _) _ _); (with_reducible refine wpBlk_store (g := gv) (cs := wcells (some (h', s'))) agg_win ?_ ?_ KV ?_ ?_ ?_ ?_); (· exact wanted0 rfl); (· exact ⟨rfl, rfl, rfl⟩); (· rfl); (· rfl); (· exact wcells_one _); refine Marker.mk ?_)
            refine Marker.in ?_
            replace HOWN := Lib.hid (ownI_same (w' := w6.setRow gv (wcells (some (h', s')))) HOWN.out fun a ha => _root_.Go.setRow_other w6 gv a.block _ (hap2.out a ha))
            replace KW := Lib.hid (KW.out.setRow_other gv (wcells (some (h', s'))) (by omega))
            replace KV := Lib.hid (KV.out.setRow (wcells (some (h', s'))))
            replace BB := Lib.hid (below_setRow (g := gv) BB.out (by omega) (wcells (some (h', s'))))
            generalize w6.setRow gv (wcells (some (h', s'))) = w7 at *
            have nh : (0 : Int) ≤ (h' : Int) := by omega
            have th : decide ((0 : Int) ≤ (h' : Int)) = true := decide_eq_true nh
            rcases f with _ | _
            · have e3 := ST3.out rfl
              obtain ⟨rfl, rfl⟩ : h' = h ∧ s' = s := by simpa using e3
              have NQ := neq_win_self (some (h', s')) w7
              have cw := (blk_cells KW.out).1
              have cv := (blk_cells KV.out).1
              have odd := once_odd hinv.out
              clear e3 ST1 ST2 ST3
              simp only [wcells] at NQ cw cv
              replace KV := Lib.hid KV.out
              go_wp2_with (first | ((with_reducible show wpList _ _ _ (⟨_, .store 39 _ _, _, _, _, none⟩ :: _) _ _); (with_reducible refine wpBlk_store (g := gw) (cs := wcells (some (h', s'))) agg_win ?_ ?_ KW ?_ ?_ ?_ ?_); (· exact wanted0 rfl); (· exact ⟨rfl, rfl, rfl⟩); (· rfl); (· rfl); (· exact wcells_one _); refine Marker.mk ?_))
              refine Marker.in ?_
              clear cw cv NQ
              replace HOWN := Lib.hid (ownI_same (w' := w7.setRow gw (wcells (some (h', s')))) HOWN.out fun a ha => _root_.Go.setRow_other w7 gw a.block _ (hap.out a ha))
              replace KW := Lib.hid (KW.out.setRow (wcells (some (h', s'))))
              replace BB := Lib.hid (below_setRow (g := gw) BB.out (by omega) (wcells (some (h', s'))))
              generalize w7.setRow gw (wcells (some (h', s'))) = w8 at *
              have cw := (blk_cells KW.out).1
              simp only [wcells] at cw
              go_wp2_with fail
              exact ⟨⟨i + 1, some (h', s'), us, A, cap, k, by omega, by omega, by simp, rfl, rfl, hum, by omega, hinv.out, hub.out, HOWN.out, hap.out, KW.out, BB.out⟩, by simp [intOf]; omega⟩
            · have hinv2 := Lib.hid (ST2.out rfl)
              have odd := once_odd hinv2.out
              clear ST1 ST2 ST3
              go_wp2_with (first | ((with_reducible show wpList _ _ _ (⟨_, .load 39 _, _, _, _, none⟩ :: _) _ _); (with_reducible refine wpBlk_load (g := gv) agg_win ?_ ?_ KV ?_ ?_); (· exact wanted0 rfl); (· exact ⟨rfl, rfl⟩); (· exact wcells_size _)) | ((with_reducible show wpList _ _ _ (⟨_, .store 39 _ _, _, _, _, none⟩ :: _) _ _); (with_reducible refine wpBlk_store (g := gw) (cs := wcells (some (h', s'))) agg_win ?_ ?_ KW ?_ ?_ ?_ ?_); (· exact wanted0 rfl); (· exact ⟨rfl, rfl, rfl⟩); (· rfl); (· rfl); (· exact wcells_one _); refine Marker.mk ?_))
              refine Marker.in ?_
              replace HOWN := Lib.hid (ownI_same (w' := w7.setRow gw (wcells (some (h', s')))) HOWN.out fun a ha => _root_.Go.setRow_other w7 gw a.block _ (hap.out a ha))
              replace KW := Lib.hid (KW.out.setRow (wcells (some (h', s'))))
              replace BB := Lib.hid (below_setRow (g := gw) BB.out (by omega) (wcells (some (h', s'))))
              generalize w7.setRow gw (wcells (some (h', s'))) = w8 at *
              clear KV
              have l8 : gw < w8.heap.size := KW.out.lt
              have z8 : w.heap.size ≤ w8.heap.size := BB.out.size
              have bl8 := Lib.hid (below_alloc1 w8 (.cells #[.int .i64 (n : Int)] 3))
              have cl8 : (w8.alloc (.cells #[.int .i64 (n : Int)] 3)).cell? ⟨w8.heap.size, 0, none⟩ = some (.int .i64 (n : Int)) := (blk_cells (heap_alloc_new w8 _)).1 0
              replace cl8 := Lib.hid cl8
              go_wp2_with (at_builtin; go_loud (refine wpList_append_int _ rfl (.tmp 80) (.tmp 82) rfl w.heap.size A cap k (ints us) (by rw [ints_len]; exact hum) rfl (ownI_below HOWN.out bl8.out) ⟨w8.heap.size, 0, none⟩ 1 (n : Int) rfl cl8.out (by omega) (Nat.le_trans z8 bl8.out.size) ?_); intro A1 cap1 w9 o9 b9 k9; refine Marker.mk ?_)
              refine Marker.in ?_
              obtain ⟨hg9, hap9⟩ := k9 gw (Nat.lt_of_lt_of_le l8 bl8.out.size) hap.out
              have KW9 : Blk w9 gw (wcells (some (h', s'))) 39 := hg9.trans (KW.out.below bl8.out)
              replace BB := Lib.hid ((bt BB.out bl8.out).trans b9)
              have cw := (blk_cells KW9).1
              simp only [wcells] at cw
              replace KW := Lib.hid KW9
              have o9' : OwnI w9 w.heap.size A1 cap1 (ints (us ++ [n])) := by simpa [ints] using o9
              replace o9 := Lib.hid o9'
              replace hap := Lib.hid hap9
              clear KW9 o9' hap9 HOWN hg9 k9 b9 cl8 bl8 hap2 l8 z8
              go_wp2_with ((with_reducible show wpList _ _ _ (⟨some 86, _, _, _, _, _⟩ :: _) _ _); go_loud (refine wpList_max (.tmp 84) (.tmp 85) #[3, 3] rfl rfl rfl rfl hhi.out.symm ?_))
              exact ⟨⟨i + 1, some (h', s'), us ++ [n], A1, cap1, k + 1, by omega, by omega, by simp, rfl, rfl, by simp [hum], by omega, hinv2.out, fun x hx => by rcases List.mem_append.1 hx with hx | hx; (· exact hub.out x hx); (· rw [List.mem_singleton.1 hx]; exact hn2), o9.out, hap.out, KW.out, BB.out⟩, by simp [intOf]; omega⟩
    · replace BB := Lib.hid BB
      have ht : ¬ ((i : Int) < (len : Int)) ∨ ((i : Int) < (len : Int)) ∧ ¬ ((i : Int) < 100) := by omega
      clear KW hown hap hinv hub hlt
      rcases ht with ht | ⟨ht, ht'⟩
      · go_wp2_with fail
        go_ret
        exact ⟨rfl, BB.out⟩
      · go_wp2_with fail
        go_ret
        exact ⟨rfl, BB.out⟩
end Go.Proofs.Ytchbejkmnbbakaa
