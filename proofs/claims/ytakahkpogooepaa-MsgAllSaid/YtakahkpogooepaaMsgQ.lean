/- msg.put: kind and numbers as bytes. -/
import Derived.Test.YtakahkpogooepaaMsgP
namespace Go.Proofs.Ytakahkpogooepaa
open Go.RowKit

/-- a field, as far as its bytes go: n is the number that its getter tells -/
structure AF where
  (sz lo hi : Int)
  (G S : Nat)
  gp : Value
  n : Int
def AF.cells (a : AF) : Array Value := #[.int .i64 a.sz, .int .i64 a.lo, .int .i64 a.hi, .func (.func a.G) #[] #[a.gp], .func (.func a.S) #[] #[a.gp]]
theorem AF.one (a : AF) : a.cells.all (·.oneCell') = true := by simp [AF.cells, Value.oneCell']
structure AF.ok (a : AF) : Prop where
  neg : a.lo < 0 → -32768 ≤ a.lo ∧ a.hi ≤ 32767
  pos : 0 ≤ a.lo → 1 ≤ a.sz ∧ a.sz ≤ 7 ∧ a.hi < 256 ^ a.sz.toNat
def outA (a : AF) : Option (List Int) := if a.n < a.lo then none else if a.hi < a.n then none else if a.lo < 0 then some (be (a.n % 65536) 2) else some (be a.n a.sz.toNat)
def outsA : List AF → Option (List Int)
  | [] => some []
  | a :: l => match outA a, outsA l with
    | some x, some y => some (x ++ y)
    | _, _ => none
theorem outsA_snoc (l : List AF) (a : AF) (x y : List Int) (h : outsA l = some x) (ha : outA a = some y) : outsA (l ++ [a]) = some (x ++ y) := by
  induction l generalizing x with
  | nil =>
    simp only [outsA, Option.some.injEq] at h
    subst h
    simp [outsA, ha]
  | cons b l ih =>
    simp only [outsA, List.cons_append] at h ⊢
    cases hb : outA b with
    | none => rw [hb] at h; cases h
    | some u =>
      rw [hb] at h
      cases hl : outsA l with
      | none => rw [hl] at h; cases h
      | some v =>
        rw [hl] at h
        simp only [Option.some.injEq] at h
        subst h
        rw [ih v hl]
        simp
theorem outsA_none (l : List AF) (a : AF) (hm : a ∈ l) (ha : outA a = none) : outsA l = none := by
  induction l with
  | nil => cases hm
  | cons b l ih =>
    rcases List.mem_cons.1 hm with h | h
    · subst h
      simp [outsA, ha]
    · simp only [outsA]
      rw [ih h]
      cases outA b <;> rfl
theorem outA_len (a : AF) (ok : a.ok) (bs : List Int) (h : outA a = some bs) : 1 ≤ bs.length ∧ bs.length ≤ 7 := by
  unfold outA at h
  split at h
  · cases h
  split at h
  · cases h
  split at h
  · injection h with h; subst h; rw [be_len]; omega
  · injection h with h; subst h; rw [be_len]
    have := ok.pos (by omega)
    omega
def BytesPost (a : AF) (w : World) (e : Ending) (w' : World) : Prop :=
  (match outA a with
   | none => e = .returned (.tuple #[.slice none 0 0, .bool false])
   | some bs => ∃ g, e = .returned (.tuple #[.slice (some ⟨g, 0, none⟩) bs.length bs.length, .bool true]) ∧ Row w' (some ⟨g, 0, none⟩) bs) ∧ Below w.heap.size w w'
theorem bytes_any (a : AF) (ok : a.ok) (w : World) (HG : Gets w a.G a.gp a.n) : Calls Try.prog 40 #[.agg a.cells] w (BytesPost a w) := by
  unfold BytesPost outA AF.cells
  by_cases h1 : a.n < a.lo
  · simp only [if_pos h1]
    exact bytes_low _ _ _ _ _ _ _ w HG h1
  by_cases h2 : a.hi < a.n
  · simp only [if_neg h1, if_pos h2]
    exact bytes_high _ _ _ _ _ _ _ w HG (by omega) h2
  by_cases h3 : a.lo < 0
  · simp only [if_neg h1, if_neg h2, if_pos h3, be_len]
    have := ok.neg h3
    exact (bytes_neg _ _ _ _ _ _ _ w HG (by omega) (by omega) h3 this.1 this.2).mono fun e w' ⟨g, he, hr, hb⟩ => ⟨⟨g, he, hr⟩, hb⟩
  · simp only [if_neg h1, if_neg h2, if_neg h3, be_len]
    have hp := ok.pos (by omega)
    obtain ⟨k, hk⟩ : ∃ k : Nat, a.sz = k := ⟨a.sz.toNat, by omega⟩
    have hk7 : k ≤ 7 := by omega
    have hn : a.n < 256 ^ k := by
      have := hp.2.2
      rw [hk, Int.toNat_natCast] at this
      omega
    rw [hk, Int.toNat_natCast]
    have hpw : (2 : Int) ^ (8 * k) = 256 ^ k := by rw [Int.pow_mul]; rfl
    have hh : a.hi ≤ 9223372036854775807 := by
      have h4 := hp.2.2
      rw [hk, Int.toNat_natCast] at h4
      have h5 : (256 : Int) ^ k ≤ 72057594037927936 := by
        have h6 : k = 0 ∨ k = 1 ∨ k = 2 ∨ k = 3 ∨ k = 4 ∨ k = 5 ∨ k = 6 ∨ k = 7 := by omega
        rcases h6 with rfl | rfl | rfl | rfl | rfl | rfl | rfl | rfl <;> decide
      omega
    exact (bytes_pos _ _ _ _ _ _ w HG k (by omega) (by omega) (by omega) (by omega) (by rw [hpw]; exact Int.ediv_eq_zero_of_lt (by omega) hn) hh).mono fun e w' ⟨g, he, hr, hb⟩ => ⟨⟨g, he, hr⟩, hb⟩
theorem own_one (w : World) (k : Int) (h0 : 0 ≤ k) (h1 : k ≤ 255) : Own (w.alloc (.cells #[.int .u8 k] 5)) w.heap.size (some ⟨w.heap.size, 0, none⟩) 1 [k] :=
  ⟨⟨rfl, .inr ⟨w.heap.size, 1, _, rfl, Nat.le_refl _, heap_alloc_new w _, by simp, by unfold maxLen; omega, rfl, rfl⟩⟩, fun x hx => by simp at hx; omega⟩
/-- the cells of a row of fields -/
def ACells (w : World) (gl : Nat) (fs : List AF) : Prop := ∀ i (h : i < fs.length) j, j < 5 → w.cell? ⟨gl, i * 5 + j, none⟩ = fs[i].cells[j]?
def PutPost (k : Int) (fs : List AF) (w : World) (e : Ending) (w' : World) : Prop :=
  (match outsA fs with
   | none => e = .returned (.tuple #[.slice none 0 0, .bool false])
   | some ps => ∃ A c, e = .returned (.tuple #[.slice A (1 + ps.length) c, .bool true]) ∧ Own w' w.heap.size A c (k :: ps)) ∧ Below w.heap.size w w'

set_option maxRecDepth 100000 in
set_option maxHeartbeats 1600000 in
theorem put_any (k : Int) (fs : List AF) (n gl cp : Nat) (hn : fs.length = n) (h100 : n ≤ 100) (k0 : 0 ≤ k) (k9 : k ≤ 255) (w : World) (hc : ∀ W, Below w.heap.size w W → ACells W gl fs) (hg : ∀ a ∈ fs, a.ok ∧ Gets w a.G a.gp a.n) :
    Calls Try.prog 23 #[.int .i64 k, .slice (some ⟨gl, 0, none⟩) n cp] w (PutPost k fs w) := by
  have HC := Lib.hid hc
  have HG := Lib.hid hg
  have HN := Lib.hid hn
  clear hc hg hn
  go_enter Try.func23, Try.ntmps23
  go_wp2_with fail
  have HO := Lib.hid (own_one w k k0 k9)
  have BB := Lib.hid (below_alloc1 w (.cells #[.int .u8 k] 5))
  generalize w.alloc (.cells #[.int .u8 k] 5) = w1 at *
  go_loopw [6, 16] (fun x y wr => ∃ (i : Nat) (A : Option Addr) (c m : Nat) (ps : List Int), i ≤ n ∧ y = .int .i64 i ∧ x = .slice A m c ∧ m = 1 + ps.length ∧ m ≤ 1 + 7 * i ∧ outsA (fs.take i) = some ps ∧ Own wr w.heap.size A c (k :: ps) ∧ Below w.heap.size w wr) (fun _ y _ => n - (intOf y).toNat)
  case atStart => exact ⟨0, _, 1, 1, [], by omega, rfl, rfl, rfl, by omega, rfl, HO.out, BB.out⟩
  case round =>
    obtain ⟨i, A, c, m, ps, hi, rfl, rfl, hm, hm7, hps, ho, hbb⟩ := hrel
    have l5 := hbb.size
    have HO2 := Lib.hid ho
    have BB := Lib.hid hbb
    have HPS := Lib.hid hps
    have HM := Lib.hid hm
    clear ho hbb hps hm
    by_cases hin : i < n
    · have hil : i < fs.length := by rw [HN.out]; exact hin
      have hcell := HC.out wr BB.out i hil
      have hmem := HG.out _ (List.getElem_mem hil)
      have htk : fs.take (i + 1) = fs.take i ++ [fs[i]'hil] := by rw [List.take_add_one, List.getElem?_eq_getElem hil]; rfl
      have hin2 := List.getElem_mem hil
      generalize fs[i]'hil = a at *
      obtain ⟨aok, aget⟩ := hmem
      have CB := Lib.hid (fun W hW => bytes_any a aok W (Gets.below aget hW))
      have OL := Lib.hid (outA_len a aok)
      have HT := Lib.hid htk
      have HI2 := Lib.hid hin2
      have hone := Lib.hid a.one
      have hsz : Hid (a.cells.size = 5) := Lib.hid rfl
      have hsp : Hid (a.cells = #[.int .i64 a.sz, .int .i64 a.lo, .int .i64 a.hi, .func (.func a.G) #[] #[a.gp], .func (.func a.S) #[] #[a.gp]]) := Lib.hid rfl
      have c0 := hcell 0 (by omega)
      have c1 := hcell 1 (by omega)
      have c2 := hcell 2 (by omega)
      have c3 := hcell 3 (by omega)
      have c4 := hcell 4 (by omega)
      simp only [AF.cells, Nat.add_zero] at c0 c1 c2 c3 c4
      clear hcell aok aget htk hin2
      have t1 : decide ((i : Int) < (n : Int)) = true := decide_eq_true (by omega)
      go_wp2_with ((with_reducible show wpList _ _ _ (⟨_, .alloc 57, _, _, _, none⟩ :: _) _ _); (with_reducible refine wpRow_alloc zeroT_fld ?_ ?_ ?_); (· exact wanted0 rfl); (· rfl); refine Marker.mk ?_)
      refine Marker.in ?_
      clear c0 c1 c2 c3 c4 t1
      have K5 := Lib.hid (Blk.new wr zfld 57)
      have b5 := Lib.hid (below_alloc1 wr (.cells zfld 57))
      generalize wr.alloc (.cells zfld 57) = w4 at *
      go_wp2_with ((with_reducible show wpList _ _ _ (⟨_, .store 57 _ _, _, _, _, none⟩ :: _) _ _); (with_reducible refine wpBlk_store (g := wr.heap.size) (cs := a.cells) agg_fld ?_ ?_ K5 ?_ ?_ ?_ ?_); (· exact wanted0 rfl); (· exact ⟨rfl, rfl, rfl⟩); (· rfl); (· exact hsz.out); (· exact hone.out); refine Marker.mk ?_)
      refine Marker.in ?_
      replace K5 := Lib.hid (K5.out.setRow a.cells)
      replace b5 := Lib.hid (below_setRow (g := wr.heap.size) b5.out (by omega) a.cells)
      generalize w4.setRow wr.heap.size a.cells = w5 at *
      replace HO2 := Lib.hid (own_below HO2.out b5.out)
      replace BB := Lib.hid (bt BB.out b5.out)
      have l6 := BB.out.size
      clear b5
      go_wp2_with ((with_reducible show wpList _ _ _ (⟨_, .load 57 _, _, _, _, none⟩ :: _) _ _); (with_reducible refine wpBlk_load (g := wr.heap.size) agg_fld ?_ ?_ K5 ?_ ?_); (· exact wanted0 rfl); (· exact ⟨rfl, rfl⟩); (· exact hsz.out))
      ((with_reducible refine (CB.out _ BB.out).mono ?_))
      rintro e w6 ⟨hpost, b6⟩
      clear K5
      replace HO2 := Lib.hid (own_below HO2.out b6)
      replace BB := Lib.hid (bt BB.out b6)
      have l7 := BB.out.size
      clear b6
      cases hout : outA a with
      | none =>
        have hnone := outsA_none fs a HI2.out hout
        rw [hout] at hpost
        obtain rfl := hpost
        clear hout
        go_wp2_with fail
        go_ret2
        unfold PutPost
        rw [hnone]
        exact ⟨rfl, BB.out⟩
      | some bs =>
        rw [hout] at hpost
        obtain ⟨g6, rfl, r6⟩ := hpost
        have hsn := outsA_snoc _ _ _ _ HPS.out hout
        rw [← HT.out] at hsn
        have hbl := OL.out bs hout
        have HSN := Lib.hid hsn
        have R6 := Lib.hid r6
        clear hsn hout r6
        generalize hbn : bs.length = bn at *
        replace hbn := Lib.hid hbn
        have lkp : (k :: ps).length = m := by have := HM.out; rw [List.length_cons]; omega
        replace lkp := Lib.hid lkp
        go_wp2_with ((with_reducible show wpList _ _ _ (⟨some 29, _, _, _, _, _⟩ :: _) _ _); (with_reducible refine wpList_append_bytes _ ?_ (.tmp 27) (.tmp 28) ?_ w.heap.size A c m (k :: ps) lkp.out ?_ HO2.out (some ⟨g6, 0, none⟩) bn bn bs hbn.out ?_ R6.out ?_ ?_ ?_); (· rfl); (· rfl); (· rfl); (· rfl); (· omega); (· omega); rintro A2 c2 w7 o7 b7; refine Marker.mk ?_)
        refine Marker.in ?_
        have O7 := Lib.hid o7
        replace BB := Lib.hid (BB.out.trans b7)
        clear o7 b7
        go_wp2_with fail
        refine ⟨⟨i + 1, A2, c2, m + bn, ps ++ bs, by omega, by simp, rfl, ?_, by omega, HSN.out, O7.out, BB.out⟩, by simp [intOf]; omega⟩
        have := HM.out
        rw [List.length_append, hbn.out]; omega
    · obtain rfl : i = n := by omega
      have hps := HPS.out
      rw [List.take_of_length_le (by rw [HN.out]; omega)] at hps
      replace hps := Lib.hid hps
      have t1 : decide ((i : Int) < (i : Int)) = false := decide_eq_false (by omega)
      go_wp2_with fail
      go_ret2
      unfold PutPost
      rw [hps.out]
      exact ⟨⟨A, c, by rw [HM.out]; rfl, HO2.out⟩, BB.out⟩
end Go.Proofs.Ytakahkpogooepaa
