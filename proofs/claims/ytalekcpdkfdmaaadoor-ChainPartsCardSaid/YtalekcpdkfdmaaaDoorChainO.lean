/- chain.Of. -/
import Derived.Test.YtalekcpdkfdmaaaDoorChainN
namespace Go.Proofs.YtalekcpdkfdmaaaDoor
open Go.RowKit

structure Rec where
  (k s q e c h : Int)
def Rec.cells (r : Rec) : Array Value := #[.int .i64 r.k, .int .i64 r.s, .int .i64 r.q, .int .i64 r.e, .int .i64 r.c, .int .i64 r.h]
def Rec.bytes (r : Rec) : List Int := recB r.k r.s r.q r.e r.c r.h
theorem Rec.one (r : Rec) : r.cells.all (·.oneCell') = true := by simp [Rec.cells, Value.oneCell']
/-- the head of records, from a head on -/
def headOf (h : List Int) (rs : List Rec) : List Int := rs.foldl (fun h r => sha (h ++ r.bytes)) h
theorem headOf_len (h : List Int) (rs : List Rec) (hl : h.length = 32) : (headOf h rs).length = 32 := by
  induction rs generalizing h with
  | nil => exact hl
  | cons r rs ih => exact ih _ (sha_len _)
theorem headOf_bytes (h : List Int) (rs : List Rec) (hb : ∀ x ∈ h, 0 ≤ x ∧ x ≤ 255) : ∀ x ∈ headOf h rs, 0 ≤ x ∧ x ≤ 255 := by
  induction rs generalizing h with
  | nil => exact hb
  | cons r rs ih => exact ih _ (sha_bytes _)
theorem headOf_snoc (h : List Int) (rs : List Rec) (r : Rec) : headOf h (rs ++ [r]) = sha (headOf h rs ++ r.bytes) := by simp [headOf]
/-- records in a row -/
def RecRow (w : World) (A : Option Addr) (rs : List Rec) : Prop := rs = [] ∨ ∃ b off, A = some ⟨b, off, none⟩ ∧ ∀ i (hi : i < rs.length) j, j < 6 → w.cell? ⟨b, off + i * 6 + j, none⟩ = rs[i].cells[j]?
theorem RecRow.below {w w' : World} {A : Option Addr} {rs : List Rec} (h : RecRow w A rs) (hb : Below w.heap.size w w') : RecRow w' A rs := by
  rcases h with h | ⟨b, off, e, hc⟩
  · exact .inl h
  · refine .inr ⟨b, off, e, fun i hi j hj => ?_⟩
    have h1 := hc i hi j hj
    have h2 : (rs[i].cells[j]?) = some (rs[i].cells[j]'(by simp [Rec.cells]; omega)) := Array.getElem?_eq_getElem _
    rw [hb.cell (World.block_lt_of_cell? _ _ (h1.trans h2))]; exact h1
theorem next_rec (hd : List Int) (r : Rec) (hl : hd.length = 32) (hb : ∀ x ∈ hd, 0 ≤ x ∧ x ≤ 255) (w : World) (hR : Roots w) :
    Calls Tryd.prog 34 #[.agg (u8V hd), .agg r.cells] w fun e' w' => e' = .returned (.agg (u8V (sha (hd ++ r.bytes)))) ∧ Below w.heap.size w w' := next_any hd r.k r.s r.q r.e r.c r.h hl hb w hR

set_option maxRecDepth 100000 in
set_option maxHeartbeats 800000 in
theorem of_rec (A : Option Addr) (rs : List Rec) (n cp : Nat) (hn : rs.length = n) (hn2 : n ≤ 1000000) (w : World) (hr : RecRow w A rs) (hR : Roots w) :
    Calls Tryd.prog 32 #[.slice A n cp] w fun e' w' => e' = .returned (.agg (u8V (headOf (zeros 32) rs))) ∧ Below w.heap.size w w' := by
  have RT := Lib.hid hR
  have HN := Lib.hid hn
  have HR := Lib.hid hr
  have BB := Lib.hid (Below.refl w.heap.size w)
  have ZL := zeros_len 32
  have ZB := zeros_bytes 32
  generalize hz : zeros 32 = z0 at *
  replace ZL := Lib.hid ZL
  replace ZB := Lib.hid ZB
  have HANS : ∃ ans, headOf z0 rs = ans := ⟨_, rfl⟩
  obtain ⟨ans, hans⟩ := HANS
  have AL : Hid (ans.length = 32) := Lib.hid (by rw [← hans]; exact headOf_len _ _ ZL.out)
  rw [hans]
  replace hans := Lib.hid hans
  have ZT : ZeroT Tryd.prog 28 (u8V z0) := by rw [← hz]; exact zeroT_b32
  clear hn hr hR hz
  go_enter Tryd.func32, Tryd.ntmps32
  go_wp2_with ((with_reducible show wpList _ _ _ (⟨_, .alloc 28, _, _, _, none⟩ :: _) _ _); (with_reducible refine wpRow_alloc ZT ?_ ?_ ?_); (· exact wanted0 rfl); (· rfl); refine Marker.mk ?_)
  refine Marker.in ?_
  have K2 := Lib.hid (Blk.new w (u8V z0) 28)
  replace BB := Lib.hid (below_alloc1 w (.cells (u8V z0) 28))
  generalize w.alloc (.cells (u8V z0) 28) = w1 at *
  have l1 := K2.out.lt
  go_wp2_with ((with_reducible show wpList _ _ _ (⟨_, .alloc 28, _, _, _, none⟩ :: _) _ _); (with_reducible refine wpRow_alloc ZT ?_ ?_ ?_); (· exact wanted0 rfl); (· rfl); refine Marker.mk ?_)
  refine Marker.in ?_
  have bel := below_alloc1 w1 (.cells (u8V z0) 28)
  replace K2 := Lib.hid (K2.out.below bel)
  replace BB := Lib.hid (bt BB.out bel)
  have K3 := Lib.hid (Blk.new w1 (u8V z0) 28)
  clear bel
  generalize w1.alloc (.cells (u8V z0) 28) = w2 at *
  generalize w1.heap.size = g3 at *
  clear ZT
  go_wp2_with fail
  go_loopw [8] (fun y wr => ∃ i : Nat, i ≤ n ∧ y = .int .i64 i ∧ Blk wr w.heap.size (u8V z0) 28 ∧ Blk wr g3 (u8V (headOf z0 (rs.take i))) 28 ∧ Below w.heap.size w wr) (fun y _ => n - (intOf y).toNat)
  case atStart => exact ⟨0, Nat.zero_le _, rfl, K2.out, K3.out, BB.out⟩
  case round =>
    clear K2 K3 BB
    obtain ⟨i, hi, rfl, K2, K3, BB⟩ := hrel
    replace K2 := Lib.hid K2
    replace K3 := Lib.hid K3
    replace BB := Lib.hid BB
    have HL0 := headOf_len z0 (rs.take i) ZL.out
    have HB0 := headOf_bytes z0 (rs.take i) ZB.out
    by_cases hlt : i < n
    · have hil : i < rs.length := by rw [HN.out]; exact hlt
      have hsn : headOf z0 (rs.take (i + 1)) = sha (headOf z0 (rs.take i) ++ (rs[i]'hil).bytes) := by rw [List.take_succ_eq_append_getElem hil, headOf_snoc]
      obtain ⟨b, off, rfl, hc⟩ : ∃ b off, A = some ⟨b, off, none⟩ ∧ ∀ j, j < 6 → wr.cell? ⟨b, off + i * 6 + j, none⟩ = (rs[i]'hil).cells[j]? := by
        rcases HR.out.below BB.out with h | ⟨b, off, e, hc⟩
        · subst h; simp at hil
        · exact ⟨b, off, e, hc i hil⟩
      generalize headOf z0 (rs.take i) = hd at *
      generalize rs[i]'hil = r at *
      have c0 := hc 0 (by omega)
      have c1 := hc 1 (by omega)
      have c2 := hc 2 (by omega)
      have c3 := hc 3 (by omega)
      have c4 := hc 4 (by omega)
      have c5 := hc 5 (by omega)
      simp only [Rec.cells, Nat.add_zero] at c0 c1 c2 c3 c4 c5
      have HSN := Lib.hid hsn
      have HLD := Lib.hid HL0
      have HBD := Lib.hid HB0
      have l3 := K3.out.lt
      have l2 := K2.out.lt
      clear hsn HL0 HB0 hc
      have t1 : decide ((i : Int) < (n : Int)) = true := decide_eq_true (by omega)
      go_wp2_with ((with_reducible show wpList _ _ _ (⟨_, .alloc 48, _, _, _, none⟩ :: _) _ _); (with_reducible refine wpRow_alloc zeroT_rec ?_ ?_ ?_); (· exact wanted0 rfl); (· rfl); refine Marker.mk ?_)
      refine Marker.in ?_
      clear c0 c1 c2 c3 c4 c5
      have bel := below_alloc1 wr (.cells (i64V (zeros 6)) 48)
      replace K2 := Lib.hid (K2.out.below bel)
      replace K3 := Lib.hid (K3.out.below bel)
      replace BB := Lib.hid (bt BB.out bel)
      have K5 := Lib.hid (Blk.new wr (i64V (zeros 6)) 48)
      clear bel
      generalize wr.alloc (.cells (i64V (zeros 6)) 48) = w4 at *
      generalize wr.heap.size = g5 at *
      go_wp2_with ((with_reducible show wpList _ _ _ (⟨_, .store 48 _ _, _, _, _, none⟩ :: _) _ _); (with_reducible refine wpBlk_store (g := g5) (cs := r.cells) agg_rec ?_ ?_ K5 ?_ ?_ ?_ ?_); (· exact wanted0 rfl); (· exact ⟨rfl, rfl, rfl⟩); (· rfl); (· rfl); (· exact r.one); refine Marker.mk ?_)
      refine Marker.in ?_
      replace K2 := Lib.hid (K2.out.setRow_other g5 r.cells (by omega))
      replace K3 := Lib.hid (K3.out.setRow_other g5 r.cells (by omega))
      replace K5 := Lib.hid (K5.out.setRow r.cells)
      replace BB := Lib.hid (below_setRow (g := g5) BB.out (by omega) r.cells)
      generalize w4.setRow g5 r.cells = w5 at *
      go_wp2_with (first | ((with_reducible show wpList _ _ _ (⟨_, .load 28 _, _, _, _, none⟩ :: _) _ _); (with_reducible refine wpBlk_load (g := g3) agg_b32 ?_ ?_ K3 ?_ ?_); (· exact wanted0 rfl); (· exact ⟨rfl, rfl⟩); (· rw [u8V_size, HLD.out])) | ((with_reducible show wpList _ _ _ (⟨_, .load 48 _, _, _, _, none⟩ :: _) _ _); (with_reducible refine wpBlk_load (g := g5) agg_rec ?_ ?_ K5 ?_ ?_); (· exact wanted0 rfl); (· exact ⟨rfl, rfl⟩); (· rfl)))
      ((with_reducible refine (next_rec hd r HLD.out HBD.out _ (RT.out.below BB.out)).mono ?_))
      rintro e' w6 ⟨rfl, b6⟩
      have SL := sha_len (hd ++ r.bytes)
      replace K2 := Lib.hid (K2.out.below b6)
      replace K3 := Lib.hid (K3.out.below b6)
      replace K5 := Lib.hid (K5.out.below b6)
      replace BB := Lib.hid (bt BB.out b6)
      clear b6 K5
      go_wp2_with ((with_reducible show wpList _ _ _ (⟨_, .store 28 _ _, _, _, _, none⟩ :: _) _ _); (with_reducible refine wpBlk_store (g := g3) (cs := u8V (sha (hd ++ r.bytes))) agg_b32 ?_ ?_ K3 ?_ ?_ ?_ ?_); (· exact wanted0 rfl); (· exact ⟨rfl, rfl, rfl⟩); (· rw [u8V_size, HLD.out]); (· rw [u8V_size, SL]); (· exact u8V_one _); refine Marker.mk ?_)
      refine Marker.in ?_
      replace K2 := Lib.hid (K2.out.setRow_other g3 (u8V (sha (hd ++ r.bytes))) (by omega))
      replace K3 := Lib.hid (K3.out.setRow (u8V (sha (hd ++ r.bytes))))
      replace BB := Lib.hid (below_setRow (g := g3) BB.out (by omega) (u8V (sha (hd ++ r.bytes))))
      generalize w6.setRow g3 (u8V (sha (hd ++ r.bytes))) = w7 at *
      go_wp2_with fail
      exact ⟨⟨i + 1, by omega, by simp, K2.out, by rw [HSN.out]; exact K3.out, BB.out⟩, by simp [intOf]; omega⟩
    · obtain rfl : i = n := by omega
      rw [List.take_of_length_le (by rw [HN.out]; omega), hans.out] at K3
      clear HL0 HB0
      have l3 := K3.out.lt
      have t1 : decide ((i : Int) < (i : Int)) = false := decide_eq_false (by omega)
      go_wp2_with (first | ((with_reducible show wpList _ _ _ (⟨_, .load 28 _, _, _, _, none⟩ :: _) _ _); (with_reducible refine wpBlk_load (g := g3) agg_b32 ?_ ?_ K3 ?_ ?_); (· exact wanted0 rfl); (· exact ⟨rfl, rfl⟩); (· rw [u8V_size, AL.out])) | ((with_reducible show wpList _ _ _ (⟨_, .store 28 _ _, _, _, _, none⟩ :: _) _ _); (with_reducible refine wpBlk_store (g := w.heap.size) (cs := u8V ans) agg_b32 ?_ ?_ K2 ?_ ?_ ?_ ?_); (· exact wanted0 rfl); (· exact ⟨rfl, rfl, rfl⟩); (· rw [u8V_size, ZL.out]); (· rw [u8V_size, AL.out]); (· exact u8V_one _); refine Marker.mk ?_))
      refine Marker.in ?_
      go_wp2_with fail
      refine bodyPost_ret (v := .agg (u8V ans)) (results_blk agg_b32 rfl _ _ w.heap.size _ rfl (K2.out.setRow (u8V ans)) (by rw [u8V_size, AL.out])) rfl ⟨rfl, below_setRow BB.out (by omega) _⟩
end Go.Proofs.YtalekcpdkfdmaaaDoor
