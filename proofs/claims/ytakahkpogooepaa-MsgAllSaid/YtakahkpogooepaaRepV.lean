/- sidestickref08.FitReply, walked. -/
import Derived.Test.YtakahkpogooepaaRepU
import Derived.Test.YtakahkpogooepaaMsgV
namespace Go.Proofs.Ytakahkpogooepaa
open Go.RowKit

theorem and7 (n : Int) : bits .and .i64 n 7 = n % 8 := i64_maskN 3 (by omega) n 7 (by decide)
theorem and255r (n : Int) : bits .and .i64 n 255 = n % 256 := i64_maskN 8 (by omega) n 255 (by decide)
theorem replies_any (a0 a1 a2 a3 a4 a5 a6 a7 a8 a9 a10 a11 a12 a13 : Int) (w : World) (h1 : 129 ≤ a0) (h2 : a0 ≤ 136) :
    Calls Try.prog 32 #[.agg #[.int .i64 a0, .int .i64 a1, .int .i64 a2, .int .i64 a3, .int .i64 a4, .int .i64 a5, .int .u8 a6, .int .u8 a7, .int .u8 a8, .int .u8 a9, .int .u8 a10, .int .u8 a11, .int .u8 a12, .int .u8 a13]] w fun e' w' => e' = .returned (.agg (repV (replies14 a0 a1 a2 a3 a4 a5 a6 a7 a8 a9 a10 a11 a12 a13))) ∧ Below w.heap.size w w' := by
  have h : a0 = 129 ∨ a0 = 130 ∨ a0 = 131 ∨ a0 = 132 ∨ a0 = 133 ∨ a0 = 134 ∨ a0 = 135 ∨ a0 = 136 := by omega
  rcases h with rfl | rfl | rfl | rfl | rfl | rfl | rfl | rfl
  · exact replies_129 a1 a2 a3 a4 a5 a6 a7 a8 a9 a10 a11 a12 a13 w
  · exact replies_130 a1 a2 a3 a4 a5 a6 a7 a8 a9 a10 a11 a12 a13 w
  · exact replies_131 a1 a2 a3 a4 a5 a6 a7 a8 a9 a10 a11 a12 a13 w
  · exact replies_132 a1 a2 a3 a4 a5 a6 a7 a8 a9 a10 a11 a12 a13 w
  · exact replies_133 a1 a2 a3 a4 a5 a6 a7 a8 a9 a10 a11 a12 a13 w
  · exact replies_134 a1 a2 a3 a4 a5 a6 a7 a8 a9 a10 a11 a12 a13 w
  · exact replies_135 a1 a2 a3 a4 a5 a6 a7 a8 a9 a10 a11 a12 a13 w
  · exact replies_136 a1 a2 a3 a4 a5 a6 a7 a8 a9 a10 a11 a12 a13 w
def fitR (l : List Int) : List Int := match l with
  | [a0, a1, a2, a3, a4, a5, a6, a7, a8, a9, a10, a11, a12, a13] => replies14 (129 + a0 % 8) (a1 % 4294967296) (a2 % 4) (a3 % 5) (a4 % 65536) (a5 % 256) a6 a7 a8 a9 a10 a11 a12 a13
  | _ => l
theorem isRep_replies (a0 a1 a2 a3 a4 a5 a6 a7 a8 a9 a10 a11 a12 a13 : Int) (h : IsRepL [a0, a1, a2, a3, a4, a5, a6, a7, a8, a9, a10, a11, a12, a13]) (h1 : 129 ≤ a0) (h2 : a0 ≤ 136) : IsRepL (replies14 a0 a1 a2 a3 a4 a5 a6 a7 a8 a9 a10 a11 a12 a13) := by
  have b := h.2
  have hb : ∀ i, 6 ≤ i → i < 14 → ∀ x, [a0, a1, a2, a3, a4, a5, a6, a7, a8, a9, a10, a11, a12, a13][i]? = some x → 0 ≤ x ∧ x ≤ 255 := fun i h6 h14 x hx => by
    have := b i h6 h14
    rw [List.getD_eq_getElem?_getD, hx] at this
    exact this
  have b6 := hb 6 (by omega) (by omega) a6 rfl
  have b7 := hb 7 (by omega) (by omega) a7 rfl
  have b8 := hb 8 (by omega) (by omega) a8 rfl
  have b9 := hb 9 (by omega) (by omega) a9 rfl
  have b10 := hb 10 (by omega) (by omega) a10 rfl
  have b11 := hb 11 (by omega) (by omega) a11 rfl
  have b12 := hb 12 (by omega) (by omega) a12 rfl
  have b13 := hb 13 (by omega) (by omega) a13 rfl
  have hk : a0 = 129 ∨ a0 = 130 ∨ a0 = 131 ∨ a0 = 132 ∨ a0 = 133 ∨ a0 = 134 ∨ a0 = 135 ∨ a0 = 136 := by omega
  clear hb b h
  rcases hk with rfl | rfl | rfl | rfl | rfl | rfl | rfl | rfl
  all_goals
    refine ⟨rfl, fun i h6 h14 => ?_⟩
    have hi : i = 6 ∨ i = 7 ∨ i = 8 ∨ i = 9 ∨ i = 10 ∨ i = 11 ∨ i = 12 ∨ i = 13 := by omega
    rcases hi with rfl | rfl | rfl | rfl | rfl | rfl | rfl | rfl <;> simp [replies14] <;> omega
set_option maxRecDepth 100000 in
set_option maxHeartbeats 3200000 in
theorem fitR_lit (a0 a1 a2 a3 a4 a5 a6 a7 a8 a9 a10 a11 a12 a13 : Int) (hl : IsRepL [a0, a1, a2, a3, a4, a5, a6, a7, a8, a9, a10, a11, a12, a13]) (w : World) :
    Calls Try.prog 20 #[.agg #[.int .i64 a0, .int .i64 a1, .int .i64 a2, .int .i64 a3, .int .i64 a4, .int .i64 a5, .int .u8 a6, .int .u8 a7, .int .u8 a8, .int .u8 a9, .int .u8 a10, .int .u8 a11, .int .u8 a12, .int .u8 a13]] w fun e' w' => e' = .returned (.agg (repV (replies14 (129 + a0 % 8) (a1 % 4294967296) (a2 % 4) (a3 % 5) (a4 % 65536) (a5 % 256) a6 a7 a8 a9 a10 a11 a12 a13))) ∧ Below w.heap.size w w' := by
  obtain ⟨u3, v3, y3⟩ := rem_twice a3 5 (by omega)
  have CN := Lib.hid (fun W => replies_any (129 + a0 % 8) (a1 % 4294967296) (a2 % 4) (a3 % 5) (a4 % 65536) (a5 % 256) a6 a7 a8 a9 a10 a11 a12 a13 W (by omega) (by omega))
  rw [← u3] at CN
  rw [← u3]
  clear u3 hl
  generalize hres : repV (replies14 _ _ _ _ _ _ _ _ _ _ _ _ _ _) = res at *
  have RS : Hid (res.size = 14) := Lib.hid (by rw [← hres]; exact repV_size _)
  have RO := Lib.hid (show (res.all (·.oneCell')) = true by rw [← hres]; exact repV_one _)
  clear hres
  have m0 := and7 a0
  have m1 := and4294967295 a1
  have m2 := and3 a2
  have m4 := and65535 a4
  have m5 := and255r a5
  have p0 : 0 ≤ a0 % 8 := by omega
  have q0 : a0 % 8 ≤ 7 := by omega
  go_enter Try.func20, Try.ntmps20
  go_wp2_with fail
  have ZB := Lib.hid (below_alloc2 w (.cells #[.int .i64 (129 + a0 % 8), .int .i64 (a1 % 4294967296), .int .i64 (a2 % 4), .int .i64 (a3.tmod 5 % 5), .int .i64 (a4 % 65536), .int .i64 (a5 % 256), .int .u8 a6, .int .u8 a7, .int .u8 a8, .int .u8 a9, .int .u8 a10, .int .u8 a11, .int .u8 a12, .int .u8 a13] 40) (.cells #[.int .i64 0, .int .i64 0, .int .i64 0, .int .i64 0, .int .i64 0, .int .i64 0, .int .u8 0, .int .u8 0, .int .u8 0, .int .u8 0, .int .u8 0, .int .u8 0, .int .u8 0, .int .u8 0] 40))
  have KZ := Lib.hid (Blk.new' (w.alloc (.cells #[.int .i64 (129 + a0 % 8), .int .i64 (a1 % 4294967296), .int .i64 (a2 % 4), .int .i64 (a3.tmod 5 % 5), .int .i64 (a4 % 65536), .int .i64 (a5 % 256), .int .u8 a6, .int .u8 a7, .int .u8 a8, .int .u8 a9, .int .u8 a10, .int .u8 a11, .int .u8 a12, .int .u8 a13] 40)) #[.int .i64 0, .int .i64 0, .int .i64 0, .int .i64 0, .int .i64 0, .int .i64 0, .int .u8 0, .int .u8 0, .int .u8 0, .int .u8 0, .int .u8 0, .int .u8 0, .int .u8 0, .int .u8 0] 40 (g := w.heap.size + 1) (by simp))
  ((with_reducible refine (CN.out _).mono ?_))
  rintro e' w2 ⟨rfl, b2⟩
  replace KZ := Lib.hid (KZ.out.below b2)
  replace ZB := Lib.hid (bt ZB.out b2)
  clear b2
  go_wp2_with ((with_reducible show wpList _ _ _ (⟨_, .store 40 _ _, _, _, _, none⟩ :: _) _ _); (with_reducible refine wpBlk_store (g := w.heap.size + 1) (cs := res) agg_rep ?_ ?_ KZ ?_ ?_ ?_ ?_); (· exact wanted0 rfl); (· exact ⟨rfl, rfl, rfl⟩); (· rfl); (· exact RS.out); (· exact RO.out))
  refine bodyPost_ret (v := .agg res) (results_blk agg_rep rfl _ _ (w.heap.size + 1) _ rfl (KZ.out.setRow _) RS.out) rfl ⟨rfl, below_setRow ZB.out (by omega) _⟩
theorem fit_rep (l : List Int) (hl : IsRepL l) (w : World) : Calls Try.prog 20 #[.agg (repV l)] w fun e' w' => e' = .returned (.agg (repV (fitR l))) ∧ Below w.heap.size w w' := by
  have h1 := hl.1
  match l, h1 with
  | [a0, a1, a2, a3, a4, a5, a6, a7, a8, a9, a10, a11, a12, a13], _ => exact fitR_lit a0 a1 a2 a3 a4 a5 a6 a7 a8 a9 a10 a11 a12 a13 hl w
end Go.Proofs.Ytakahkpogooepaa
