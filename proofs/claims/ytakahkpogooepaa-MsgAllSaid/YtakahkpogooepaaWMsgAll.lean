/- Several texts in one. -/
import Derived.Test.YtakahkpogooepaaRepU
import Derived.Test.YtakahkpogooepaaRepX
import Derived.Test.YtakahkpogooepaaRepN
import Derived.Test.YtakahkpogooepaaRpJ
import Derived.Test.YtakahkpogooepaaAppF
import Derived.Test.YtakahkpogooepaaRepO
import Derived.Test.YtakahkpogooepaaRepT
import Derived.Test.YtakahkpogooepaaMsgW

/- sidestickref08.PutReply: parts. -/
namespace Go.Proofs.Ytakahkpogooepaa
open Go.RowKit

def RqP (l : List Int) (w : World) (e : Ending) (w' : World) : Prop :=
  (match putR8 l with
   | none => e = .returned (.tuple #[.slice none 0 0, .int .i64 1])
   | some bs => ∃ A c base, e = .returned (.tuple #[.slice A bs.length c, .int .i64 0]) ∧ Own w' base A c bs) ∧ Below w.heap.size w w'
theorem rqP_none {l : List Int} {w w' : World} {e : Ending} (hp : putR8 l = none) (he : e = .returned (.tuple #[.slice none 0 0, .int .i64 1])) (hb : Below w.heap.size w w') : RqP l w e w' := by
  unfold RqP
  rw [hp]
  exact ⟨he, hb⟩
theorem rqP_some {l bs : List Int} {w w' : World} {e : Ending} {A : Option Addr} {c base n : Nat} (hp : putR8 l = some bs) (hn : bs.length = n) (he : e = .returned (.tuple #[.slice A n c, .int .i64 0])) (ho : Own w' base A c bs) (hb : Below w.heap.size w w') : RqP l w e w' := by
  unfold RqP
  rw [hp]
  subst hn
  exact ⟨⟨A, c, base, he, ho⟩, hb⟩
theorem own_monoR {w : World} {b c : Nat} {A : Option Addr} {cap : Nat} {xs : List Int} (h : Own w c A cap xs) (hb : b ≤ c) : Own w b A cap xs := by
  obtain ⟨⟨h1, h2⟩, h3⟩ := h
  refine ⟨⟨h1, ?_⟩, h3⟩
  rcases h2 with h2 | ⟨g, cap', cur, hv, hg, hh⟩
  · exact .inl h2
  · exact .inr ⟨g, cap', cur, hv, Nat.le_trans hb hg, hh⟩
def fitsR (k s r t e c : Int) : Bool := inB k 129 136 && inB s 0 4294967295 && inB r 0 3 && inB t 0 4 && inB e 0 65535 && inB c 0 255
theorem fitsR_iff (k s r t e c : Int) : fitsR k s r t e c = true ↔ (129 ≤ k ∧ k ≤ 136) ∧ (0 ≤ s ∧ s ≤ 4294967295) ∧ (0 ≤ r ∧ r ≤ 3) ∧ (0 ≤ t ∧ t ≤ 4) ∧ (0 ≤ e ∧ e ≤ 65535) ∧ (0 ≤ c ∧ c ≤ 255) := by
  unfold fitsR inB
  simp only [Bool.and_eq_true, decide_eq_true_iff]
  constructor
  · rintro ⟨⟨⟨⟨⟨h1, h2⟩, h3⟩, h4⟩, h5⟩, h6⟩
    exact ⟨h1, h2, h3, h4, h5, h6⟩
  · rintro ⟨h1, h2, h3, h4, h5, h6⟩
    exact ⟨⟨⟨⟨⟨h1, h2⟩, h3⟩, h4⟩, h5⟩, h6⟩
theorem putR8_lit129 (n0 n1 n2 n3 n4 n5 n6 n7 : Int) (hn0 : 0 ≤ n0 ∧ n0 ≤ 255) (hn1 : 0 ≤ n1 ∧ n1 ≤ 255) (hn2 : 0 ≤ n2 ∧ n2 ≤ 255) (hn3 : 0 ≤ n3 ∧ n3 ≤ 255) (hn4 : 0 ≤ n4 ∧ n4 ≤ 255) (hn5 : 0 ≤ n5 ∧ n5 ≤ 255) (hn6 : 0 ≤ n6 ∧ n6 ≤ 255) (hn7 : 0 ≤ n7 ∧ n7 ≤ 255) : putR8 [129, 0, 0, 0, 0, 0, n0, n1, n2, n3, n4, n5, n6, n7] = some ([129] ++ [n0, n1, n2, n3, n4, n5, n6, n7]) := by
  have on0 : outD (fOct 0) n0 = some [n0] := by rw [outD_pos (by decide) hn0.1 hn0.2]; exact congrArg some (be_1v n0 (by omega) (by omega))
  have on1 : outD (fOct 1) n1 = some [n1] := by rw [outD_pos (by decide) hn1.1 hn1.2]; exact congrArg some (be_1v n1 (by omega) (by omega))
  have on2 : outD (fOct 2) n2 = some [n2] := by rw [outD_pos (by decide) hn2.1 hn2.2]; exact congrArg some (be_1v n2 (by omega) (by omega))
  have on3 : outD (fOct 3) n3 = some [n3] := by rw [outD_pos (by decide) hn3.1 hn3.2]; exact congrArg some (be_1v n3 (by omega) (by omega))
  have on4 : outD (fOct 4) n4 = some [n4] := by rw [outD_pos (by decide) hn4.1 hn4.2]; exact congrArg some (be_1v n4 (by omega) (by omega))
  have on5 : outD (fOct 5) n5 = some [n5] := by rw [outD_pos (by decide) hn5.1 hn5.2]; exact congrArg some (be_1v n5 (by omega) (by omega))
  have on6 : outD (fOct 6) n6 = some [n6] := by rw [outD_pos (by decide) hn6.1 hn6.2]; exact congrArg some (be_1v n6 (by omega) (by omega))
  have on7 : outD (fOct 7) n7 = some [n7] := by rw [outD_pos (by decide) hn7.1 hn7.2]; exact congrArg some (be_1v n7 (by omega) (by omega))
  have h := (outsD_one (l := [129, 0, 0, 0, 0, 0, n0, n1, n2, n3, n4, n5, n6, n7]) on0 (outsD_one (l := [129, 0, 0, 0, 0, 0, n0, n1, n2, n3, n4, n5, n6, n7]) on1 (outsD_one (l := [129, 0, 0, 0, 0, 0, n0, n1, n2, n3, n4, n5, n6, n7]) on2 (outsD_one (l := [129, 0, 0, 0, 0, 0, n0, n1, n2, n3, n4, n5, n6, n7]) on3 (outsD_one (l := [129, 0, 0, 0, 0, 0, n0, n1, n2, n3, n4, n5, n6, n7]) on4 (outsD_one (l := [129, 0, 0, 0, 0, 0, n0, n1, n2, n3, n4, n5, n6, n7]) on5 (outsD_one (l := [129, 0, 0, 0, 0, 0, n0, n1, n2, n3, n4, n5, n6, n7]) on6 (outsD_one (l := [129, 0, 0, 0, 0, 0, n0, n1, n2, n3, n4, n5, n6, n7]) on7 (show outsD [] [129, 0, 0, 0, 0, 0, n0, n1, n2, n3, n4, n5, n6, n7] = some [] from rfl)))))))))
  unfold putR8
  rw [show ([129, 0, 0, 0, 0, 0, n0, n1, n2, n3, n4, n5, n6, n7] : List Int).getD 0 0 = 129 from rfl, show repliedOf 129 = some [fOct 0, fOct 1, fOct 2, fOct 3, fOct 4, fOct 5, fOct 6, fOct 7] from rfl]
  simp only [h]
  rw [if_pos (show zeroed [fOct 0, fOct 1, fOct 2, fOct 3, fOct 4, fOct 5, fOct 6, fOct 7] [129, 0, 0, 0, 0, 0, n0, n1, n2, n3, n4, n5, n6, n7] = z14 129 from rfl)]
  simp
theorem putR8_lit130 (r t e : Int) (hr : 0 ≤ r ∧ r ≤ 3) (ht : 0 ≤ t ∧ t ≤ 4) (he : 0 ≤ e ∧ e ≤ 65535) : putR8 [130, 0, r, t, e, 0, 0, 0, 0, 0, 0, 0, 0, 0] = some ([130] ++ [r, t] ++ be e 2) := by
  have or : outD (fRole) r = some [r] := by rw [outD_pos (by decide) hr.1 hr.2]; exact congrArg some (be_1v r (by omega) (by omega))
  have ot : outD (fTo) t = some [t] := by rw [outD_pos (by decide) ht.1 ht.2]; exact congrArg some (be_1v t (by omega) (by omega))
  have oe : outD fEpoch e = some (be e 2) := outD_pos (by decide) he.1 he.2
  have h := (outsD_one (l := [130, 0, r, t, e, 0, 0, 0, 0, 0, 0, 0, 0, 0]) or (outsD_one (l := [130, 0, r, t, e, 0, 0, 0, 0, 0, 0, 0, 0, 0]) ot (outsD_one (l := [130, 0, r, t, e, 0, 0, 0, 0, 0, 0, 0, 0, 0]) oe (show outsD [] [130, 0, r, t, e, 0, 0, 0, 0, 0, 0, 0, 0, 0] = some [] from rfl))))
  unfold putR8
  rw [show ([130, 0, r, t, e, 0, 0, 0, 0, 0, 0, 0, 0, 0] : List Int).getD 0 0 = 130 from rfl, show repliedOf 130 = some [fRole, fTo, fEpoch] from rfl]
  simp only [h]
  rw [if_pos (show zeroed [fRole, fTo, fEpoch] [130, 0, r, t, e, 0, 0, 0, 0, 0, 0, 0, 0, 0] = z14 130 from rfl)]
  simp
theorem putR8_lit131 (s : Int) (hs : 0 ≤ s ∧ s ≤ 4294967295) : putR8 [131, s, 0, 0, 0, 0, 0, 0, 0, 0, 0, 0, 0, 0] = some ([131] ++ be s 4) := by
  have os : outD fSeq s = some (be s 4) := outD_pos (by decide) hs.1 hs.2
  have h := (outsD_one (l := [131, s, 0, 0, 0, 0, 0, 0, 0, 0, 0, 0, 0, 0]) os (show outsD [] [131, s, 0, 0, 0, 0, 0, 0, 0, 0, 0, 0, 0, 0] = some [] from rfl))
  unfold putR8
  rw [show ([131, s, 0, 0, 0, 0, 0, 0, 0, 0, 0, 0, 0, 0] : List Int).getD 0 0 = 131 from rfl, show repliedOf 131 = some [fSeq] from rfl]
  simp only [h]
  rw [if_pos (show zeroed [fSeq] [131, s, 0, 0, 0, 0, 0, 0, 0, 0, 0, 0, 0, 0] = z14 131 from rfl)]
  simp
theorem putR8_lit132 (s c : Int) (hs : 0 ≤ s ∧ s ≤ 4294967295) (hc : 0 ≤ c ∧ c ≤ 255) : putR8 [132, s, 0, 0, 0, c, 0, 0, 0, 0, 0, 0, 0, 0] = some ([132] ++ be s 4 ++ [c]) := by
  have os : outD fSeq s = some (be s 4) := outD_pos (by decide) hs.1 hs.2
  have oc : outD (fCode) c = some [c] := by rw [outD_pos (by decide) hc.1 hc.2]; exact congrArg some (be_1v c (by omega) (by omega))
  have h := (outsD_one (l := [132, s, 0, 0, 0, c, 0, 0, 0, 0, 0, 0, 0, 0]) os (outsD_one (l := [132, s, 0, 0, 0, c, 0, 0, 0, 0, 0, 0, 0, 0]) oc (show outsD [] [132, s, 0, 0, 0, c, 0, 0, 0, 0, 0, 0, 0, 0] = some [] from rfl)))
  unfold putR8
  rw [show ([132, s, 0, 0, 0, c, 0, 0, 0, 0, 0, 0, 0, 0] : List Int).getD 0 0 = 132 from rfl, show repliedOf 132 = some [fSeq, fCode] from rfl]
  simp only [h]
  rw [if_pos (show zeroed [fSeq, fCode] [132, s, 0, 0, 0, c, 0, 0, 0, 0, 0, 0, 0, 0] = z14 132 from rfl)]
  simp
theorem putR8_lit133 (e : Int) (he : 0 ≤ e ∧ e ≤ 65535) : putR8 [133, 0, 0, 0, e, 0, 0, 0, 0, 0, 0, 0, 0, 0] = some ([133] ++ be e 2) := by
  have oe : outD fEpoch e = some (be e 2) := outD_pos (by decide) he.1 he.2
  have h := (outsD_one (l := [133, 0, 0, 0, e, 0, 0, 0, 0, 0, 0, 0, 0, 0]) oe (show outsD [] [133, 0, 0, 0, e, 0, 0, 0, 0, 0, 0, 0, 0, 0] = some [] from rfl))
  unfold putR8
  rw [show ([133, 0, 0, 0, e, 0, 0, 0, 0, 0, 0, 0, 0, 0] : List Int).getD 0 0 = 133 from rfl, show repliedOf 133 = some [fEpoch] from rfl]
  simp only [h]
  rw [if_pos (show zeroed [fEpoch] [133, 0, 0, 0, e, 0, 0, 0, 0, 0, 0, 0, 0, 0] = z14 133 from rfl)]
  simp
theorem putR8_lit134 (t e : Int) (ht : 0 ≤ t ∧ t ≤ 4) (he : 0 ≤ e ∧ e ≤ 65535) : putR8 [134, 0, 0, t, e, 0, 0, 0, 0, 0, 0, 0, 0, 0] = some ([134] ++ [t] ++ be e 2) := by
  have ot : outD (fTo) t = some [t] := by rw [outD_pos (by decide) ht.1 ht.2]; exact congrArg some (be_1v t (by omega) (by omega))
  have oe : outD fEpoch e = some (be e 2) := outD_pos (by decide) he.1 he.2
  have h := (outsD_one (l := [134, 0, 0, t, e, 0, 0, 0, 0, 0, 0, 0, 0, 0]) ot (outsD_one (l := [134, 0, 0, t, e, 0, 0, 0, 0, 0, 0, 0, 0, 0]) oe (show outsD [] [134, 0, 0, t, e, 0, 0, 0, 0, 0, 0, 0, 0, 0] = some [] from rfl)))
  unfold putR8
  rw [show ([134, 0, 0, t, e, 0, 0, 0, 0, 0, 0, 0, 0, 0] : List Int).getD 0 0 = 134 from rfl, show repliedOf 134 = some [fTo, fEpoch] from rfl]
  simp only [h]
  rw [if_pos (show zeroed [fTo, fEpoch] [134, 0, 0, t, e, 0, 0, 0, 0, 0, 0, 0, 0, 0] = z14 134 from rfl)]
  simp
theorem putR8_lit135 (t e : Int) (ht : 0 ≤ t ∧ t ≤ 4) (he : 0 ≤ e ∧ e ≤ 65535) : putR8 [135, 0, 0, t, e, 0, 0, 0, 0, 0, 0, 0, 0, 0] = some ([135] ++ [t] ++ be e 2) := by
  have ot : outD (fTo) t = some [t] := by rw [outD_pos (by decide) ht.1 ht.2]; exact congrArg some (be_1v t (by omega) (by omega))
  have oe : outD fEpoch e = some (be e 2) := outD_pos (by decide) he.1 he.2
  have h := (outsD_one (l := [135, 0, 0, t, e, 0, 0, 0, 0, 0, 0, 0, 0, 0]) ot (outsD_one (l := [135, 0, 0, t, e, 0, 0, 0, 0, 0, 0, 0, 0, 0]) oe (show outsD [] [135, 0, 0, t, e, 0, 0, 0, 0, 0, 0, 0, 0, 0] = some [] from rfl)))
  unfold putR8
  rw [show ([135, 0, 0, t, e, 0, 0, 0, 0, 0, 0, 0, 0, 0] : List Int).getD 0 0 = 135 from rfl, show repliedOf 135 = some [fTo, fEpoch] from rfl]
  simp only [h]
  rw [if_pos (show zeroed [fTo, fEpoch] [135, 0, 0, t, e, 0, 0, 0, 0, 0, 0, 0, 0, 0] = z14 135 from rfl)]
  simp
theorem putR8_lit136 (t c : Int) (ht : 0 ≤ t ∧ t ≤ 4) (hc : 0 ≤ c ∧ c ≤ 255) : putR8 [136, 0, 0, t, 0, c, 0, 0, 0, 0, 0, 0, 0, 0] = some ([136] ++ [t, c]) := by
  have ot : outD (fTo) t = some [t] := by rw [outD_pos (by decide) ht.1 ht.2]; exact congrArg some (be_1v t (by omega) (by omega))
  have oc : outD (fCode) c = some [c] := by rw [outD_pos (by decide) hc.1 hc.2]; exact congrArg some (be_1v c (by omega) (by omega))
  have h := (outsD_one (l := [136, 0, 0, t, 0, c, 0, 0, 0, 0, 0, 0, 0, 0]) ot (outsD_one (l := [136, 0, 0, t, 0, c, 0, 0, 0, 0, 0, 0, 0, 0]) oc (show outsD [] [136, 0, 0, t, 0, c, 0, 0, 0, 0, 0, 0, 0, 0] = some [] from rfl)))
  unfold putR8
  rw [show ([136, 0, 0, t, 0, c, 0, 0, 0, 0, 0, 0, 0, 0] : List Int).getD 0 0 = 136 from rfl, show repliedOf 136 = some [fTo, fCode] from rfl]
  simp only [h]
  rw [if_pos (show zeroed [fTo, fCode] [136, 0, 0, t, 0, c, 0, 0, 0, 0, 0, 0, 0, 0] = z14 136 from rfl)]
  simp
theorem putR8_fits (a0 a1 a2 a3 a4 a5 a6 a7 a8 a9 a10 a11 a12 a13 : Int) (bs : List Int) (h : putR8 [a0, a1, a2, a3, a4, a5, a6, a7, a8, a9, a10, a11, a12, a13] = some bs) : fitsR a0 a1 a2 a3 a4 a5 = true ∧ replies14 a0 a1 a2 a3 a4 a5 a6 a7 a8 a9 a10 a11 a12 a13 = [a0, a1, a2, a3, a4, a5, a6, a7, a8, a9, a10, a11, a12, a13] := by
  obtain ⟨ds, ps, f1, o1, z1, -⟩ := putR8_some h
  have hin := outsD_inR o1
  rw [show ([a0, a1, a2, a3, a4, a5, a6, a7, a8, a9, a10, a11, a12, a13] : List Int).getD 0 0 = a0 from rfl] at f1 z1
  obtain ⟨k1, k11, -, -⟩ := replied_good f1
  have hk : a0 = 129 ∨ a0 = 130 ∨ a0 = 131 ∨ a0 = 132 ∨ a0 = 133 ∨ a0 = 134 ∨ a0 = 135 ∨ a0 = 136 := by omega
  rw [fitsR_iff]
  rcases hk with rfl | rfl | rfl | rfl | rfl | rfl | rfl | rfl
  · obtain rfl : [fOct 0, fOct 1, fOct 2, fOct 3, fOct 4, fOct 5, fOct 6, fOct 7] = ds := Option.some.inj f1
    simp only [zeroed, z14, List.foldl_cons, List.foldl_nil, fOct, List.set_cons_succ, List.set_cons_zero, Nat.reduceAdd, List.cons.injEq, true_and, and_true] at z1
    obtain ⟨rfl, rfl, rfl, rfl, rfl⟩ := z1
    refine ⟨?_, rfl⟩
    omega
  · obtain rfl : [fRole, fTo, fEpoch] = ds := Option.some.inj f1
    simp only [zeroed, z14, List.foldl_cons, List.foldl_nil, fEpoch, fRole, fTo, List.set_cons_succ, List.set_cons_zero, Nat.reduceAdd, List.cons.injEq, true_and, and_true] at z1
    obtain ⟨rfl, rfl, rfl, rfl, rfl, rfl, rfl, rfl, rfl, rfl⟩ := z1
    have gr := hin (fRole) (by simp)
    replace gr : (0 : Int) ≤ a2 ∧ a2 ≤ 3 := gr
    have gt := hin (fTo) (by simp)
    replace gt : (0 : Int) ≤ a3 ∧ a3 ≤ 4 := gt
    have ge := hin (fEpoch) (by simp)
    replace ge : (0 : Int) ≤ a4 ∧ a4 ≤ 65535 := ge
    refine ⟨?_, rfl⟩
    omega
  · obtain rfl : [fSeq] = ds := Option.some.inj f1
    simp only [zeroed, z14, List.foldl_cons, List.foldl_nil, fSeq, List.set_cons_succ, List.set_cons_zero, Nat.reduceAdd, List.cons.injEq, true_and, and_true] at z1
    obtain ⟨rfl, rfl, rfl, rfl, rfl, rfl, rfl, rfl, rfl, rfl, rfl, rfl⟩ := z1
    have gs := hin (fSeq) (by simp)
    replace gs : (0 : Int) ≤ a1 ∧ a1 ≤ 4294967295 := gs
    refine ⟨?_, rfl⟩
    omega
  · obtain rfl : [fSeq, fCode] = ds := Option.some.inj f1
    simp only [zeroed, z14, List.foldl_cons, List.foldl_nil, fCode, fSeq, List.set_cons_succ, List.set_cons_zero, Nat.reduceAdd, List.cons.injEq, true_and, and_true] at z1
    obtain ⟨rfl, rfl, rfl, rfl, rfl, rfl, rfl, rfl, rfl, rfl, rfl⟩ := z1
    have gs := hin (fSeq) (by simp)
    replace gs : (0 : Int) ≤ a1 ∧ a1 ≤ 4294967295 := gs
    have gc := hin (fCode) (by simp)
    replace gc : (0 : Int) ≤ a5 ∧ a5 ≤ 255 := gc
    refine ⟨?_, rfl⟩
    omega
  · obtain rfl : [fEpoch] = ds := Option.some.inj f1
    simp only [zeroed, z14, List.foldl_cons, List.foldl_nil, fEpoch, List.set_cons_succ, List.set_cons_zero, Nat.reduceAdd, List.cons.injEq, true_and, and_true] at z1
    obtain ⟨rfl, rfl, rfl, rfl, rfl, rfl, rfl, rfl, rfl, rfl, rfl, rfl⟩ := z1
    have ge := hin (fEpoch) (by simp)
    replace ge : (0 : Int) ≤ a4 ∧ a4 ≤ 65535 := ge
    refine ⟨?_, rfl⟩
    omega
  · obtain rfl : [fTo, fEpoch] = ds := Option.some.inj f1
    simp only [zeroed, z14, List.foldl_cons, List.foldl_nil, fEpoch, fTo, List.set_cons_succ, List.set_cons_zero, Nat.reduceAdd, List.cons.injEq, true_and, and_true] at z1
    obtain ⟨rfl, rfl, rfl, rfl, rfl, rfl, rfl, rfl, rfl, rfl, rfl⟩ := z1
    have gt := hin (fTo) (by simp)
    replace gt : (0 : Int) ≤ a3 ∧ a3 ≤ 4 := gt
    have ge := hin (fEpoch) (by simp)
    replace ge : (0 : Int) ≤ a4 ∧ a4 ≤ 65535 := ge
    refine ⟨?_, rfl⟩
    omega
  · obtain rfl : [fTo, fEpoch] = ds := Option.some.inj f1
    simp only [zeroed, z14, List.foldl_cons, List.foldl_nil, fEpoch, fTo, List.set_cons_succ, List.set_cons_zero, Nat.reduceAdd, List.cons.injEq, true_and, and_true] at z1
    obtain ⟨rfl, rfl, rfl, rfl, rfl, rfl, rfl, rfl, rfl, rfl, rfl⟩ := z1
    have gt := hin (fTo) (by simp)
    replace gt : (0 : Int) ≤ a3 ∧ a3 ≤ 4 := gt
    have ge := hin (fEpoch) (by simp)
    replace ge : (0 : Int) ≤ a4 ∧ a4 ≤ 65535 := ge
    refine ⟨?_, rfl⟩
    omega
  · obtain rfl : [fTo, fCode] = ds := Option.some.inj f1
    simp only [zeroed, z14, List.foldl_cons, List.foldl_nil, fCode, fTo, List.set_cons_succ, List.set_cons_zero, Nat.reduceAdd, List.cons.injEq, true_and, and_true] at z1
    obtain ⟨rfl, rfl, rfl, rfl, rfl, rfl, rfl, rfl, rfl, rfl, rfl⟩ := z1
    have gt := hin (fTo) (by simp)
    replace gt : (0 : Int) ≤ a3 ∧ a3 ≤ 4 := gt
    have gc := hin (fCode) (by simp)
    replace gc : (0 : Int) ≤ a5 ∧ a5 ≤ 255 := gc
    refine ⟨?_, rfl⟩
    omega
end Go.Proofs.Ytakahkpogooepaa

/- sidestickref08.PutReply, by kind. -/
namespace Go.Proofs.Ytakahkpogooepaa
open Go.RowKit

set_option maxRecDepth 100000 in
set_option maxHeartbeats 1600000 in
theorem rq_129 (n0 n1 n2 n3 n4 n5 n6 n7 : Int) (hn0 : 0 ≤ n0 ∧ n0 ≤ 255) (hn1 : 0 ≤ n1 ∧ n1 ≤ 255) (hn2 : 0 ≤ n2 ∧ n2 ≤ 255) (hn3 : 0 ≤ n3 ∧ n3 ≤ 255) (hn4 : 0 ≤ n4 ∧ n4 ≤ 255) (hn5 : 0 ≤ n5 ∧ n5 ≤ 255) (hn6 : 0 ≤ n6 ∧ n6 ≤ 255) (hn7 : 0 ≤ n7 ∧ n7 ≤ 255) (w : World) :
    Calls Try.prog 17 #[.agg #[.int .i64 129, .int .i64 0, .int .i64 0, .int .i64 0, .int .i64 0, .int .i64 0, .int .u8 n0, .int .u8 n1, .int .u8 n2, .int .u8 n3, .int .u8 n4, .int .u8 n5, .int .u8 n6, .int .u8 n7]] w (RqP [129, 0, 0, 0, 0, 0, n0, n1, n2, n3, n4, n5, n6, n7] w) := by
  have hp := putR8_lit129 n0 n1 n2 n3 n4 n5 n6 n7 hn0 hn1 hn2 hn3 hn4 hn5 hn6 hn7
  have HP := Lib.hid hp
  have hl : IsRepL [129, 0, 0, 0, 0, 0, n0, n1, n2, n3, n4, n5, n6, n7] := ⟨rfl, fun i h6 h14 => by
    have hh : i = 6 ∨ i = 7 ∨ i = 8 ∨ i = 9 ∨ i = 10 ∨ i = 11 ∨ i = 12 ∨ i = 13 := by omega
    rcases hh with rfl | rfl | rfl | rfl | rfl | rfl | rfl | rfl
    · exact hn0
    · exact hn1
    · exact hn2
    · exact hn3
    · exact hn4
    · exact hn5
    · exact hn6
    · exact hn7⟩
  have NQ0 := fun W => neq_rep [129, 0, 0, 0, 0, 0, n0, n1, n2, n3, n4, n5, n6, n7] [129, 0, 0, 0, 0, 0, n0, n1, n2, n3, n4, n5, n6, n7] hl hl W
  rw [decide_eq_true rfl] at NQ0
  have NQ : ∀ W, (binOp .neq 40 (.agg #[.int .i64 129, .int .i64 0, .int .i64 0, .int .i64 0, .int .i64 0, .int .i64 0, .int .u8 n0, .int .u8 n1, .int .u8 n2, .int .u8 n3, .int .u8 n4, .int .u8 n5, .int .u8 n6, .int .u8 n7]) (.agg #[.int .i64 129, .int .i64 0, .int .i64 0, .int .i64 0, .int .i64 0, .int .i64 0, .int .u8 n0, .int .u8 n1, .int .u8 n2, .int .u8 n3, .int .u8 n4, .int .u8 n5, .int .u8 n6, .int .u8 n7])).run Try.prog W = .ok (.bool false) W := NQ0
  have CN : Hid (∀ W, Calls Try.prog 32 #[.agg #[.int .i64 129, .int .i64 0, .int .i64 0, .int .i64 0, .int .i64 0, .int .i64 0, .int .u8 n0, .int .u8 n1, .int .u8 n2, .int .u8 n3, .int .u8 n4, .int .u8 n5, .int .u8 n6, .int .u8 n7]] W fun e' w' => e' = .returned (.agg #[.int .i64 129, .int .i64 0, .int .i64 0, .int .i64 0, .int .i64 0, .int .i64 0, .int .u8 n0, .int .u8 n1, .int .u8 n2, .int .u8 n3, .int .u8 n4, .int .u8 n5, .int .u8 n6, .int .u8 n7]) ∧ Below W.heap.size W w') := Lib.hid fun W => replies_129 0 0 0 0 0 n0 n1 n2 n3 n4 n5 n6 n7 W
  have hc0 : inB 129 129 136 = true := by unfold inB; simp; try omega
  have hc1 : inB 0 0 4294967295 = true := by unfold inB; simp; try omega
  have hc2 : inB 0 0 3 = true := by unfold inB; simp; try omega
  have hc3 : inB 0 0 4 = true := by unfold inB; simp; try omega
  have hc4 : inB 0 0 65535 = true := by unfold inB; simp; try omega
  have hc5 : inB 0 0 255 = true := by unfold inB; simp; try omega
  have HN0 := Lib.hid hn0
  have HN1 := Lib.hid hn1
  have HN2 := Lib.hid hn2
  have HN3 := Lib.hid hn3
  have HN4 := Lib.hid hn4
  have HN5 := Lib.hid hn5
  have HN6 := Lib.hid hn6
  have HN7 := Lib.hid hn7
  clear hp hl NQ0 hn0 hn1 hn2 hn3 hn4 hn5 hn6 hn7
  go_enter Try.func17, Try.ntmps17
  go_wp2_with fail
  ((with_reducible refine (in_any _ _ _ _).mono ?_))
  rintro e' v0 ⟨rfl, rfl⟩
  rw [hc0]
  go_wp2_with fail
  ((with_reducible refine (in_any _ _ _ _).mono ?_))
  rintro e' v1 ⟨rfl, rfl⟩
  rw [hc1]
  go_wp2_with fail
  ((with_reducible refine (in_any _ _ _ _).mono ?_))
  rintro e' v2 ⟨rfl, rfl⟩
  rw [hc2]
  go_wp2_with fail
  ((with_reducible refine (in_any _ _ _ _).mono ?_))
  rintro e' v3 ⟨rfl, rfl⟩
  rw [hc3]
  go_wp2_with fail
  ((with_reducible refine (in_any _ _ _ _).mono ?_))
  rintro e' v4 ⟨rfl, rfl⟩
  rw [hc4]
  go_wp2_with fail
  ((with_reducible refine (in_any _ _ _ _).mono ?_))
  rintro e' v5 ⟨rfl, rfl⟩
  rw [hc5]
  go_wp2_with fail
  have K1 := Lib.hid (Blk.new w #[.int .i64 129, .int .i64 0, .int .i64 0, .int .i64 0, .int .i64 0, .int .i64 0, .int .u8 n0, .int .u8 n1, .int .u8 n2, .int .u8 n3, .int .u8 n4, .int .u8 n5, .int .u8 n6, .int .u8 n7] 40)
  have BB := Lib.hid (below_alloc1 w (.cells #[.int .i64 129, .int .i64 0, .int .i64 0, .int .i64 0, .int .i64 0, .int .i64 0, .int .u8 n0, .int .u8 n1, .int .u8 n2, .int .u8 n3, .int .u8 n4, .int .u8 n5, .int .u8 n6, .int .u8 n7] 40))
  generalize w.alloc (.cells #[.int .i64 129, .int .i64 0, .int .i64 0, .int .i64 0, .int .i64 0, .int .i64 0, .int .u8 n0, .int .u8 n1, .int .u8 n2, .int .u8 n3, .int .u8 n4, .int .u8 n5, .int .u8 n6, .int .u8 n7] 40) = w1 at *
  clear hc0 hc1 hc2 hc3 hc4 hc5
  refine wp_region_ext (by kernel_rfl) (by kernel_rfl) ?_
  repeat (first
        | go_big_quiet_skip
        | (go_big_quiet_want
           first
             | (refine quiet_load_blk (T := 40) (g := w.heap.size) agg_rep _ rfl rfl K1 ?_ ?_; (· rfl); go_simp; go_big_quiet_on)
             | (go_big_quiet_op
                first
                  | go_big_quiet_on
                  | go_big_quiet_call (((with_reducible refine ext_of (CN.out _)))))))
  refine wpQuiet_nil ?_
  intro _ hw'
  obtain ⟨y9, rfl⟩ := hw'
  replace K1 := Lib.hid (K1.out.below (exw_bel y9))
  replace BB := Lib.hid (bt BB.out (exw_bel y9))
  generalize exw w1 y9 = w2 at *
  clear NQ CN
  have c0 : w2.cell? ⟨w.heap.size, 0, none⟩ = some (.int .i64 129) := (K1.out.cell 0).trans rfl
  have lw0 := K1.out.lt
  go_wp2_with ((with_reducible show wpList _ _ _ (⟨some 53, _, _, _, _, _⟩ :: _) _ _); refine Marker.mk ?_)
  refine Marker.in ?_
  have KK := Lib.hid (Blk.new w2 (u8V [129]) 5)
  have B3 := below_alloc1 w2 (.cells (u8V [129]) 5)
  have OK : Hid (Own (w2.alloc (.cells (u8V [129]) 5)) w2.heap.size (some ⟨w2.heap.size, 0, none⟩) 1 [129]) := Lib.hid (own_one w2 129 (by omega) (by omega))
  replace K1 := Lib.hid (K1.out.below B3)
  replace BB := Lib.hid (bt BB.out B3)
  have lz := B3.size
  have lw : w.heap.size ≤ w2.heap.size := by omega
  rw [show w2.alloc (.cells #[.int .u8 129] 5) = w2.alloc (.cells (u8V [129]) 5) from rfl]
  generalize w2.alloc (.cells (u8V [129]) 5) = w3 at *
  generalize hb2 : w2.heap.size = base at *
  clear B3 hb2 c0 
  have RN : Hid (Row w3 (some ⟨w.heap.size, 6, none⟩) [n0, n1, n2, n3, n4, n5, n6, n7]) := Lib.hid ⟨.inr ⟨w.heap.size, 6, rfl, fun i hi => by
    have hh : i = 0 ∨ i = 1 ∨ i = 2 ∨ i = 3 ∨ i = 4 ∨ i = 5 ∨ i = 6 ∨ i = 7 := by simp at hi; omega
    rcases hh with rfl | rfl | rfl | rfl | rfl | rfl | rfl | rfl
    · exact (K1.out.cell 6).trans rfl
    · exact (K1.out.cell 7).trans rfl
    · exact (K1.out.cell 8).trans rfl
    · exact (K1.out.cell 9).trans rfl
    · exact (K1.out.cell 10).trans rfl
    · exact (K1.out.cell 11).trans rfl
    · exact (K1.out.cell 12).trans rfl
    · exact (K1.out.cell 13).trans rfl⟩, fun x hx => by
    simp only [List.mem_cons, List.not_mem_nil, or_false] at hx
    rcases hx with rfl | rfl | rfl | rfl | rfl | rfl | rfl | rfl
    · exact HN0.out
    · exact HN1.out
    · exact HN2.out
    · exact HN3.out
    · exact HN4.out
    · exact HN5.out
    · exact HN6.out
    · exact HN7.out⟩
  (with_reducible refine wpList_append_bytes _ rfl (.tmp 50) (.tmp 52) rfl base (some ⟨base, 0, none⟩) 1 1 [129] rfl rfl OK.out (some ⟨w.heap.size, 6, none⟩) 8 8 [n0, n1, n2, n3, n4, n5, n6, n7] rfl rfl RN.out (by omega) lz ?_)
  intro A5 c5 w5 o5 b5
  have O5 := Lib.hid o5
  replace BB := Lib.hid (BB.out.trans (b5.mono lw))
  clear o5 b5
  go_wp2_with fail
  go_ret2
  exact rqP_some HP.out rfl rfl O5.out BB.out
def RW130 (g base : Nat) (r t e : Int) (i : Nat) (v : Value) (w : World) : Prop := match i with
  | 0 => v = .slice (some ⟨base, 0, none⟩) 1 1 ∧ Blk w base (u8V [130]) 5
  | 1 => v = .pointer (some ⟨g, 2, none⟩)
  | 2 => v = .int .i64 r
  | 3 => v = .int .u8 r
  | 4 => v = .pointer (some ⟨g, 3, none⟩)
  | 5 => v = .int .i64 t
  | 6 => v = .int .u8 t
  | 7 => ∃ g, v = .slice (some ⟨g, 0, none⟩) 2 2 ∧ Blk w g (u8V [r, t]) 5
  | 8 => ∃ A cp, v = .slice A 3 cp ∧ Own w base A cp ([130] ++ [r, t])
  | 9 => v = .pointer (some ⟨g, 4, none⟩)
  | 10 => v = .int .i64 e
  | 11 => ∃ g, v = .slice (some ⟨g, 0, none⟩) 2 2 ∧ Blk w g (u8V (be e 2)) 5
  | 12 => ∃ A cp, v = .slice A 5 cp ∧ Own w base A cp (([130] ++ [r, t]) ++ be e 2)
  | 13 => ∃ A cp, v = .slice A 5 cp ∧ Own w base A cp (([130] ++ [r, t]) ++ be e 2)
  | _ => v = .int .i64 0
theorem RW130_keep (g base : Nat) (r t e : Int) : ∀ i v w w', i < 15 → RW130 g base r t e i v w → GrowR base 5 3 ((be e 2 : List Int).map (Value.int .u8)) w w' → RW130 g base r t e i v w' := by
  intro i v w w' hi h hb
  unfold RW130 at *
  split at h
  case h_1 => exact ⟨h.1, growR_small hb h.2 (by simp [u8V_size])⟩
  case h_8 => obtain ⟨g, e, k⟩ := h; exact ⟨g, e, growR_small hb k (by simp [u8V_size, be_len])⟩
  case h_9 => obtain ⟨A, cp, e1, o⟩ := h; exact ⟨A, cp, e1, growR_ownP hb o (.inl (by simp [be_len]))⟩
  case h_12 => obtain ⟨g, e, k⟩ := h; exact ⟨g, e, growR_small hb k (by simp [u8V_size, be_len])⟩
  case h_13 => obtain ⟨A, cp, e1, o⟩ := h; exact ⟨A, cp, e1, growR_ownP hb o (.inr ⟨([130] ++ [r, t]), be e 2, [], by simp [be_len], by simp, rfl⟩)⟩
  case h_14 => obtain ⟨A, cp, e1, o⟩ := h; exact ⟨A, cp, e1, growR_ownP hb o (.inr ⟨([130] ++ [r, t]), be e 2, [], by simp [be_len], by simp, rfl⟩)⟩
  all_goals exact h
set_option maxRecDepth 100000 in
set_option maxHeartbeats 1600000 in
theorem rq_130 (r t e : Int) (hr : 0 ≤ r ∧ r ≤ 3) (ht : 0 ≤ t ∧ t ≤ 4) (he : 0 ≤ e ∧ e ≤ 65535) (w : World) :
    Calls Try.prog 17 #[.agg #[.int .i64 130, .int .i64 0, .int .i64 r, .int .i64 t, .int .i64 e, .int .i64 0, .int .u8 0, .int .u8 0, .int .u8 0, .int .u8 0, .int .u8 0, .int .u8 0, .int .u8 0, .int .u8 0]] w (RqP [130, 0, r, t, e, 0, 0, 0, 0, 0, 0, 0, 0, 0] w) := by
  have hp := putR8_lit130 r t e hr ht he
  have HP := Lib.hid hp
  have hl : IsRepL [130, 0, r, t, e, 0, 0, 0, 0, 0, 0, 0, 0, 0] := ⟨rfl, fun i h6 h14 => by
    have hh : i = 6 ∨ i = 7 ∨ i = 8 ∨ i = 9 ∨ i = 10 ∨ i = 11 ∨ i = 12 ∨ i = 13 := by omega
    rcases hh with rfl | rfl | rfl | rfl | rfl | rfl | rfl | rfl
    · exact (show (0 : Int) ≤ 0 ∧ (0 : Int) ≤ 255 from ⟨by decide, by decide⟩)
    · exact (show (0 : Int) ≤ 0 ∧ (0 : Int) ≤ 255 from ⟨by decide, by decide⟩)
    · exact (show (0 : Int) ≤ 0 ∧ (0 : Int) ≤ 255 from ⟨by decide, by decide⟩)
    · exact (show (0 : Int) ≤ 0 ∧ (0 : Int) ≤ 255 from ⟨by decide, by decide⟩)
    · exact (show (0 : Int) ≤ 0 ∧ (0 : Int) ≤ 255 from ⟨by decide, by decide⟩)
    · exact (show (0 : Int) ≤ 0 ∧ (0 : Int) ≤ 255 from ⟨by decide, by decide⟩)
    · exact (show (0 : Int) ≤ 0 ∧ (0 : Int) ≤ 255 from ⟨by decide, by decide⟩)
    · exact (show (0 : Int) ≤ 0 ∧ (0 : Int) ≤ 255 from ⟨by decide, by decide⟩)⟩
  have NQ0 := fun W => neq_rep [130, 0, r, t, e, 0, 0, 0, 0, 0, 0, 0, 0, 0] [130, 0, r, t, e, 0, 0, 0, 0, 0, 0, 0, 0, 0] hl hl W
  rw [decide_eq_true rfl] at NQ0
  have NQ : ∀ W, (binOp .neq 40 (.agg #[.int .i64 130, .int .i64 0, .int .i64 r, .int .i64 t, .int .i64 e, .int .i64 0, .int .u8 0, .int .u8 0, .int .u8 0, .int .u8 0, .int .u8 0, .int .u8 0, .int .u8 0, .int .u8 0]) (.agg #[.int .i64 130, .int .i64 0, .int .i64 r, .int .i64 t, .int .i64 e, .int .i64 0, .int .u8 0, .int .u8 0, .int .u8 0, .int .u8 0, .int .u8 0, .int .u8 0, .int .u8 0, .int .u8 0])).run Try.prog W = .ok (.bool false) W := NQ0
  have CN : Hid (∀ W, Calls Try.prog 32 #[.agg #[.int .i64 130, .int .i64 0, .int .i64 r, .int .i64 t, .int .i64 e, .int .i64 0, .int .u8 0, .int .u8 0, .int .u8 0, .int .u8 0, .int .u8 0, .int .u8 0, .int .u8 0, .int .u8 0]] W fun e' w' => e' = .returned (.agg #[.int .i64 130, .int .i64 0, .int .i64 r, .int .i64 t, .int .i64 e, .int .i64 0, .int .u8 0, .int .u8 0, .int .u8 0, .int .u8 0, .int .u8 0, .int .u8 0, .int .u8 0, .int .u8 0]) ∧ Below W.heap.size W w') := Lib.hid fun W => replies_130 0 r t e 0 0 0 0 0 0 0 0 0 W
  have hc0 : inB 130 129 136 = true := by unfold inB; simp; try omega
  have hc1 : inB 0 0 4294967295 = true := by unfold inB; simp; try omega
  have hc2 : inB r 0 3 = true := by unfold inB; simp; try omega
  have hc3 : inB t 0 4 = true := by unfold inB; simp; try omega
  have hc4 : inB e 0 65535 = true := by unfold inB; simp; try omega
  have hc5 : inB 0 0 255 = true := by unfold inB; simp; try omega
  have qr0 : (0 : Int) ≤ r := by omega
  have qr1 : r ≤ 255 := by omega
  have hzr : IntKind.u8.wrap r = r := by simp [IntKind.wrap, IntKind.bits, IntKind.signed]; omega
  have qt0 : (0 : Int) ≤ t := by omega
  have qt1 : t ≤ 255 := by omega
  have hzt : IntKind.u8.wrap t = t := by simp [IntKind.wrap, IntKind.bits, IntKind.signed]; omega
  have CPe := Lib.hid (fun W => ref08_2 e he.1 he.2 W)
  clear hp hl NQ0 hr ht he
  go_enter Try.func17, Try.ntmps17
  go_wp2_with fail
  ((with_reducible refine (in_any _ _ _ _).mono ?_))
  rintro e' v0 ⟨rfl, rfl⟩
  rw [hc0]
  go_wp2_with fail
  ((with_reducible refine (in_any _ _ _ _).mono ?_))
  rintro e' v1 ⟨rfl, rfl⟩
  rw [hc1]
  go_wp2_with fail
  ((with_reducible refine (in_any _ _ _ _).mono ?_))
  rintro e' v2 ⟨rfl, rfl⟩
  rw [hc2]
  go_wp2_with fail
  ((with_reducible refine (in_any _ _ _ _).mono ?_))
  rintro e' v3 ⟨rfl, rfl⟩
  rw [hc3]
  go_wp2_with fail
  ((with_reducible refine (in_any _ _ _ _).mono ?_))
  rintro e' v4 ⟨rfl, rfl⟩
  rw [hc4]
  go_wp2_with fail
  ((with_reducible refine (in_any _ _ _ _).mono ?_))
  rintro e' v5 ⟨rfl, rfl⟩
  rw [hc5]
  go_wp2_with fail
  have K1 := Lib.hid (Blk.new w #[.int .i64 130, .int .i64 0, .int .i64 r, .int .i64 t, .int .i64 e, .int .i64 0, .int .u8 0, .int .u8 0, .int .u8 0, .int .u8 0, .int .u8 0, .int .u8 0, .int .u8 0, .int .u8 0] 40)
  have BB := Lib.hid (below_alloc1 w (.cells #[.int .i64 130, .int .i64 0, .int .i64 r, .int .i64 t, .int .i64 e, .int .i64 0, .int .u8 0, .int .u8 0, .int .u8 0, .int .u8 0, .int .u8 0, .int .u8 0, .int .u8 0, .int .u8 0] 40))
  generalize w.alloc (.cells #[.int .i64 130, .int .i64 0, .int .i64 r, .int .i64 t, .int .i64 e, .int .i64 0, .int .u8 0, .int .u8 0, .int .u8 0, .int .u8 0, .int .u8 0, .int .u8 0, .int .u8 0, .int .u8 0] 40) = w1 at *
  clear hc0 hc1 hc2 hc3 hc4 hc5
  refine wp_region_ext (by kernel_rfl) (by kernel_rfl) ?_
  repeat (first
        | go_big_quiet_skip
        | (go_big_quiet_want
           first
             | (refine quiet_load_blk (T := 40) (g := w.heap.size) agg_rep _ rfl rfl K1 ?_ ?_; (· rfl); go_simp; go_big_quiet_on)
             | (go_big_quiet_op
                first
                  | go_big_quiet_on
                  | go_big_quiet_call (((with_reducible refine ext_of (CN.out _)))))))
  refine wpQuiet_nil ?_
  intro _ hw'
  obtain ⟨y9, rfl⟩ := hw'
  replace K1 := Lib.hid (K1.out.below (exw_bel y9))
  replace BB := Lib.hid (bt BB.out (exw_bel y9))
  generalize exw w1 y9 = w2 at *
  clear NQ CN
  have c0 : w2.cell? ⟨w.heap.size, 0, none⟩ = some (.int .i64 130) := (K1.out.cell 0).trans rfl
  have lw0 := K1.out.lt
  have c2w2 : w2.cell? ⟨w.heap.size, 2, none⟩ = some (.int .i64 r) := (K1.out.cell 2).trans rfl
  have c3w2 : w2.cell? ⟨w.heap.size, 3, none⟩ = some (.int .i64 t) := (K1.out.cell 3).trans rfl
  have c4w2 : w2.cell? ⟨w.heap.size, 4, none⟩ = some (.int .i64 e) := (K1.out.cell 4).trans rfl
  go_wp2_with fail
  have KK := Lib.hid (Blk.new w2 (u8V [130]) 5)
  have B3 := below_alloc1 w2 (.cells (u8V [130]) 5)
  have OK : Hid (Own (w2.alloc (.cells (u8V [130]) 5)) w2.heap.size (some ⟨w2.heap.size, 0, none⟩) 1 [130]) := Lib.hid (own_one w2 130 (by omega) (by omega))
  replace K1 := Lib.hid (K1.out.below B3)
  replace BB := Lib.hid (bt BB.out B3)
  have lz := B3.size
  have lw : w.heap.size ≤ w2.heap.size := by omega
  rw [show w2.alloc (.cells #[.int .u8 130] 5) = w2.alloc (.cells (u8V [130]) 5) from rfl]
  generalize w2.alloc (.cells (u8V [130]) 5) = w3 at *
  generalize hb2 : w2.heap.size = base at *
  clear B3 hb2 c0 c2w2 c3w2 c4w2
  have LH : Hid (([130] ++ [r, t]).length = 3) := Lib.hid (by simp [be_len])
  have LY1 : Hid (([r, t] : List Int).length = 2) := Lib.hid (by simp [be_len])
  refine wp_region_confR' (growR_kept (b0 := base) (T := 5) (N := 3) (ys := (be e 2 : List Int).map (Value.int .u8))) (by kernel_rfl) 15 (by kernel_rfl) (by simp) (by decide) (RW130 w.heap.size base r t e) (RW130_keep _ _ _ _ _) ?_ ?_
  · simp only [ConfStepsR, List.take_succ_cons, List.take_zero, putAll, Act.put, List.setIfInBounds_toArray, List.set_cons_succ, List.set_cons_zero, and_true]
    refine ⟨?_, ?_, ?_, ?_, ?_, ?_, ?_, ?_, ?_, ?_, ?_, ?_, ?_, ?_, ?_⟩
    all_goals intro v w' hb hd
    · exact conf_valueR growR_kept (wanted0 rfl) (by simp [go_sem]) ⟨rfl, growR_small hb KK.out (by simp [u8V_size])⟩
    · exact conf_valueR growR_kept (wanted0 rfl) (by simp [go_sem]) rfl
    · have d1 : v 1 = .pointer (some ⟨w.heap.size, 2, none⟩) := hd.at 1 rfl
      have cc : w'.cell? ⟨w.heap.size, 2, none⟩ = some (.int .i64 r) := (Blk.cell (growR_blk hb K1.out (by decide)) 2).trans rfl
      exact conf_valueR growR_kept (wanted0 rfl) (by simp [go_sem, d1, cc]) rfl
    · have d2 : v 2 = .int .i64 r := hd.at 2 rfl
      exact conf_valueR growR_kept (wanted0 rfl) (by simp [go_sem, d2, hzr]) rfl
    · exact conf_valueR growR_kept (wanted0 rfl) (by simp [go_sem]) rfl
    · have d4 : v 4 = .pointer (some ⟨w.heap.size, 3, none⟩) := hd.at 4 rfl
      have cc : w'.cell? ⟨w.heap.size, 3, none⟩ = some (.int .i64 t) := (Blk.cell (growR_blk hb K1.out (by decide)) 3).trans rfl
      exact conf_valueR growR_kept (wanted0 rfl) (by simp [go_sem, d4, cc]) rfl
    · have d5 : v 5 = .int .i64 t := hd.at 5 rfl
      exact conf_valueR growR_kept (wanted0 rfl) (by simp [go_sem, d5, hzt]) rfl
    · have d3 : v 3 = .int .u8 r := hd.at 3 rfl
      have d6 : v 6 = .int .u8 t := hd.at 6 rfl
      refine conf_makeR (w' := w'.alloc (.cells (u8V [r, t]) 5)) (v := .slice (some ⟨w'.heap.size, 0, none⟩) 2 2) (wanted0 rfl) (by simp [go_sem, d3, d6, u8V]) (growR_below (below_alloc1 w' _)) ⟨w'.heap.size, rfl, Blk.new _ _ _⟩
    · obtain ⟨d0, k0⟩ : v 0 = .slice (some ⟨base, 0, none⟩) 1 1 ∧ Blk w' base (u8V [130]) 5 := hd.at 0 rfl
      obtain ⟨g6, d7, k6⟩ : ∃ g, v 7 = .slice (some ⟨g, 0, none⟩) 2 2 ∧ Blk w' g (u8V [r, t]) 5 := hd.at 7 rfl
      obtain ⟨A', cp', w2', hrun, hown, hbel⟩ := run_append_full w' base [130] (u8V_row k0 (fun x hx => by simp at hx; omega)) g6 2 ([r, t]) (u8V_row k6 (fun x hx => by simp at hx; omega)) (by simp [be_len]) (by simp [be_len]) 27
      rw [LY1.out] at hrun
      exact conf_makeR (wanted0 rfl) (run_op_append rfl (by simp [go_sem, d0]) (by simp [go_sem, d7]) hrun) (growR_below hbel) ⟨A', cp', rfl, own_monoR hown (Nat.le_trans lz hb.1)⟩
    · exact conf_valueR growR_kept (wanted0 rfl) (by simp [go_sem]) rfl
    · have d9 : v 9 = .pointer (some ⟨w.heap.size, 4, none⟩) := hd.at 9 rfl
      have cc : w'.cell? ⟨w.heap.size, 4, none⟩ = some (.int .i64 e) := (Blk.cell (growR_blk hb K1.out (by decide)) 4).trans rfl
      exact conf_valueR growR_kept (wanted0 rfl) (by simp [go_sem, d9, cc]) rfl
    · have d10 : v 10 = .int .i64 e := hd.at 10 rfl
      refine conf_callR (f := 26) (args := #[v 10, .int .i64 2]) (wanted0 rfl) (by simp [go_sem]) ?_
      rw [d10]
      exact (CPe.out w').mono fun e' w'' ⟨g6, he, k6, b6⟩ => ⟨_, he, growR_below b6, g6, rfl, k6⟩
    · obtain ⟨A7, c7, d8, o7⟩ : ∃ A cp, v 8 = .slice A 3 cp ∧ Own w' base A cp ([130] ++ [r, t]) := hd.at 8 rfl
      obtain ⟨g8, d11, k8⟩ : ∃ g, v 11 = .slice (some ⟨g, 0, none⟩) 2 2 ∧ Blk w' g (u8V (be e 2)) 5 := hd.at 11 rfl
      obtain ⟨A', cp', w2', hrun, hown, hrel⟩ := run_append_bytesR w' base base A7 c7 ([130] ++ [r, t]) o7 (some ⟨g8, 0, none⟩) 2 (be e 2) (u8V_row k8 (be_bytes e 2)) (by simp [be_len]) (by simp [be_len]) (Nat.le_trans lz hb.1) (Nat.le_refl _) 27
      rw [LH.out] at hrun hrel
      rw [be_len] at hrun
      exact conf_makeR (wanted0 rfl) (run_op_append rfl (by simp [go_sem, d8]) (by simp [go_sem, d11]) hrun) hrel ⟨A', cp', rfl, hown⟩
    · obtain ⟨A8, c8, d12, o8⟩ : ∃ A cp, v 12 = .slice A 5 cp ∧ Own w' base A cp (([130] ++ [r, t]) ++ be e 2) := hd.at 12 rfl
      exact conf_valueR growR_kept (wanted0 rfl) (by simp [go_sem, d12]) ⟨A8, c8, rfl, o8⟩
    · exact conf_valueR growR_kept (wanted0 rfl) (by simp [go_sem]) rfl
  · intro v w' hb hr
    obtain ⟨A8, c8, e8, o8⟩ : ∃ A cp, v 13 = .slice A 5 cp ∧ Own w' base A cp (([130] ++ [r, t]) ++ be e 2) := hr 13 (by omega)
    have e11 : v 14 = .int .i64 0 := hr 14 (by omega)
    simp only [List.take_succ_cons, List.take_zero, List.drop_succ_cons, List.drop_zero, putAll, Act.put, List.setIfInBounds_toArray, List.set_cons_succ, List.set_cons_zero]
    rw [e8, e11]
    have O8 := Lib.hid o8
    replace BB := Lib.hid (BB.out.trans ((hb.2.1 lz).mono lw))
    clear hr hb o8 e8 e11
    go_wp2_with fail
    go_ret2
    exact rqP_some HP.out (by simp [be_len]) rfl O8.out BB.out
set_option maxRecDepth 100000 in
set_option maxHeartbeats 1600000 in
theorem rq_131 (s : Int) (hs : 0 ≤ s ∧ s ≤ 4294967295) (w : World) :
    Calls Try.prog 17 #[.agg #[.int .i64 131, .int .i64 s, .int .i64 0, .int .i64 0, .int .i64 0, .int .i64 0, .int .u8 0, .int .u8 0, .int .u8 0, .int .u8 0, .int .u8 0, .int .u8 0, .int .u8 0, .int .u8 0]] w (RqP [131, s, 0, 0, 0, 0, 0, 0, 0, 0, 0, 0, 0, 0] w) := by
  have hp := putR8_lit131 s hs
  have HP := Lib.hid hp
  have hl : IsRepL [131, s, 0, 0, 0, 0, 0, 0, 0, 0, 0, 0, 0, 0] := ⟨rfl, fun i h6 h14 => by
    have hh : i = 6 ∨ i = 7 ∨ i = 8 ∨ i = 9 ∨ i = 10 ∨ i = 11 ∨ i = 12 ∨ i = 13 := by omega
    rcases hh with rfl | rfl | rfl | rfl | rfl | rfl | rfl | rfl
    · exact (show (0 : Int) ≤ 0 ∧ (0 : Int) ≤ 255 from ⟨by decide, by decide⟩)
    · exact (show (0 : Int) ≤ 0 ∧ (0 : Int) ≤ 255 from ⟨by decide, by decide⟩)
    · exact (show (0 : Int) ≤ 0 ∧ (0 : Int) ≤ 255 from ⟨by decide, by decide⟩)
    · exact (show (0 : Int) ≤ 0 ∧ (0 : Int) ≤ 255 from ⟨by decide, by decide⟩)
    · exact (show (0 : Int) ≤ 0 ∧ (0 : Int) ≤ 255 from ⟨by decide, by decide⟩)
    · exact (show (0 : Int) ≤ 0 ∧ (0 : Int) ≤ 255 from ⟨by decide, by decide⟩)
    · exact (show (0 : Int) ≤ 0 ∧ (0 : Int) ≤ 255 from ⟨by decide, by decide⟩)
    · exact (show (0 : Int) ≤ 0 ∧ (0 : Int) ≤ 255 from ⟨by decide, by decide⟩)⟩
  have NQ0 := fun W => neq_rep [131, s, 0, 0, 0, 0, 0, 0, 0, 0, 0, 0, 0, 0] [131, s, 0, 0, 0, 0, 0, 0, 0, 0, 0, 0, 0, 0] hl hl W
  rw [decide_eq_true rfl] at NQ0
  have NQ : ∀ W, (binOp .neq 40 (.agg #[.int .i64 131, .int .i64 s, .int .i64 0, .int .i64 0, .int .i64 0, .int .i64 0, .int .u8 0, .int .u8 0, .int .u8 0, .int .u8 0, .int .u8 0, .int .u8 0, .int .u8 0, .int .u8 0]) (.agg #[.int .i64 131, .int .i64 s, .int .i64 0, .int .i64 0, .int .i64 0, .int .i64 0, .int .u8 0, .int .u8 0, .int .u8 0, .int .u8 0, .int .u8 0, .int .u8 0, .int .u8 0, .int .u8 0])).run Try.prog W = .ok (.bool false) W := NQ0
  have CN : Hid (∀ W, Calls Try.prog 32 #[.agg #[.int .i64 131, .int .i64 s, .int .i64 0, .int .i64 0, .int .i64 0, .int .i64 0, .int .u8 0, .int .u8 0, .int .u8 0, .int .u8 0, .int .u8 0, .int .u8 0, .int .u8 0, .int .u8 0]] W fun e' w' => e' = .returned (.agg #[.int .i64 131, .int .i64 s, .int .i64 0, .int .i64 0, .int .i64 0, .int .i64 0, .int .u8 0, .int .u8 0, .int .u8 0, .int .u8 0, .int .u8 0, .int .u8 0, .int .u8 0, .int .u8 0]) ∧ Below W.heap.size W w') := Lib.hid fun W => replies_131 s 0 0 0 0 0 0 0 0 0 0 0 0 W
  have hc0 : inB 131 129 136 = true := by unfold inB; simp; try omega
  have hc1 : inB s 0 4294967295 = true := by unfold inB; simp; try omega
  have hc2 : inB 0 0 3 = true := by unfold inB; simp; try omega
  have hc3 : inB 0 0 4 = true := by unfold inB; simp; try omega
  have hc4 : inB 0 0 65535 = true := by unfold inB; simp; try omega
  have hc5 : inB 0 0 255 = true := by unfold inB; simp; try omega
  have CPs := Lib.hid (fun W => ref08_4 s hs.1 hs.2 W)
  clear hp hl NQ0 hs
  go_enter Try.func17, Try.ntmps17
  go_wp2_with fail
  ((with_reducible refine (in_any _ _ _ _).mono ?_))
  rintro e' v0 ⟨rfl, rfl⟩
  rw [hc0]
  go_wp2_with fail
  ((with_reducible refine (in_any _ _ _ _).mono ?_))
  rintro e' v1 ⟨rfl, rfl⟩
  rw [hc1]
  go_wp2_with fail
  ((with_reducible refine (in_any _ _ _ _).mono ?_))
  rintro e' v2 ⟨rfl, rfl⟩
  rw [hc2]
  go_wp2_with fail
  ((with_reducible refine (in_any _ _ _ _).mono ?_))
  rintro e' v3 ⟨rfl, rfl⟩
  rw [hc3]
  go_wp2_with fail
  ((with_reducible refine (in_any _ _ _ _).mono ?_))
  rintro e' v4 ⟨rfl, rfl⟩
  rw [hc4]
  go_wp2_with fail
  ((with_reducible refine (in_any _ _ _ _).mono ?_))
  rintro e' v5 ⟨rfl, rfl⟩
  rw [hc5]
  go_wp2_with fail
  have K1 := Lib.hid (Blk.new w #[.int .i64 131, .int .i64 s, .int .i64 0, .int .i64 0, .int .i64 0, .int .i64 0, .int .u8 0, .int .u8 0, .int .u8 0, .int .u8 0, .int .u8 0, .int .u8 0, .int .u8 0, .int .u8 0] 40)
  have BB := Lib.hid (below_alloc1 w (.cells #[.int .i64 131, .int .i64 s, .int .i64 0, .int .i64 0, .int .i64 0, .int .i64 0, .int .u8 0, .int .u8 0, .int .u8 0, .int .u8 0, .int .u8 0, .int .u8 0, .int .u8 0, .int .u8 0] 40))
  generalize w.alloc (.cells #[.int .i64 131, .int .i64 s, .int .i64 0, .int .i64 0, .int .i64 0, .int .i64 0, .int .u8 0, .int .u8 0, .int .u8 0, .int .u8 0, .int .u8 0, .int .u8 0, .int .u8 0, .int .u8 0] 40) = w1 at *
  clear hc0 hc1 hc2 hc3 hc4 hc5
  refine wp_region_ext (by kernel_rfl) (by kernel_rfl) ?_
  repeat (first
        | go_big_quiet_skip
        | (go_big_quiet_want
           first
             | (refine quiet_load_blk (T := 40) (g := w.heap.size) agg_rep _ rfl rfl K1 ?_ ?_; (· rfl); go_simp; go_big_quiet_on)
             | (go_big_quiet_op
                first
                  | go_big_quiet_on
                  | go_big_quiet_call (((with_reducible refine ext_of (CN.out _)))))))
  refine wpQuiet_nil ?_
  intro _ hw'
  obtain ⟨y9, rfl⟩ := hw'
  replace K1 := Lib.hid (K1.out.below (exw_bel y9))
  replace BB := Lib.hid (bt BB.out (exw_bel y9))
  generalize exw w1 y9 = w2 at *
  clear NQ CN
  have c0 : w2.cell? ⟨w.heap.size, 0, none⟩ = some (.int .i64 131) := (K1.out.cell 0).trans rfl
  have lw0 := K1.out.lt
  have c1w2 : w2.cell? ⟨w.heap.size, 1, none⟩ = some (.int .i64 s) := (K1.out.cell 1).trans rfl
  go_wp2_with ((with_reducible show wpList _ _ _ (⟨some 74, _, _, _, _, _⟩ :: _) _ _); refine Marker.mk ?_)
  refine Marker.in ?_
  have KK := Lib.hid (Blk.new w2 (u8V [131]) 5)
  have B3 := below_alloc1 w2 (.cells (u8V [131]) 5)
  have OK : Hid (Own (w2.alloc (.cells (u8V [131]) 5)) w2.heap.size (some ⟨w2.heap.size, 0, none⟩) 1 [131]) := Lib.hid (own_one w2 131 (by omega) (by omega))
  replace K1 := Lib.hid (K1.out.below B3)
  replace BB := Lib.hid (bt BB.out B3)
  have lz := B3.size
  have lw : w.heap.size ≤ w2.heap.size := by omega
  rw [show w2.alloc (.cells #[.int .u8 131] 5) = w2.alloc (.cells (u8V [131]) 5) from rfl]
  generalize w2.alloc (.cells (u8V [131]) 5) = w3 at *
  generalize hb2 : w2.heap.size = base at *
  clear B3 hb2 c0 c1w2
  go_wp2_with fail
  ((with_reducible refine (CPs.out _).mono ?_))
  rintro e' w4 ⟨g4, rfl, k4, b4⟩
  have R4 := Lib.hid (u8V_row k4 (be_bytes s 4))
  replace BB := Lib.hid (bt BB.out b4)
  replace OK := Lib.hid (own_below OK.out b4)
  have lz4 : base ≤ w4.heap.size := Nat.le_trans lz b4.size
  clear b4 k4 CPs
  go_wp2_with ((with_reducible show wpList _ _ _ (⟨some 75, _, _, _, _, _⟩ :: _) _ _); (with_reducible refine wpList_append_bytes _ ?_ (.tmp 71) (.tmp 74) ?_ base (some ⟨base, 0, none⟩) 1 1 [131] ?_ ?_ OK.out (some ⟨g4, 0, none⟩) 4 4 (be s 4) ?_ ?_ R4.out ?_ ?_ ?_); (· rfl); (· rfl); (· rfl); (· rfl); (· exact be_len _ _); (· rfl); (· omega); (· exact lz4); rintro A5 c5 w5 o5 b5; refine Marker.mk ?_)
  refine Marker.in ?_
  have O5 := Lib.hid o5
  replace BB := Lib.hid (BB.out.trans (b5.mono lw))
  clear o5 b5 R4 OK lz4
  go_wp2_with fail
  go_ret2
  exact rqP_some HP.out (by simp [be_len]) rfl O5.out BB.out
def RW132 (g base : Nat) (s c : Int) (i : Nat) (v : Value) (w : World) : Prop := match i with
  | 0 => v = .slice (some ⟨base, 0, none⟩) 1 1 ∧ Blk w base (u8V [132]) 5
  | 1 => v = .pointer (some ⟨g, 1, none⟩)
  | 2 => v = .int .i64 s
  | 3 => ∃ g, v = .slice (some ⟨g, 0, none⟩) 4 4 ∧ Blk w g (u8V (be s 4)) 5
  | 4 => ∃ A cp, v = .slice A 5 cp ∧ Own w base A cp ([132] ++ be s 4)
  | 5 => v = .pointer (some ⟨g, 5, none⟩)
  | 6 => v = .int .i64 c
  | 7 => v = .int .u8 c
  | 8 => ∃ g, v = .slice (some ⟨g, 0, none⟩) 1 1 ∧ Blk w g (u8V [c]) 5
  | 9 => ∃ A cp, v = .slice A 6 cp ∧ Own w base A cp (([132] ++ be s 4) ++ [c])
  | 10 => ∃ A cp, v = .slice A 6 cp ∧ Own w base A cp (([132] ++ be s 4) ++ [c])
  | _ => v = .int .i64 0
theorem RW132_keep (g base : Nat) (s c : Int) : ∀ i v w w', i < 12 → RW132 g base s c i v w → GrowR base 5 5 (([c] : List Int).map (Value.int .u8)) w w' → RW132 g base s c i v w' := by
  intro i v w w' hi h hb
  unfold RW132 at *
  split at h
  case h_1 => exact ⟨h.1, growR_small hb h.2 (by simp [u8V_size])⟩
  case h_4 => obtain ⟨g, e, k⟩ := h; exact ⟨g, e, growR_small hb k (by simp [u8V_size, be_len])⟩
  case h_5 => obtain ⟨A, cp, e1, o⟩ := h; exact ⟨A, cp, e1, growR_ownP hb o (.inl (by simp [be_len]))⟩
  case h_9 => obtain ⟨g, e, k⟩ := h; exact ⟨g, e, growR_small hb k (by simp [u8V_size, be_len])⟩
  case h_10 => obtain ⟨A, cp, e1, o⟩ := h; exact ⟨A, cp, e1, growR_ownP hb o (.inr ⟨([132] ++ be s 4), [c], [], by simp [be_len], by simp, rfl⟩)⟩
  case h_11 => obtain ⟨A, cp, e1, o⟩ := h; exact ⟨A, cp, e1, growR_ownP hb o (.inr ⟨([132] ++ be s 4), [c], [], by simp [be_len], by simp, rfl⟩)⟩
  all_goals exact h
set_option maxRecDepth 100000 in
set_option maxHeartbeats 1600000 in
theorem rq_132 (s c : Int) (hs : 0 ≤ s ∧ s ≤ 4294967295) (hc : 0 ≤ c ∧ c ≤ 255) (w : World) :
    Calls Try.prog 17 #[.agg #[.int .i64 132, .int .i64 s, .int .i64 0, .int .i64 0, .int .i64 0, .int .i64 c, .int .u8 0, .int .u8 0, .int .u8 0, .int .u8 0, .int .u8 0, .int .u8 0, .int .u8 0, .int .u8 0]] w (RqP [132, s, 0, 0, 0, c, 0, 0, 0, 0, 0, 0, 0, 0] w) := by
  have hp := putR8_lit132 s c hs hc
  have HP := Lib.hid hp
  have hl : IsRepL [132, s, 0, 0, 0, c, 0, 0, 0, 0, 0, 0, 0, 0] := ⟨rfl, fun i h6 h14 => by
    have hh : i = 6 ∨ i = 7 ∨ i = 8 ∨ i = 9 ∨ i = 10 ∨ i = 11 ∨ i = 12 ∨ i = 13 := by omega
    rcases hh with rfl | rfl | rfl | rfl | rfl | rfl | rfl | rfl
    · exact (show (0 : Int) ≤ 0 ∧ (0 : Int) ≤ 255 from ⟨by decide, by decide⟩)
    · exact (show (0 : Int) ≤ 0 ∧ (0 : Int) ≤ 255 from ⟨by decide, by decide⟩)
    · exact (show (0 : Int) ≤ 0 ∧ (0 : Int) ≤ 255 from ⟨by decide, by decide⟩)
    · exact (show (0 : Int) ≤ 0 ∧ (0 : Int) ≤ 255 from ⟨by decide, by decide⟩)
    · exact (show (0 : Int) ≤ 0 ∧ (0 : Int) ≤ 255 from ⟨by decide, by decide⟩)
    · exact (show (0 : Int) ≤ 0 ∧ (0 : Int) ≤ 255 from ⟨by decide, by decide⟩)
    · exact (show (0 : Int) ≤ 0 ∧ (0 : Int) ≤ 255 from ⟨by decide, by decide⟩)
    · exact (show (0 : Int) ≤ 0 ∧ (0 : Int) ≤ 255 from ⟨by decide, by decide⟩)⟩
  have NQ0 := fun W => neq_rep [132, s, 0, 0, 0, c, 0, 0, 0, 0, 0, 0, 0, 0] [132, s, 0, 0, 0, c, 0, 0, 0, 0, 0, 0, 0, 0] hl hl W
  rw [decide_eq_true rfl] at NQ0
  have NQ : ∀ W, (binOp .neq 40 (.agg #[.int .i64 132, .int .i64 s, .int .i64 0, .int .i64 0, .int .i64 0, .int .i64 c, .int .u8 0, .int .u8 0, .int .u8 0, .int .u8 0, .int .u8 0, .int .u8 0, .int .u8 0, .int .u8 0]) (.agg #[.int .i64 132, .int .i64 s, .int .i64 0, .int .i64 0, .int .i64 0, .int .i64 c, .int .u8 0, .int .u8 0, .int .u8 0, .int .u8 0, .int .u8 0, .int .u8 0, .int .u8 0, .int .u8 0])).run Try.prog W = .ok (.bool false) W := NQ0
  have CN : Hid (∀ W, Calls Try.prog 32 #[.agg #[.int .i64 132, .int .i64 s, .int .i64 0, .int .i64 0, .int .i64 0, .int .i64 c, .int .u8 0, .int .u8 0, .int .u8 0, .int .u8 0, .int .u8 0, .int .u8 0, .int .u8 0, .int .u8 0]] W fun e' w' => e' = .returned (.agg #[.int .i64 132, .int .i64 s, .int .i64 0, .int .i64 0, .int .i64 0, .int .i64 c, .int .u8 0, .int .u8 0, .int .u8 0, .int .u8 0, .int .u8 0, .int .u8 0, .int .u8 0, .int .u8 0]) ∧ Below W.heap.size W w') := Lib.hid fun W => replies_132 s 0 0 0 c 0 0 0 0 0 0 0 0 W
  have hc0 : inB 132 129 136 = true := by unfold inB; simp; try omega
  have hc1 : inB s 0 4294967295 = true := by unfold inB; simp; try omega
  have hc2 : inB 0 0 3 = true := by unfold inB; simp; try omega
  have hc3 : inB 0 0 4 = true := by unfold inB; simp; try omega
  have hc4 : inB 0 0 65535 = true := by unfold inB; simp; try omega
  have hc5 : inB c 0 255 = true := by unfold inB; simp; try omega
  have CPs := Lib.hid (fun W => ref08_4 s hs.1 hs.2 W)
  have qc0 : (0 : Int) ≤ c := by omega
  have qc1 : c ≤ 255 := by omega
  have hzc : IntKind.u8.wrap c = c := by simp [IntKind.wrap, IntKind.bits, IntKind.signed]; omega
  clear hp hl NQ0 hs hc
  go_enter Try.func17, Try.ntmps17
  go_wp2_with fail
  ((with_reducible refine (in_any _ _ _ _).mono ?_))
  rintro e' v0 ⟨rfl, rfl⟩
  rw [hc0]
  go_wp2_with fail
  ((with_reducible refine (in_any _ _ _ _).mono ?_))
  rintro e' v1 ⟨rfl, rfl⟩
  rw [hc1]
  go_wp2_with fail
  ((with_reducible refine (in_any _ _ _ _).mono ?_))
  rintro e' v2 ⟨rfl, rfl⟩
  rw [hc2]
  go_wp2_with fail
  ((with_reducible refine (in_any _ _ _ _).mono ?_))
  rintro e' v3 ⟨rfl, rfl⟩
  rw [hc3]
  go_wp2_with fail
  ((with_reducible refine (in_any _ _ _ _).mono ?_))
  rintro e' v4 ⟨rfl, rfl⟩
  rw [hc4]
  go_wp2_with fail
  ((with_reducible refine (in_any _ _ _ _).mono ?_))
  rintro e' v5 ⟨rfl, rfl⟩
  rw [hc5]
  go_wp2_with fail
  have K1 := Lib.hid (Blk.new w #[.int .i64 132, .int .i64 s, .int .i64 0, .int .i64 0, .int .i64 0, .int .i64 c, .int .u8 0, .int .u8 0, .int .u8 0, .int .u8 0, .int .u8 0, .int .u8 0, .int .u8 0, .int .u8 0] 40)
  have BB := Lib.hid (below_alloc1 w (.cells #[.int .i64 132, .int .i64 s, .int .i64 0, .int .i64 0, .int .i64 0, .int .i64 c, .int .u8 0, .int .u8 0, .int .u8 0, .int .u8 0, .int .u8 0, .int .u8 0, .int .u8 0, .int .u8 0] 40))
  generalize w.alloc (.cells #[.int .i64 132, .int .i64 s, .int .i64 0, .int .i64 0, .int .i64 0, .int .i64 c, .int .u8 0, .int .u8 0, .int .u8 0, .int .u8 0, .int .u8 0, .int .u8 0, .int .u8 0, .int .u8 0] 40) = w1 at *
  clear hc0 hc1 hc2 hc3 hc4 hc5
  refine wp_region_ext (by kernel_rfl) (by kernel_rfl) ?_
  repeat (first
        | go_big_quiet_skip
        | (go_big_quiet_want
           first
             | (refine quiet_load_blk (T := 40) (g := w.heap.size) agg_rep _ rfl rfl K1 ?_ ?_; (· rfl); go_simp; go_big_quiet_on)
             | (go_big_quiet_op
                first
                  | go_big_quiet_on
                  | go_big_quiet_call (((with_reducible refine ext_of (CN.out _)))))))
  refine wpQuiet_nil ?_
  intro _ hw'
  obtain ⟨y9, rfl⟩ := hw'
  replace K1 := Lib.hid (K1.out.below (exw_bel y9))
  replace BB := Lib.hid (bt BB.out (exw_bel y9))
  generalize exw w1 y9 = w2 at *
  clear NQ CN
  have c0 : w2.cell? ⟨w.heap.size, 0, none⟩ = some (.int .i64 132) := (K1.out.cell 0).trans rfl
  have lw0 := K1.out.lt
  have c1w2 : w2.cell? ⟨w.heap.size, 1, none⟩ = some (.int .i64 s) := (K1.out.cell 1).trans rfl
  have c5w2 : w2.cell? ⟨w.heap.size, 5, none⟩ = some (.int .i64 c) := (K1.out.cell 5).trans rfl
  go_wp2_with fail
  have KK := Lib.hid (Blk.new w2 (u8V [132]) 5)
  have B3 := below_alloc1 w2 (.cells (u8V [132]) 5)
  have OK : Hid (Own (w2.alloc (.cells (u8V [132]) 5)) w2.heap.size (some ⟨w2.heap.size, 0, none⟩) 1 [132]) := Lib.hid (own_one w2 132 (by omega) (by omega))
  replace K1 := Lib.hid (K1.out.below B3)
  replace BB := Lib.hid (bt BB.out B3)
  have lz := B3.size
  have lw : w.heap.size ≤ w2.heap.size := by omega
  rw [show w2.alloc (.cells #[.int .u8 132] 5) = w2.alloc (.cells (u8V [132]) 5) from rfl]
  generalize w2.alloc (.cells (u8V [132]) 5) = w3 at *
  generalize hb2 : w2.heap.size = base at *
  clear B3 hb2 c0 c1w2 c5w2
  have LH : Hid (([132] ++ be s 4).length = 5) := Lib.hid (by simp [be_len])
  have LY1 : Hid ((be s 4 : List Int).length = 4) := Lib.hid (by simp [be_len])
  refine wp_region_confR' (growR_kept (b0 := base) (T := 5) (N := 5) (ys := ([c] : List Int).map (Value.int .u8))) (by kernel_rfl) 12 (by kernel_rfl) (by simp) (by decide) (RW132 w.heap.size base s c) (RW132_keep _ _ _ _) ?_ ?_
  · simp only [ConfStepsR, List.take_succ_cons, List.take_zero, putAll, Act.put, List.setIfInBounds_toArray, List.set_cons_succ, List.set_cons_zero, and_true]
    refine ⟨?_, ?_, ?_, ?_, ?_, ?_, ?_, ?_, ?_, ?_, ?_, ?_⟩
    all_goals intro v w' hb hd
    · exact conf_valueR growR_kept (wanted0 rfl) (by simp [go_sem]) ⟨rfl, growR_small hb KK.out (by simp [u8V_size])⟩
    · exact conf_valueR growR_kept (wanted0 rfl) (by simp [go_sem]) rfl
    · have d1 : v 1 = .pointer (some ⟨w.heap.size, 1, none⟩) := hd.at 1 rfl
      have cc : w'.cell? ⟨w.heap.size, 1, none⟩ = some (.int .i64 s) := (Blk.cell (growR_blk hb K1.out (by decide)) 1).trans rfl
      exact conf_valueR growR_kept (wanted0 rfl) (by simp [go_sem, d1, cc]) rfl
    · have d2 : v 2 = .int .i64 s := hd.at 2 rfl
      refine conf_callR (f := 26) (args := #[v 2, .int .i64 4]) (wanted0 rfl) (by simp [go_sem]) ?_
      rw [d2]
      exact (CPs.out w').mono fun e' w'' ⟨g6, he, k6, b6⟩ => ⟨_, he, growR_below b6, g6, rfl, k6⟩
    · obtain ⟨d0, k0⟩ : v 0 = .slice (some ⟨base, 0, none⟩) 1 1 ∧ Blk w' base (u8V [132]) 5 := hd.at 0 rfl
      obtain ⟨g6, d3, k6⟩ : ∃ g, v 3 = .slice (some ⟨g, 0, none⟩) 4 4 ∧ Blk w' g (u8V (be s 4)) 5 := hd.at 3 rfl
      obtain ⟨A', cp', w2', hrun, hown, hbel⟩ := run_append_full w' base [132] (u8V_row k0 (fun x hx => by simp at hx; omega)) g6 4 (be s 4) (u8V_row k6 (be_bytes s 4)) (by simp [be_len]) (by simp [be_len]) 27
      rw [LY1.out] at hrun
      exact conf_makeR (wanted0 rfl) (run_op_append rfl (by simp [go_sem, d0]) (by simp [go_sem, d3]) hrun) (growR_below hbel) ⟨A', cp', rfl, own_monoR hown (Nat.le_trans lz hb.1)⟩
    · exact conf_valueR growR_kept (wanted0 rfl) (by simp [go_sem]) rfl
    · have d5 : v 5 = .pointer (some ⟨w.heap.size, 5, none⟩) := hd.at 5 rfl
      have cc : w'.cell? ⟨w.heap.size, 5, none⟩ = some (.int .i64 c) := (Blk.cell (growR_blk hb K1.out (by decide)) 5).trans rfl
      exact conf_valueR growR_kept (wanted0 rfl) (by simp [go_sem, d5, cc]) rfl
    · have d6 : v 6 = .int .i64 c := hd.at 6 rfl
      exact conf_valueR growR_kept (wanted0 rfl) (by simp [go_sem, d6, hzc]) rfl
    · have d7 : v 7 = .int .u8 c := hd.at 7 rfl
      refine conf_makeR (w' := w'.alloc (.cells (u8V [c]) 5)) (v := .slice (some ⟨w'.heap.size, 0, none⟩) 1 1) (wanted0 rfl) (by simp [go_sem, d7, u8V]) (growR_below (below_alloc1 w' _)) ⟨w'.heap.size, rfl, Blk.new _ _ _⟩
    · obtain ⟨A7, c7, d4, o7⟩ : ∃ A cp, v 4 = .slice A 5 cp ∧ Own w' base A cp ([132] ++ be s 4) := hd.at 4 rfl
      obtain ⟨g8, d8, k8⟩ : ∃ g, v 8 = .slice (some ⟨g, 0, none⟩) 1 1 ∧ Blk w' g (u8V [c]) 5 := hd.at 8 rfl
      obtain ⟨A', cp', w2', hrun, hown, hrel⟩ := run_append_bytesR w' base base A7 c7 ([132] ++ be s 4) o7 (some ⟨g8, 0, none⟩) 1 ([c]) (u8V_row k8 (fun x hx => by simp at hx; omega)) (by simp [be_len]) (by simp [be_len]) (Nat.le_trans lz hb.1) (Nat.le_refl _) 27
      rw [LH.out] at hrun hrel
      exact conf_makeR (wanted0 rfl) (run_op_append rfl (by simp [go_sem, d4]) (by simp [go_sem, d8]) hrun) hrel ⟨A', cp', rfl, hown⟩
    · obtain ⟨A8, c8, d9, o8⟩ : ∃ A cp, v 9 = .slice A 6 cp ∧ Own w' base A cp (([132] ++ be s 4) ++ [c]) := hd.at 9 rfl
      exact conf_valueR growR_kept (wanted0 rfl) (by simp [go_sem, d9]) ⟨A8, c8, rfl, o8⟩
    · exact conf_valueR growR_kept (wanted0 rfl) (by simp [go_sem]) rfl
  · intro v w' hb hr
    obtain ⟨A8, c8, e8, o8⟩ : ∃ A cp, v 10 = .slice A 6 cp ∧ Own w' base A cp (([132] ++ be s 4) ++ [c]) := hr 10 (by omega)
    have e11 : v 11 = .int .i64 0 := hr 11 (by omega)
    simp only [List.take_succ_cons, List.take_zero, List.drop_succ_cons, List.drop_zero, putAll, Act.put, List.setIfInBounds_toArray, List.set_cons_succ, List.set_cons_zero]
    rw [e8, e11]
    have O8 := Lib.hid o8
    replace BB := Lib.hid (BB.out.trans ((hb.2.1 lz).mono lw))
    clear hr hb o8 e8 e11
    go_wp2_with fail
    go_ret2
    exact rqP_some HP.out (by simp [be_len]) rfl O8.out BB.out
set_option maxRecDepth 100000 in
set_option maxHeartbeats 1600000 in
theorem rq_133 (e : Int) (he : 0 ≤ e ∧ e ≤ 65535) (w : World) :
    Calls Try.prog 17 #[.agg #[.int .i64 133, .int .i64 0, .int .i64 0, .int .i64 0, .int .i64 e, .int .i64 0, .int .u8 0, .int .u8 0, .int .u8 0, .int .u8 0, .int .u8 0, .int .u8 0, .int .u8 0, .int .u8 0]] w (RqP [133, 0, 0, 0, e, 0, 0, 0, 0, 0, 0, 0, 0, 0] w) := by
  have hp := putR8_lit133 e he
  have HP := Lib.hid hp
  have hl : IsRepL [133, 0, 0, 0, e, 0, 0, 0, 0, 0, 0, 0, 0, 0] := ⟨rfl, fun i h6 h14 => by
    have hh : i = 6 ∨ i = 7 ∨ i = 8 ∨ i = 9 ∨ i = 10 ∨ i = 11 ∨ i = 12 ∨ i = 13 := by omega
    rcases hh with rfl | rfl | rfl | rfl | rfl | rfl | rfl | rfl
    · exact (show (0 : Int) ≤ 0 ∧ (0 : Int) ≤ 255 from ⟨by decide, by decide⟩)
    · exact (show (0 : Int) ≤ 0 ∧ (0 : Int) ≤ 255 from ⟨by decide, by decide⟩)
    · exact (show (0 : Int) ≤ 0 ∧ (0 : Int) ≤ 255 from ⟨by decide, by decide⟩)
    · exact (show (0 : Int) ≤ 0 ∧ (0 : Int) ≤ 255 from ⟨by decide, by decide⟩)
    · exact (show (0 : Int) ≤ 0 ∧ (0 : Int) ≤ 255 from ⟨by decide, by decide⟩)
    · exact (show (0 : Int) ≤ 0 ∧ (0 : Int) ≤ 255 from ⟨by decide, by decide⟩)
    · exact (show (0 : Int) ≤ 0 ∧ (0 : Int) ≤ 255 from ⟨by decide, by decide⟩)
    · exact (show (0 : Int) ≤ 0 ∧ (0 : Int) ≤ 255 from ⟨by decide, by decide⟩)⟩
  have NQ0 := fun W => neq_rep [133, 0, 0, 0, e, 0, 0, 0, 0, 0, 0, 0, 0, 0] [133, 0, 0, 0, e, 0, 0, 0, 0, 0, 0, 0, 0, 0] hl hl W
  rw [decide_eq_true rfl] at NQ0
  have NQ : ∀ W, (binOp .neq 40 (.agg #[.int .i64 133, .int .i64 0, .int .i64 0, .int .i64 0, .int .i64 e, .int .i64 0, .int .u8 0, .int .u8 0, .int .u8 0, .int .u8 0, .int .u8 0, .int .u8 0, .int .u8 0, .int .u8 0]) (.agg #[.int .i64 133, .int .i64 0, .int .i64 0, .int .i64 0, .int .i64 e, .int .i64 0, .int .u8 0, .int .u8 0, .int .u8 0, .int .u8 0, .int .u8 0, .int .u8 0, .int .u8 0, .int .u8 0])).run Try.prog W = .ok (.bool false) W := NQ0
  have CN : Hid (∀ W, Calls Try.prog 32 #[.agg #[.int .i64 133, .int .i64 0, .int .i64 0, .int .i64 0, .int .i64 e, .int .i64 0, .int .u8 0, .int .u8 0, .int .u8 0, .int .u8 0, .int .u8 0, .int .u8 0, .int .u8 0, .int .u8 0]] W fun e' w' => e' = .returned (.agg #[.int .i64 133, .int .i64 0, .int .i64 0, .int .i64 0, .int .i64 e, .int .i64 0, .int .u8 0, .int .u8 0, .int .u8 0, .int .u8 0, .int .u8 0, .int .u8 0, .int .u8 0, .int .u8 0]) ∧ Below W.heap.size W w') := Lib.hid fun W => replies_133 0 0 0 e 0 0 0 0 0 0 0 0 0 W
  have hc0 : inB 133 129 136 = true := by unfold inB; simp; try omega
  have hc1 : inB 0 0 4294967295 = true := by unfold inB; simp; try omega
  have hc2 : inB 0 0 3 = true := by unfold inB; simp; try omega
  have hc3 : inB 0 0 4 = true := by unfold inB; simp; try omega
  have hc4 : inB e 0 65535 = true := by unfold inB; simp; try omega
  have hc5 : inB 0 0 255 = true := by unfold inB; simp; try omega
  have CPe := Lib.hid (fun W => ref08_2 e he.1 he.2 W)
  clear hp hl NQ0 he
  go_enter Try.func17, Try.ntmps17
  go_wp2_with fail
  ((with_reducible refine (in_any _ _ _ _).mono ?_))
  rintro e' v0 ⟨rfl, rfl⟩
  rw [hc0]
  go_wp2_with fail
  ((with_reducible refine (in_any _ _ _ _).mono ?_))
  rintro e' v1 ⟨rfl, rfl⟩
  rw [hc1]
  go_wp2_with fail
  ((with_reducible refine (in_any _ _ _ _).mono ?_))
  rintro e' v2 ⟨rfl, rfl⟩
  rw [hc2]
  go_wp2_with fail
  ((with_reducible refine (in_any _ _ _ _).mono ?_))
  rintro e' v3 ⟨rfl, rfl⟩
  rw [hc3]
  go_wp2_with fail
  ((with_reducible refine (in_any _ _ _ _).mono ?_))
  rintro e' v4 ⟨rfl, rfl⟩
  rw [hc4]
  go_wp2_with fail
  ((with_reducible refine (in_any _ _ _ _).mono ?_))
  rintro e' v5 ⟨rfl, rfl⟩
  rw [hc5]
  go_wp2_with fail
  have K1 := Lib.hid (Blk.new w #[.int .i64 133, .int .i64 0, .int .i64 0, .int .i64 0, .int .i64 e, .int .i64 0, .int .u8 0, .int .u8 0, .int .u8 0, .int .u8 0, .int .u8 0, .int .u8 0, .int .u8 0, .int .u8 0] 40)
  have BB := Lib.hid (below_alloc1 w (.cells #[.int .i64 133, .int .i64 0, .int .i64 0, .int .i64 0, .int .i64 e, .int .i64 0, .int .u8 0, .int .u8 0, .int .u8 0, .int .u8 0, .int .u8 0, .int .u8 0, .int .u8 0, .int .u8 0] 40))
  generalize w.alloc (.cells #[.int .i64 133, .int .i64 0, .int .i64 0, .int .i64 0, .int .i64 e, .int .i64 0, .int .u8 0, .int .u8 0, .int .u8 0, .int .u8 0, .int .u8 0, .int .u8 0, .int .u8 0, .int .u8 0] 40) = w1 at *
  clear hc0 hc1 hc2 hc3 hc4 hc5
  refine wp_region_ext (by kernel_rfl) (by kernel_rfl) ?_
  repeat (first
        | go_big_quiet_skip
        | (go_big_quiet_want
           first
             | (refine quiet_load_blk (T := 40) (g := w.heap.size) agg_rep _ rfl rfl K1 ?_ ?_; (· rfl); go_simp; go_big_quiet_on)
             | (go_big_quiet_op
                first
                  | go_big_quiet_on
                  | go_big_quiet_call (((with_reducible refine ext_of (CN.out _)))))))
  refine wpQuiet_nil ?_
  intro _ hw'
  obtain ⟨y9, rfl⟩ := hw'
  replace K1 := Lib.hid (K1.out.below (exw_bel y9))
  replace BB := Lib.hid (bt BB.out (exw_bel y9))
  generalize exw w1 y9 = w2 at *
  clear NQ CN
  have c0 : w2.cell? ⟨w.heap.size, 0, none⟩ = some (.int .i64 133) := (K1.out.cell 0).trans rfl
  have lw0 := K1.out.lt
  have c4w2 : w2.cell? ⟨w.heap.size, 4, none⟩ = some (.int .i64 e) := (K1.out.cell 4).trans rfl
  go_wp2_with ((with_reducible show wpList _ _ _ (⟨some 93, _, _, _, _, _⟩ :: _) _ _); refine Marker.mk ?_)
  refine Marker.in ?_
  have KK := Lib.hid (Blk.new w2 (u8V [133]) 5)
  have B3 := below_alloc1 w2 (.cells (u8V [133]) 5)
  have OK : Hid (Own (w2.alloc (.cells (u8V [133]) 5)) w2.heap.size (some ⟨w2.heap.size, 0, none⟩) 1 [133]) := Lib.hid (own_one w2 133 (by omega) (by omega))
  replace K1 := Lib.hid (K1.out.below B3)
  replace BB := Lib.hid (bt BB.out B3)
  have lz := B3.size
  have lw : w.heap.size ≤ w2.heap.size := by omega
  rw [show w2.alloc (.cells #[.int .u8 133] 5) = w2.alloc (.cells (u8V [133]) 5) from rfl]
  generalize w2.alloc (.cells (u8V [133]) 5) = w3 at *
  generalize hb2 : w2.heap.size = base at *
  clear B3 hb2 c0 c4w2
  go_wp2_with fail
  ((with_reducible refine (CPe.out _).mono ?_))
  rintro e' w4 ⟨g4, rfl, k4, b4⟩
  have R4 := Lib.hid (u8V_row k4 (be_bytes e 2))
  replace BB := Lib.hid (bt BB.out b4)
  replace OK := Lib.hid (own_below OK.out b4)
  have lz4 : base ≤ w4.heap.size := Nat.le_trans lz b4.size
  clear b4 k4 CPe
  go_wp2_with ((with_reducible show wpList _ _ _ (⟨some 94, _, _, _, _, _⟩ :: _) _ _); (with_reducible refine wpList_append_bytes _ ?_ (.tmp 90) (.tmp 93) ?_ base (some ⟨base, 0, none⟩) 1 1 [133] ?_ ?_ OK.out (some ⟨g4, 0, none⟩) 2 2 (be e 2) ?_ ?_ R4.out ?_ ?_ ?_); (· rfl); (· rfl); (· rfl); (· rfl); (· exact be_len _ _); (· rfl); (· omega); (· exact lz4); rintro A5 c5 w5 o5 b5; refine Marker.mk ?_)
  refine Marker.in ?_
  have O5 := Lib.hid o5
  replace BB := Lib.hid (BB.out.trans (b5.mono lw))
  clear o5 b5 R4 OK lz4
  go_wp2_with fail
  go_ret2
  exact rqP_some HP.out (by simp [be_len]) rfl O5.out BB.out
def RW134 (g base : Nat) (t e : Int) (i : Nat) (v : Value) (w : World) : Prop := match i with
  | 0 => v = .slice (some ⟨base, 0, none⟩) 1 1 ∧ Blk w base (u8V [134]) 5
  | 1 => v = .pointer (some ⟨g, 3, none⟩)
  | 2 => v = .int .i64 t
  | 3 => v = .int .u8 t
  | 4 => ∃ g, v = .slice (some ⟨g, 0, none⟩) 1 1 ∧ Blk w g (u8V [t]) 5
  | 5 => ∃ A cp, v = .slice A 2 cp ∧ Own w base A cp ([134] ++ [t])
  | 6 => v = .pointer (some ⟨g, 4, none⟩)
  | 7 => v = .int .i64 e
  | 8 => ∃ g, v = .slice (some ⟨g, 0, none⟩) 2 2 ∧ Blk w g (u8V (be e 2)) 5
  | 9 => ∃ A cp, v = .slice A 4 cp ∧ Own w base A cp (([134] ++ [t]) ++ be e 2)
  | 10 => ∃ A cp, v = .slice A 4 cp ∧ Own w base A cp (([134] ++ [t]) ++ be e 2)
  | _ => v = .int .i64 0
theorem RW134_keep (g base : Nat) (t e : Int) : ∀ i v w w', i < 12 → RW134 g base t e i v w → GrowR base 5 2 ((be e 2 : List Int).map (Value.int .u8)) w w' → RW134 g base t e i v w' := by
  intro i v w w' hi h hb
  unfold RW134 at *
  split at h
  case h_1 => exact ⟨h.1, growR_small hb h.2 (by simp [u8V_size])⟩
  case h_5 => obtain ⟨g, e, k⟩ := h; exact ⟨g, e, growR_small hb k (by simp [u8V_size, be_len])⟩
  case h_6 => obtain ⟨A, cp, e1, o⟩ := h; exact ⟨A, cp, e1, growR_ownP hb o (.inl (by simp [be_len]))⟩
  case h_9 => obtain ⟨g, e, k⟩ := h; exact ⟨g, e, growR_small hb k (by simp [u8V_size, be_len])⟩
  case h_10 => obtain ⟨A, cp, e1, o⟩ := h; exact ⟨A, cp, e1, growR_ownP hb o (.inr ⟨([134] ++ [t]), be e 2, [], by simp [be_len], by simp, rfl⟩)⟩
  case h_11 => obtain ⟨A, cp, e1, o⟩ := h; exact ⟨A, cp, e1, growR_ownP hb o (.inr ⟨([134] ++ [t]), be e 2, [], by simp [be_len], by simp, rfl⟩)⟩
  all_goals exact h
set_option maxRecDepth 100000 in
set_option maxHeartbeats 1600000 in
theorem rq_134 (t e : Int) (ht : 0 ≤ t ∧ t ≤ 4) (he : 0 ≤ e ∧ e ≤ 65535) (w : World) :
    Calls Try.prog 17 #[.agg #[.int .i64 134, .int .i64 0, .int .i64 0, .int .i64 t, .int .i64 e, .int .i64 0, .int .u8 0, .int .u8 0, .int .u8 0, .int .u8 0, .int .u8 0, .int .u8 0, .int .u8 0, .int .u8 0]] w (RqP [134, 0, 0, t, e, 0, 0, 0, 0, 0, 0, 0, 0, 0] w) := by
  have hp := putR8_lit134 t e ht he
  have HP := Lib.hid hp
  have hl : IsRepL [134, 0, 0, t, e, 0, 0, 0, 0, 0, 0, 0, 0, 0] := ⟨rfl, fun i h6 h14 => by
    have hh : i = 6 ∨ i = 7 ∨ i = 8 ∨ i = 9 ∨ i = 10 ∨ i = 11 ∨ i = 12 ∨ i = 13 := by omega
    rcases hh with rfl | rfl | rfl | rfl | rfl | rfl | rfl | rfl
    · exact (show (0 : Int) ≤ 0 ∧ (0 : Int) ≤ 255 from ⟨by decide, by decide⟩)
    · exact (show (0 : Int) ≤ 0 ∧ (0 : Int) ≤ 255 from ⟨by decide, by decide⟩)
    · exact (show (0 : Int) ≤ 0 ∧ (0 : Int) ≤ 255 from ⟨by decide, by decide⟩)
    · exact (show (0 : Int) ≤ 0 ∧ (0 : Int) ≤ 255 from ⟨by decide, by decide⟩)
    · exact (show (0 : Int) ≤ 0 ∧ (0 : Int) ≤ 255 from ⟨by decide, by decide⟩)
    · exact (show (0 : Int) ≤ 0 ∧ (0 : Int) ≤ 255 from ⟨by decide, by decide⟩)
    · exact (show (0 : Int) ≤ 0 ∧ (0 : Int) ≤ 255 from ⟨by decide, by decide⟩)
    · exact (show (0 : Int) ≤ 0 ∧ (0 : Int) ≤ 255 from ⟨by decide, by decide⟩)⟩
  have NQ0 := fun W => neq_rep [134, 0, 0, t, e, 0, 0, 0, 0, 0, 0, 0, 0, 0] [134, 0, 0, t, e, 0, 0, 0, 0, 0, 0, 0, 0, 0] hl hl W
  rw [decide_eq_true rfl] at NQ0
  have NQ : ∀ W, (binOp .neq 40 (.agg #[.int .i64 134, .int .i64 0, .int .i64 0, .int .i64 t, .int .i64 e, .int .i64 0, .int .u8 0, .int .u8 0, .int .u8 0, .int .u8 0, .int .u8 0, .int .u8 0, .int .u8 0, .int .u8 0]) (.agg #[.int .i64 134, .int .i64 0, .int .i64 0, .int .i64 t, .int .i64 e, .int .i64 0, .int .u8 0, .int .u8 0, .int .u8 0, .int .u8 0, .int .u8 0, .int .u8 0, .int .u8 0, .int .u8 0])).run Try.prog W = .ok (.bool false) W := NQ0
  have CN : Hid (∀ W, Calls Try.prog 32 #[.agg #[.int .i64 134, .int .i64 0, .int .i64 0, .int .i64 t, .int .i64 e, .int .i64 0, .int .u8 0, .int .u8 0, .int .u8 0, .int .u8 0, .int .u8 0, .int .u8 0, .int .u8 0, .int .u8 0]] W fun e' w' => e' = .returned (.agg #[.int .i64 134, .int .i64 0, .int .i64 0, .int .i64 t, .int .i64 e, .int .i64 0, .int .u8 0, .int .u8 0, .int .u8 0, .int .u8 0, .int .u8 0, .int .u8 0, .int .u8 0, .int .u8 0]) ∧ Below W.heap.size W w') := Lib.hid fun W => replies_134 0 0 t e 0 0 0 0 0 0 0 0 0 W
  have hc0 : inB 134 129 136 = true := by unfold inB; simp; try omega
  have hc1 : inB 0 0 4294967295 = true := by unfold inB; simp; try omega
  have hc2 : inB 0 0 3 = true := by unfold inB; simp; try omega
  have hc3 : inB t 0 4 = true := by unfold inB; simp; try omega
  have hc4 : inB e 0 65535 = true := by unfold inB; simp; try omega
  have hc5 : inB 0 0 255 = true := by unfold inB; simp; try omega
  have qt0 : (0 : Int) ≤ t := by omega
  have qt1 : t ≤ 255 := by omega
  have hzt : IntKind.u8.wrap t = t := by simp [IntKind.wrap, IntKind.bits, IntKind.signed]; omega
  have CPe := Lib.hid (fun W => ref08_2 e he.1 he.2 W)
  clear hp hl NQ0 ht he
  go_enter Try.func17, Try.ntmps17
  go_wp2_with fail
  ((with_reducible refine (in_any _ _ _ _).mono ?_))
  rintro e' v0 ⟨rfl, rfl⟩
  rw [hc0]
  go_wp2_with fail
  ((with_reducible refine (in_any _ _ _ _).mono ?_))
  rintro e' v1 ⟨rfl, rfl⟩
  rw [hc1]
  go_wp2_with fail
  ((with_reducible refine (in_any _ _ _ _).mono ?_))
  rintro e' v2 ⟨rfl, rfl⟩
  rw [hc2]
  go_wp2_with fail
  ((with_reducible refine (in_any _ _ _ _).mono ?_))
  rintro e' v3 ⟨rfl, rfl⟩
  rw [hc3]
  go_wp2_with fail
  ((with_reducible refine (in_any _ _ _ _).mono ?_))
  rintro e' v4 ⟨rfl, rfl⟩
  rw [hc4]
  go_wp2_with fail
  ((with_reducible refine (in_any _ _ _ _).mono ?_))
  rintro e' v5 ⟨rfl, rfl⟩
  rw [hc5]
  go_wp2_with fail
  have K1 := Lib.hid (Blk.new w #[.int .i64 134, .int .i64 0, .int .i64 0, .int .i64 t, .int .i64 e, .int .i64 0, .int .u8 0, .int .u8 0, .int .u8 0, .int .u8 0, .int .u8 0, .int .u8 0, .int .u8 0, .int .u8 0] 40)
  have BB := Lib.hid (below_alloc1 w (.cells #[.int .i64 134, .int .i64 0, .int .i64 0, .int .i64 t, .int .i64 e, .int .i64 0, .int .u8 0, .int .u8 0, .int .u8 0, .int .u8 0, .int .u8 0, .int .u8 0, .int .u8 0, .int .u8 0] 40))
  generalize w.alloc (.cells #[.int .i64 134, .int .i64 0, .int .i64 0, .int .i64 t, .int .i64 e, .int .i64 0, .int .u8 0, .int .u8 0, .int .u8 0, .int .u8 0, .int .u8 0, .int .u8 0, .int .u8 0, .int .u8 0] 40) = w1 at *
  clear hc0 hc1 hc2 hc3 hc4 hc5
  refine wp_region_ext (by kernel_rfl) (by kernel_rfl) ?_
  repeat (first
        | go_big_quiet_skip
        | (go_big_quiet_want
           first
             | (refine quiet_load_blk (T := 40) (g := w.heap.size) agg_rep _ rfl rfl K1 ?_ ?_; (· rfl); go_simp; go_big_quiet_on)
             | (go_big_quiet_op
                first
                  | go_big_quiet_on
                  | go_big_quiet_call (((with_reducible refine ext_of (CN.out _)))))))
  refine wpQuiet_nil ?_
  intro _ hw'
  obtain ⟨y9, rfl⟩ := hw'
  replace K1 := Lib.hid (K1.out.below (exw_bel y9))
  replace BB := Lib.hid (bt BB.out (exw_bel y9))
  generalize exw w1 y9 = w2 at *
  clear NQ CN
  have c0 : w2.cell? ⟨w.heap.size, 0, none⟩ = some (.int .i64 134) := (K1.out.cell 0).trans rfl
  have lw0 := K1.out.lt
  have c3w2 : w2.cell? ⟨w.heap.size, 3, none⟩ = some (.int .i64 t) := (K1.out.cell 3).trans rfl
  have c4w2 : w2.cell? ⟨w.heap.size, 4, none⟩ = some (.int .i64 e) := (K1.out.cell 4).trans rfl
  go_wp2_with fail
  have KK := Lib.hid (Blk.new w2 (u8V [134]) 5)
  have B3 := below_alloc1 w2 (.cells (u8V [134]) 5)
  have OK : Hid (Own (w2.alloc (.cells (u8V [134]) 5)) w2.heap.size (some ⟨w2.heap.size, 0, none⟩) 1 [134]) := Lib.hid (own_one w2 134 (by omega) (by omega))
  replace K1 := Lib.hid (K1.out.below B3)
  replace BB := Lib.hid (bt BB.out B3)
  have lz := B3.size
  have lw : w.heap.size ≤ w2.heap.size := by omega
  rw [show w2.alloc (.cells #[.int .u8 134] 5) = w2.alloc (.cells (u8V [134]) 5) from rfl]
  generalize w2.alloc (.cells (u8V [134]) 5) = w3 at *
  generalize hb2 : w2.heap.size = base at *
  clear B3 hb2 c0 c3w2 c4w2
  have LH : Hid (([134] ++ [t]).length = 2) := Lib.hid (by simp [be_len])
  have LY1 : Hid (([t] : List Int).length = 1) := Lib.hid (by simp [be_len])
  refine wp_region_confR' (growR_kept (b0 := base) (T := 5) (N := 2) (ys := (be e 2 : List Int).map (Value.int .u8))) (by kernel_rfl) 12 (by kernel_rfl) (by simp) (by decide) (RW134 w.heap.size base t e) (RW134_keep _ _ _ _) ?_ ?_
  · simp only [ConfStepsR, List.take_succ_cons, List.take_zero, putAll, Act.put, List.setIfInBounds_toArray, List.set_cons_succ, List.set_cons_zero, and_true]
    refine ⟨?_, ?_, ?_, ?_, ?_, ?_, ?_, ?_, ?_, ?_, ?_, ?_⟩
    all_goals intro v w' hb hd
    · exact conf_valueR growR_kept (wanted0 rfl) (by simp [go_sem]) ⟨rfl, growR_small hb KK.out (by simp [u8V_size])⟩
    · exact conf_valueR growR_kept (wanted0 rfl) (by simp [go_sem]) rfl
    · have d1 : v 1 = .pointer (some ⟨w.heap.size, 3, none⟩) := hd.at 1 rfl
      have cc : w'.cell? ⟨w.heap.size, 3, none⟩ = some (.int .i64 t) := (Blk.cell (growR_blk hb K1.out (by decide)) 3).trans rfl
      exact conf_valueR growR_kept (wanted0 rfl) (by simp [go_sem, d1, cc]) rfl
    · have d2 : v 2 = .int .i64 t := hd.at 2 rfl
      exact conf_valueR growR_kept (wanted0 rfl) (by simp [go_sem, d2, hzt]) rfl
    · have d3 : v 3 = .int .u8 t := hd.at 3 rfl
      refine conf_makeR (w' := w'.alloc (.cells (u8V [t]) 5)) (v := .slice (some ⟨w'.heap.size, 0, none⟩) 1 1) (wanted0 rfl) (by simp [go_sem, d3, u8V]) (growR_below (below_alloc1 w' _)) ⟨w'.heap.size, rfl, Blk.new _ _ _⟩
    · obtain ⟨d0, k0⟩ : v 0 = .slice (some ⟨base, 0, none⟩) 1 1 ∧ Blk w' base (u8V [134]) 5 := hd.at 0 rfl
      obtain ⟨g6, d4, k6⟩ : ∃ g, v 4 = .slice (some ⟨g, 0, none⟩) 1 1 ∧ Blk w' g (u8V [t]) 5 := hd.at 4 rfl
      obtain ⟨A', cp', w2', hrun, hown, hbel⟩ := run_append_full w' base [134] (u8V_row k0 (fun x hx => by simp at hx; omega)) g6 1 ([t]) (u8V_row k6 (fun x hx => by simp at hx; omega)) (by simp [be_len]) (by simp [be_len]) 27
      rw [LY1.out] at hrun
      exact conf_makeR (wanted0 rfl) (run_op_append rfl (by simp [go_sem, d0]) (by simp [go_sem, d4]) hrun) (growR_below hbel) ⟨A', cp', rfl, own_monoR hown (Nat.le_trans lz hb.1)⟩
    · exact conf_valueR growR_kept (wanted0 rfl) (by simp [go_sem]) rfl
    · have d6 : v 6 = .pointer (some ⟨w.heap.size, 4, none⟩) := hd.at 6 rfl
      have cc : w'.cell? ⟨w.heap.size, 4, none⟩ = some (.int .i64 e) := (Blk.cell (growR_blk hb K1.out (by decide)) 4).trans rfl
      exact conf_valueR growR_kept (wanted0 rfl) (by simp [go_sem, d6, cc]) rfl
    · have d7 : v 7 = .int .i64 e := hd.at 7 rfl
      refine conf_callR (f := 26) (args := #[v 7, .int .i64 2]) (wanted0 rfl) (by simp [go_sem]) ?_
      rw [d7]
      exact (CPe.out w').mono fun e' w'' ⟨g6, he, k6, b6⟩ => ⟨_, he, growR_below b6, g6, rfl, k6⟩
    · obtain ⟨A7, c7, d5, o7⟩ : ∃ A cp, v 5 = .slice A 2 cp ∧ Own w' base A cp ([134] ++ [t]) := hd.at 5 rfl
      obtain ⟨g8, d8, k8⟩ : ∃ g, v 8 = .slice (some ⟨g, 0, none⟩) 2 2 ∧ Blk w' g (u8V (be e 2)) 5 := hd.at 8 rfl
      obtain ⟨A', cp', w2', hrun, hown, hrel⟩ := run_append_bytesR w' base base A7 c7 ([134] ++ [t]) o7 (some ⟨g8, 0, none⟩) 2 (be e 2) (u8V_row k8 (be_bytes e 2)) (by simp [be_len]) (by simp [be_len]) (Nat.le_trans lz hb.1) (Nat.le_refl _) 27
      rw [LH.out] at hrun hrel
      rw [be_len] at hrun
      exact conf_makeR (wanted0 rfl) (run_op_append rfl (by simp [go_sem, d5]) (by simp [go_sem, d8]) hrun) hrel ⟨A', cp', rfl, hown⟩
    · obtain ⟨A8, c8, d9, o8⟩ : ∃ A cp, v 9 = .slice A 4 cp ∧ Own w' base A cp (([134] ++ [t]) ++ be e 2) := hd.at 9 rfl
      exact conf_valueR growR_kept (wanted0 rfl) (by simp [go_sem, d9]) ⟨A8, c8, rfl, o8⟩
    · exact conf_valueR growR_kept (wanted0 rfl) (by simp [go_sem]) rfl
  · intro v w' hb hr
    obtain ⟨A8, c8, e8, o8⟩ : ∃ A cp, v 10 = .slice A 4 cp ∧ Own w' base A cp (([134] ++ [t]) ++ be e 2) := hr 10 (by omega)
    have e11 : v 11 = .int .i64 0 := hr 11 (by omega)
    simp only [List.take_succ_cons, List.take_zero, List.drop_succ_cons, List.drop_zero, putAll, Act.put, List.setIfInBounds_toArray, List.set_cons_succ, List.set_cons_zero]
    rw [e8, e11]
    have O8 := Lib.hid o8
    replace BB := Lib.hid (BB.out.trans ((hb.2.1 lz).mono lw))
    clear hr hb o8 e8 e11
    go_wp2_with fail
    go_ret2
    exact rqP_some HP.out (by simp [be_len]) rfl O8.out BB.out
def RW135 (g base : Nat) (t e : Int) (i : Nat) (v : Value) (w : World) : Prop := match i with
  | 0 => v = .slice (some ⟨base, 0, none⟩) 1 1 ∧ Blk w base (u8V [135]) 5
  | 1 => v = .pointer (some ⟨g, 3, none⟩)
  | 2 => v = .int .i64 t
  | 3 => v = .int .u8 t
  | 4 => ∃ g, v = .slice (some ⟨g, 0, none⟩) 1 1 ∧ Blk w g (u8V [t]) 5
  | 5 => ∃ A cp, v = .slice A 2 cp ∧ Own w base A cp ([135] ++ [t])
  | 6 => v = .pointer (some ⟨g, 4, none⟩)
  | 7 => v = .int .i64 e
  | 8 => ∃ g, v = .slice (some ⟨g, 0, none⟩) 2 2 ∧ Blk w g (u8V (be e 2)) 5
  | 9 => ∃ A cp, v = .slice A 4 cp ∧ Own w base A cp (([135] ++ [t]) ++ be e 2)
  | 10 => ∃ A cp, v = .slice A 4 cp ∧ Own w base A cp (([135] ++ [t]) ++ be e 2)
  | _ => v = .int .i64 0
theorem RW135_keep (g base : Nat) (t e : Int) : ∀ i v w w', i < 12 → RW135 g base t e i v w → GrowR base 5 2 ((be e 2 : List Int).map (Value.int .u8)) w w' → RW135 g base t e i v w' := by
  intro i v w w' hi h hb
  unfold RW135 at *
  split at h
  case h_1 => exact ⟨h.1, growR_small hb h.2 (by simp [u8V_size])⟩
  case h_5 => obtain ⟨g, e, k⟩ := h; exact ⟨g, e, growR_small hb k (by simp [u8V_size, be_len])⟩
  case h_6 => obtain ⟨A, cp, e1, o⟩ := h; exact ⟨A, cp, e1, growR_ownP hb o (.inl (by simp [be_len]))⟩
  case h_9 => obtain ⟨g, e, k⟩ := h; exact ⟨g, e, growR_small hb k (by simp [u8V_size, be_len])⟩
  case h_10 => obtain ⟨A, cp, e1, o⟩ := h; exact ⟨A, cp, e1, growR_ownP hb o (.inr ⟨([135] ++ [t]), be e 2, [], by simp [be_len], by simp, rfl⟩)⟩
  case h_11 => obtain ⟨A, cp, e1, o⟩ := h; exact ⟨A, cp, e1, growR_ownP hb o (.inr ⟨([135] ++ [t]), be e 2, [], by simp [be_len], by simp, rfl⟩)⟩
  all_goals exact h
set_option maxRecDepth 100000 in
set_option maxHeartbeats 1600000 in
theorem rq_135 (t e : Int) (ht : 0 ≤ t ∧ t ≤ 4) (he : 0 ≤ e ∧ e ≤ 65535) (w : World) :
    Calls Try.prog 17 #[.agg #[.int .i64 135, .int .i64 0, .int .i64 0, .int .i64 t, .int .i64 e, .int .i64 0, .int .u8 0, .int .u8 0, .int .u8 0, .int .u8 0, .int .u8 0, .int .u8 0, .int .u8 0, .int .u8 0]] w (RqP [135, 0, 0, t, e, 0, 0, 0, 0, 0, 0, 0, 0, 0] w) := by
  have hp := putR8_lit135 t e ht he
  have HP := Lib.hid hp
  have hl : IsRepL [135, 0, 0, t, e, 0, 0, 0, 0, 0, 0, 0, 0, 0] := ⟨rfl, fun i h6 h14 => by
    have hh : i = 6 ∨ i = 7 ∨ i = 8 ∨ i = 9 ∨ i = 10 ∨ i = 11 ∨ i = 12 ∨ i = 13 := by omega
    rcases hh with rfl | rfl | rfl | rfl | rfl | rfl | rfl | rfl
    · exact (show (0 : Int) ≤ 0 ∧ (0 : Int) ≤ 255 from ⟨by decide, by decide⟩)
    · exact (show (0 : Int) ≤ 0 ∧ (0 : Int) ≤ 255 from ⟨by decide, by decide⟩)
    · exact (show (0 : Int) ≤ 0 ∧ (0 : Int) ≤ 255 from ⟨by decide, by decide⟩)
    · exact (show (0 : Int) ≤ 0 ∧ (0 : Int) ≤ 255 from ⟨by decide, by decide⟩)
    · exact (show (0 : Int) ≤ 0 ∧ (0 : Int) ≤ 255 from ⟨by decide, by decide⟩)
    · exact (show (0 : Int) ≤ 0 ∧ (0 : Int) ≤ 255 from ⟨by decide, by decide⟩)
    · exact (show (0 : Int) ≤ 0 ∧ (0 : Int) ≤ 255 from ⟨by decide, by decide⟩)
    · exact (show (0 : Int) ≤ 0 ∧ (0 : Int) ≤ 255 from ⟨by decide, by decide⟩)⟩
  have NQ0 := fun W => neq_rep [135, 0, 0, t, e, 0, 0, 0, 0, 0, 0, 0, 0, 0] [135, 0, 0, t, e, 0, 0, 0, 0, 0, 0, 0, 0, 0] hl hl W
  rw [decide_eq_true rfl] at NQ0
  have NQ : ∀ W, (binOp .neq 40 (.agg #[.int .i64 135, .int .i64 0, .int .i64 0, .int .i64 t, .int .i64 e, .int .i64 0, .int .u8 0, .int .u8 0, .int .u8 0, .int .u8 0, .int .u8 0, .int .u8 0, .int .u8 0, .int .u8 0]) (.agg #[.int .i64 135, .int .i64 0, .int .i64 0, .int .i64 t, .int .i64 e, .int .i64 0, .int .u8 0, .int .u8 0, .int .u8 0, .int .u8 0, .int .u8 0, .int .u8 0, .int .u8 0, .int .u8 0])).run Try.prog W = .ok (.bool false) W := NQ0
  have CN : Hid (∀ W, Calls Try.prog 32 #[.agg #[.int .i64 135, .int .i64 0, .int .i64 0, .int .i64 t, .int .i64 e, .int .i64 0, .int .u8 0, .int .u8 0, .int .u8 0, .int .u8 0, .int .u8 0, .int .u8 0, .int .u8 0, .int .u8 0]] W fun e' w' => e' = .returned (.agg #[.int .i64 135, .int .i64 0, .int .i64 0, .int .i64 t, .int .i64 e, .int .i64 0, .int .u8 0, .int .u8 0, .int .u8 0, .int .u8 0, .int .u8 0, .int .u8 0, .int .u8 0, .int .u8 0]) ∧ Below W.heap.size W w') := Lib.hid fun W => replies_135 0 0 t e 0 0 0 0 0 0 0 0 0 W
  have hc0 : inB 135 129 136 = true := by unfold inB; simp; try omega
  have hc1 : inB 0 0 4294967295 = true := by unfold inB; simp; try omega
  have hc2 : inB 0 0 3 = true := by unfold inB; simp; try omega
  have hc3 : inB t 0 4 = true := by unfold inB; simp; try omega
  have hc4 : inB e 0 65535 = true := by unfold inB; simp; try omega
  have hc5 : inB 0 0 255 = true := by unfold inB; simp; try omega
  have qt0 : (0 : Int) ≤ t := by omega
  have qt1 : t ≤ 255 := by omega
  have hzt : IntKind.u8.wrap t = t := by simp [IntKind.wrap, IntKind.bits, IntKind.signed]; omega
  have CPe := Lib.hid (fun W => ref08_2 e he.1 he.2 W)
  clear hp hl NQ0 ht he
  go_enter Try.func17, Try.ntmps17
  go_wp2_with fail
  ((with_reducible refine (in_any _ _ _ _).mono ?_))
  rintro e' v0 ⟨rfl, rfl⟩
  rw [hc0]
  go_wp2_with fail
  ((with_reducible refine (in_any _ _ _ _).mono ?_))
  rintro e' v1 ⟨rfl, rfl⟩
  rw [hc1]
  go_wp2_with fail
  ((with_reducible refine (in_any _ _ _ _).mono ?_))
  rintro e' v2 ⟨rfl, rfl⟩
  rw [hc2]
  go_wp2_with fail
  ((with_reducible refine (in_any _ _ _ _).mono ?_))
  rintro e' v3 ⟨rfl, rfl⟩
  rw [hc3]
  go_wp2_with fail
  ((with_reducible refine (in_any _ _ _ _).mono ?_))
  rintro e' v4 ⟨rfl, rfl⟩
  rw [hc4]
  go_wp2_with fail
  ((with_reducible refine (in_any _ _ _ _).mono ?_))
  rintro e' v5 ⟨rfl, rfl⟩
  rw [hc5]
  go_wp2_with fail
  have K1 := Lib.hid (Blk.new w #[.int .i64 135, .int .i64 0, .int .i64 0, .int .i64 t, .int .i64 e, .int .i64 0, .int .u8 0, .int .u8 0, .int .u8 0, .int .u8 0, .int .u8 0, .int .u8 0, .int .u8 0, .int .u8 0] 40)
  have BB := Lib.hid (below_alloc1 w (.cells #[.int .i64 135, .int .i64 0, .int .i64 0, .int .i64 t, .int .i64 e, .int .i64 0, .int .u8 0, .int .u8 0, .int .u8 0, .int .u8 0, .int .u8 0, .int .u8 0, .int .u8 0, .int .u8 0] 40))
  generalize w.alloc (.cells #[.int .i64 135, .int .i64 0, .int .i64 0, .int .i64 t, .int .i64 e, .int .i64 0, .int .u8 0, .int .u8 0, .int .u8 0, .int .u8 0, .int .u8 0, .int .u8 0, .int .u8 0, .int .u8 0] 40) = w1 at *
  clear hc0 hc1 hc2 hc3 hc4 hc5
  refine wp_region_ext (by kernel_rfl) (by kernel_rfl) ?_
  repeat (first
        | go_big_quiet_skip
        | (go_big_quiet_want
           first
             | (refine quiet_load_blk (T := 40) (g := w.heap.size) agg_rep _ rfl rfl K1 ?_ ?_; (· rfl); go_simp; go_big_quiet_on)
             | (go_big_quiet_op
                first
                  | go_big_quiet_on
                  | go_big_quiet_call (((with_reducible refine ext_of (CN.out _)))))))
  refine wpQuiet_nil ?_
  intro _ hw'
  obtain ⟨y9, rfl⟩ := hw'
  replace K1 := Lib.hid (K1.out.below (exw_bel y9))
  replace BB := Lib.hid (bt BB.out (exw_bel y9))
  generalize exw w1 y9 = w2 at *
  clear NQ CN
  have c0 : w2.cell? ⟨w.heap.size, 0, none⟩ = some (.int .i64 135) := (K1.out.cell 0).trans rfl
  have lw0 := K1.out.lt
  have c3w2 : w2.cell? ⟨w.heap.size, 3, none⟩ = some (.int .i64 t) := (K1.out.cell 3).trans rfl
  have c4w2 : w2.cell? ⟨w.heap.size, 4, none⟩ = some (.int .i64 e) := (K1.out.cell 4).trans rfl
  go_wp2_with fail
  have KK := Lib.hid (Blk.new w2 (u8V [135]) 5)
  have B3 := below_alloc1 w2 (.cells (u8V [135]) 5)
  have OK : Hid (Own (w2.alloc (.cells (u8V [135]) 5)) w2.heap.size (some ⟨w2.heap.size, 0, none⟩) 1 [135]) := Lib.hid (own_one w2 135 (by omega) (by omega))
  replace K1 := Lib.hid (K1.out.below B3)
  replace BB := Lib.hid (bt BB.out B3)
  have lz := B3.size
  have lw : w.heap.size ≤ w2.heap.size := by omega
  rw [show w2.alloc (.cells #[.int .u8 135] 5) = w2.alloc (.cells (u8V [135]) 5) from rfl]
  generalize w2.alloc (.cells (u8V [135]) 5) = w3 at *
  generalize hb2 : w2.heap.size = base at *
  clear B3 hb2 c0 c3w2 c4w2
  have LH : Hid (([135] ++ [t]).length = 2) := Lib.hid (by simp [be_len])
  have LY1 : Hid (([t] : List Int).length = 1) := Lib.hid (by simp [be_len])
  refine wp_region_confR' (growR_kept (b0 := base) (T := 5) (N := 2) (ys := (be e 2 : List Int).map (Value.int .u8))) (by kernel_rfl) 12 (by kernel_rfl) (by simp) (by decide) (RW135 w.heap.size base t e) (RW135_keep _ _ _ _) ?_ ?_
  · simp only [ConfStepsR, List.take_succ_cons, List.take_zero, putAll, Act.put, List.setIfInBounds_toArray, List.set_cons_succ, List.set_cons_zero, and_true]
    refine ⟨?_, ?_, ?_, ?_, ?_, ?_, ?_, ?_, ?_, ?_, ?_, ?_⟩
    all_goals intro v w' hb hd
    · exact conf_valueR growR_kept (wanted0 rfl) (by simp [go_sem]) ⟨rfl, growR_small hb KK.out (by simp [u8V_size])⟩
    · exact conf_valueR growR_kept (wanted0 rfl) (by simp [go_sem]) rfl
    · have d1 : v 1 = .pointer (some ⟨w.heap.size, 3, none⟩) := hd.at 1 rfl
      have cc : w'.cell? ⟨w.heap.size, 3, none⟩ = some (.int .i64 t) := (Blk.cell (growR_blk hb K1.out (by decide)) 3).trans rfl
      exact conf_valueR growR_kept (wanted0 rfl) (by simp [go_sem, d1, cc]) rfl
    · have d2 : v 2 = .int .i64 t := hd.at 2 rfl
      exact conf_valueR growR_kept (wanted0 rfl) (by simp [go_sem, d2, hzt]) rfl
    · have d3 : v 3 = .int .u8 t := hd.at 3 rfl
      refine conf_makeR (w' := w'.alloc (.cells (u8V [t]) 5)) (v := .slice (some ⟨w'.heap.size, 0, none⟩) 1 1) (wanted0 rfl) (by simp [go_sem, d3, u8V]) (growR_below (below_alloc1 w' _)) ⟨w'.heap.size, rfl, Blk.new _ _ _⟩
    · obtain ⟨d0, k0⟩ : v 0 = .slice (some ⟨base, 0, none⟩) 1 1 ∧ Blk w' base (u8V [135]) 5 := hd.at 0 rfl
      obtain ⟨g6, d4, k6⟩ : ∃ g, v 4 = .slice (some ⟨g, 0, none⟩) 1 1 ∧ Blk w' g (u8V [t]) 5 := hd.at 4 rfl
      obtain ⟨A', cp', w2', hrun, hown, hbel⟩ := run_append_full w' base [135] (u8V_row k0 (fun x hx => by simp at hx; omega)) g6 1 ([t]) (u8V_row k6 (fun x hx => by simp at hx; omega)) (by simp [be_len]) (by simp [be_len]) 27
      rw [LY1.out] at hrun
      exact conf_makeR (wanted0 rfl) (run_op_append rfl (by simp [go_sem, d0]) (by simp [go_sem, d4]) hrun) (growR_below hbel) ⟨A', cp', rfl, own_monoR hown (Nat.le_trans lz hb.1)⟩
    · exact conf_valueR growR_kept (wanted0 rfl) (by simp [go_sem]) rfl
    · have d6 : v 6 = .pointer (some ⟨w.heap.size, 4, none⟩) := hd.at 6 rfl
      have cc : w'.cell? ⟨w.heap.size, 4, none⟩ = some (.int .i64 e) := (Blk.cell (growR_blk hb K1.out (by decide)) 4).trans rfl
      exact conf_valueR growR_kept (wanted0 rfl) (by simp [go_sem, d6, cc]) rfl
    · have d7 : v 7 = .int .i64 e := hd.at 7 rfl
      refine conf_callR (f := 26) (args := #[v 7, .int .i64 2]) (wanted0 rfl) (by simp [go_sem]) ?_
      rw [d7]
      exact (CPe.out w').mono fun e' w'' ⟨g6, he, k6, b6⟩ => ⟨_, he, growR_below b6, g6, rfl, k6⟩
    · obtain ⟨A7, c7, d5, o7⟩ : ∃ A cp, v 5 = .slice A 2 cp ∧ Own w' base A cp ([135] ++ [t]) := hd.at 5 rfl
      obtain ⟨g8, d8, k8⟩ : ∃ g, v 8 = .slice (some ⟨g, 0, none⟩) 2 2 ∧ Blk w' g (u8V (be e 2)) 5 := hd.at 8 rfl
      obtain ⟨A', cp', w2', hrun, hown, hrel⟩ := run_append_bytesR w' base base A7 c7 ([135] ++ [t]) o7 (some ⟨g8, 0, none⟩) 2 (be e 2) (u8V_row k8 (be_bytes e 2)) (by simp [be_len]) (by simp [be_len]) (Nat.le_trans lz hb.1) (Nat.le_refl _) 27
      rw [LH.out] at hrun hrel
      rw [be_len] at hrun
      exact conf_makeR (wanted0 rfl) (run_op_append rfl (by simp [go_sem, d5]) (by simp [go_sem, d8]) hrun) hrel ⟨A', cp', rfl, hown⟩
    · obtain ⟨A8, c8, d9, o8⟩ : ∃ A cp, v 9 = .slice A 4 cp ∧ Own w' base A cp (([135] ++ [t]) ++ be e 2) := hd.at 9 rfl
      exact conf_valueR growR_kept (wanted0 rfl) (by simp [go_sem, d9]) ⟨A8, c8, rfl, o8⟩
    · exact conf_valueR growR_kept (wanted0 rfl) (by simp [go_sem]) rfl
  · intro v w' hb hr
    obtain ⟨A8, c8, e8, o8⟩ : ∃ A cp, v 10 = .slice A 4 cp ∧ Own w' base A cp (([135] ++ [t]) ++ be e 2) := hr 10 (by omega)
    have e11 : v 11 = .int .i64 0 := hr 11 (by omega)
    simp only [List.take_succ_cons, List.take_zero, List.drop_succ_cons, List.drop_zero, putAll, Act.put, List.setIfInBounds_toArray, List.set_cons_succ, List.set_cons_zero]
    rw [e8, e11]
    have O8 := Lib.hid o8
    replace BB := Lib.hid (BB.out.trans ((hb.2.1 lz).mono lw))
    clear hr hb o8 e8 e11
    go_wp2_with fail
    go_ret2
    exact rqP_some HP.out (by simp [be_len]) rfl O8.out BB.out
set_option maxRecDepth 100000 in
set_option maxHeartbeats 1600000 in
theorem rq_136 (t c : Int) (ht : 0 ≤ t ∧ t ≤ 4) (hc : 0 ≤ c ∧ c ≤ 255) (w : World) :
    Calls Try.prog 17 #[.agg #[.int .i64 136, .int .i64 0, .int .i64 0, .int .i64 t, .int .i64 0, .int .i64 c, .int .u8 0, .int .u8 0, .int .u8 0, .int .u8 0, .int .u8 0, .int .u8 0, .int .u8 0, .int .u8 0]] w (RqP [136, 0, 0, t, 0, c, 0, 0, 0, 0, 0, 0, 0, 0] w) := by
  have hp := putR8_lit136 t c ht hc
  have HP := Lib.hid hp
  have hl : IsRepL [136, 0, 0, t, 0, c, 0, 0, 0, 0, 0, 0, 0, 0] := ⟨rfl, fun i h6 h14 => by
    have hh : i = 6 ∨ i = 7 ∨ i = 8 ∨ i = 9 ∨ i = 10 ∨ i = 11 ∨ i = 12 ∨ i = 13 := by omega
    rcases hh with rfl | rfl | rfl | rfl | rfl | rfl | rfl | rfl
    · exact (show (0 : Int) ≤ 0 ∧ (0 : Int) ≤ 255 from ⟨by decide, by decide⟩)
    · exact (show (0 : Int) ≤ 0 ∧ (0 : Int) ≤ 255 from ⟨by decide, by decide⟩)
    · exact (show (0 : Int) ≤ 0 ∧ (0 : Int) ≤ 255 from ⟨by decide, by decide⟩)
    · exact (show (0 : Int) ≤ 0 ∧ (0 : Int) ≤ 255 from ⟨by decide, by decide⟩)
    · exact (show (0 : Int) ≤ 0 ∧ (0 : Int) ≤ 255 from ⟨by decide, by decide⟩)
    · exact (show (0 : Int) ≤ 0 ∧ (0 : Int) ≤ 255 from ⟨by decide, by decide⟩)
    · exact (show (0 : Int) ≤ 0 ∧ (0 : Int) ≤ 255 from ⟨by decide, by decide⟩)
    · exact (show (0 : Int) ≤ 0 ∧ (0 : Int) ≤ 255 from ⟨by decide, by decide⟩)⟩
  have NQ0 := fun W => neq_rep [136, 0, 0, t, 0, c, 0, 0, 0, 0, 0, 0, 0, 0] [136, 0, 0, t, 0, c, 0, 0, 0, 0, 0, 0, 0, 0] hl hl W
  rw [decide_eq_true rfl] at NQ0
  have NQ : ∀ W, (binOp .neq 40 (.agg #[.int .i64 136, .int .i64 0, .int .i64 0, .int .i64 t, .int .i64 0, .int .i64 c, .int .u8 0, .int .u8 0, .int .u8 0, .int .u8 0, .int .u8 0, .int .u8 0, .int .u8 0, .int .u8 0]) (.agg #[.int .i64 136, .int .i64 0, .int .i64 0, .int .i64 t, .int .i64 0, .int .i64 c, .int .u8 0, .int .u8 0, .int .u8 0, .int .u8 0, .int .u8 0, .int .u8 0, .int .u8 0, .int .u8 0])).run Try.prog W = .ok (.bool false) W := NQ0
  have CN : Hid (∀ W, Calls Try.prog 32 #[.agg #[.int .i64 136, .int .i64 0, .int .i64 0, .int .i64 t, .int .i64 0, .int .i64 c, .int .u8 0, .int .u8 0, .int .u8 0, .int .u8 0, .int .u8 0, .int .u8 0, .int .u8 0, .int .u8 0]] W fun e' w' => e' = .returned (.agg #[.int .i64 136, .int .i64 0, .int .i64 0, .int .i64 t, .int .i64 0, .int .i64 c, .int .u8 0, .int .u8 0, .int .u8 0, .int .u8 0, .int .u8 0, .int .u8 0, .int .u8 0, .int .u8 0]) ∧ Below W.heap.size W w') := Lib.hid fun W => replies_136 0 0 t 0 c 0 0 0 0 0 0 0 0 W
  have hc0 : inB 136 129 136 = true := by unfold inB; simp; try omega
  have hc1 : inB 0 0 4294967295 = true := by unfold inB; simp; try omega
  have hc2 : inB 0 0 3 = true := by unfold inB; simp; try omega
  have hc3 : inB t 0 4 = true := by unfold inB; simp; try omega
  have hc4 : inB 0 0 65535 = true := by unfold inB; simp; try omega
  have hc5 : inB c 0 255 = true := by unfold inB; simp; try omega
  have qt0 : (0 : Int) ≤ t := by omega
  have qt1 : t ≤ 255 := by omega
  have hzt : IntKind.u8.wrap t = t := by simp [IntKind.wrap, IntKind.bits, IntKind.signed]; omega
  have qc0 : (0 : Int) ≤ c := by omega
  have qc1 : c ≤ 255 := by omega
  have hzc : IntKind.u8.wrap c = c := by simp [IntKind.wrap, IntKind.bits, IntKind.signed]; omega
  clear hp hl NQ0 ht hc
  go_enter Try.func17, Try.ntmps17
  go_wp2_with fail
  ((with_reducible refine (in_any _ _ _ _).mono ?_))
  rintro e' v0 ⟨rfl, rfl⟩
  rw [hc0]
  go_wp2_with fail
  ((with_reducible refine (in_any _ _ _ _).mono ?_))
  rintro e' v1 ⟨rfl, rfl⟩
  rw [hc1]
  go_wp2_with fail
  ((with_reducible refine (in_any _ _ _ _).mono ?_))
  rintro e' v2 ⟨rfl, rfl⟩
  rw [hc2]
  go_wp2_with fail
  ((with_reducible refine (in_any _ _ _ _).mono ?_))
  rintro e' v3 ⟨rfl, rfl⟩
  rw [hc3]
  go_wp2_with fail
  ((with_reducible refine (in_any _ _ _ _).mono ?_))
  rintro e' v4 ⟨rfl, rfl⟩
  rw [hc4]
  go_wp2_with fail
  ((with_reducible refine (in_any _ _ _ _).mono ?_))
  rintro e' v5 ⟨rfl, rfl⟩
  rw [hc5]
  go_wp2_with fail
  have K1 := Lib.hid (Blk.new w #[.int .i64 136, .int .i64 0, .int .i64 0, .int .i64 t, .int .i64 0, .int .i64 c, .int .u8 0, .int .u8 0, .int .u8 0, .int .u8 0, .int .u8 0, .int .u8 0, .int .u8 0, .int .u8 0] 40)
  have BB := Lib.hid (below_alloc1 w (.cells #[.int .i64 136, .int .i64 0, .int .i64 0, .int .i64 t, .int .i64 0, .int .i64 c, .int .u8 0, .int .u8 0, .int .u8 0, .int .u8 0, .int .u8 0, .int .u8 0, .int .u8 0, .int .u8 0] 40))
  generalize w.alloc (.cells #[.int .i64 136, .int .i64 0, .int .i64 0, .int .i64 t, .int .i64 0, .int .i64 c, .int .u8 0, .int .u8 0, .int .u8 0, .int .u8 0, .int .u8 0, .int .u8 0, .int .u8 0, .int .u8 0] 40) = w1 at *
  clear hc0 hc1 hc2 hc3 hc4 hc5
  refine wp_region_ext (by kernel_rfl) (by kernel_rfl) ?_
  repeat (first
        | go_big_quiet_skip
        | (go_big_quiet_want
           first
             | (refine quiet_load_blk (T := 40) (g := w.heap.size) agg_rep _ rfl rfl K1 ?_ ?_; (· rfl); go_simp; go_big_quiet_on)
             | (go_big_quiet_op
                first
                  | go_big_quiet_on
                  | go_big_quiet_call (((with_reducible refine ext_of (CN.out _)))))))
  refine wpQuiet_nil ?_
  intro _ hw'
  obtain ⟨y9, rfl⟩ := hw'
  replace K1 := Lib.hid (K1.out.below (exw_bel y9))
  replace BB := Lib.hid (bt BB.out (exw_bel y9))
  generalize exw w1 y9 = w2 at *
  clear NQ CN
  have c0 : w2.cell? ⟨w.heap.size, 0, none⟩ = some (.int .i64 136) := (K1.out.cell 0).trans rfl
  have lw0 := K1.out.lt
  have c3w2 : w2.cell? ⟨w.heap.size, 3, none⟩ = some (.int .i64 t) := (K1.out.cell 3).trans rfl
  have c5w2 : w2.cell? ⟨w.heap.size, 5, none⟩ = some (.int .i64 c) := (K1.out.cell 5).trans rfl
  go_wp2_with ((with_reducible show wpList _ _ _ (⟨some 105, _, _, _, _, _⟩ :: _) _ _); refine Marker.mk ?_)
  refine Marker.in ?_
  have OK : Hid (Own (w2.alloc (.cells #[.int .u8 136] 5)) w2.heap.size (some ⟨w2.heap.size, 0, none⟩) 1 [136]) := Lib.hid (own_one w2 136 (by omega) (by omega))
  have B3 := Lib.hid (below_alloc2 w2 (.cells #[.int .u8 136] 5) (.cells #[.int .u8 t, .int .u8 c] 5))
  have RR := Lib.hid (u8V_row (l := [t, c]) (Blk.new' (w2.alloc (.cells #[.int .u8 136] 5)) #[.int .u8 t, .int .u8 c] 5 (g := w2.heap.size + 1) (by simp)) (fun x hx => by simp at hx; omega))
  replace OK := Lib.hid (own_below OK.out (below_alloc1 (w2.alloc (.cells #[.int .u8 136] 5)) (.cells #[.int .u8 t, .int .u8 c] 5)))
  have l3 : w2.heap.size ≤ ((w2.alloc (.cells #[.int .u8 136] 5)).alloc (.cells #[.int .u8 t, .int .u8 c] 5)).heap.size := B3.out.size
  (with_reducible refine wpList_append_bytes _ rfl (.tmp 97) (.tmp 104) rfl w2.heap.size (some ⟨w2.heap.size, 0, none⟩) 1 1 [136] rfl rfl OK.out (some ⟨w2.heap.size + 1, 0, none⟩) 2 2 [t, c] rfl ?_ RR.out (by omega) l3 ?_)
  · exact congrArg (fun z => Value.slice (some ⟨z, 0, none⟩) 2 2) (by simp)
  intro A6 c6 w6 o6 b6
  have O6 := Lib.hid o6
  replace BB := Lib.hid (bt BB.out (B3.out.trans b6))
  clear o6 b6 B3 RR OK c0 c3w2 c5w2
  go_wp2_with fail
  go_ret2
  exact rqP_some HP.out rfl rfl O6.out BB.out
end Go.Proofs.Ytakahkpogooepaa

/- sidestickref08.PutReply of any reply. -/
namespace Go.Proofs.Ytakahkpogooepaa
open Go.RowKit

theorem replies_anyP (a0 a1 a2 a3 a4 a5 a6 a7 a8 a9 a10 a11 a12 a13 : Int) (w : World) (h1 : 129 ≤ a0) (h2 : a0 ≤ 136) :
    Calls Try.prog 32 #[.agg #[.int .i64 a0, .int .i64 a1, .int .i64 a2, .int .i64 a3, .int .i64 a4, .int .i64 a5, .int .u8 a6, .int .u8 a7, .int .u8 a8, .int .u8 a9, .int .u8 a10, .int .u8 a11, .int .u8 a12, .int .u8 a13]] w fun e' w' => e' = .returned (.agg (repV (replies14 a0 a1 a2 a3 a4 a5 a6 a7 a8 a9 a10 a11 a12 a13))) ∧ Below w.heap.size w w' := by
  have h : a0 = 129 ∨ a0 = 130 ∨ a0 = 131 ∨ a0 = 132 ∨ a0 = 133 ∨ a0 = 134 ∨ a0 = 135 ∨ a0 = 136 := by omega
  rcases h with rfl | rfl | rfl | rfl | rfl | rfl | rfl | rfl
  · exact replies_129 a1 a2 a3 a4 a5 a6 a7 a8 a9 a10 a11 a12 a13 w
  · exact replies_130 a1 a2 a3 a4 a5 a6 a7 a8 a9 a10 a11 a12 a13 w
  · exact replies_131 a1 a2 a3 a4 a5 a6 a7 a8 a9 a10 a11 a12 a13 w
  · exact replies_132 a1 a2 a3 a4 a5 a6 a7 a8 a9 a10 a11 a12 a13 w
  · exact replies_133 a1 a2 a3 a4 a5 a6 a7 a8 a9 a10 a11 a12 a13 w
  · exact replies_134 a1 a2 a3 a4 a5 a6 a7 a8 a9 a10 a11 a12 a13 w
  · exact replies_135 a1 a2 a3 a4 a5 a6 a7 a8 a9 a10 a11 a12 a13 w
  · exact replies_136 a1 a2 a3 a4 a5 a6 a7 a8 a9 a10 a11 a12 a13 w
theorem isRep_repliesP (a0 a1 a2 a3 a4 a5 a6 a7 a8 a9 a10 a11 a12 a13 : Int) (h : IsRepL [a0, a1, a2, a3, a4, a5, a6, a7, a8, a9, a10, a11, a12, a13]) (h1 : 129 ≤ a0) (h2 : a0 ≤ 136) : IsRepL (replies14 a0 a1 a2 a3 a4 a5 a6 a7 a8 a9 a10 a11 a12 a13) := by
  have b := h.2
  have hb : ∀ i, 6 ≤ i → i < 14 → ∀ x, [a0, a1, a2, a3, a4, a5, a6, a7, a8, a9, a10, a11, a12, a13][i]? = some x → 0 ≤ x ∧ x ≤ 255 := fun i h6 h14 x hx => by
    have := b i h6 h14
    rw [List.getD_eq_getElem?_getD, hx] at this
    exact this
  have b6 := hb 6 (by omega) (by omega) a6 rfl
  have b7 := hb 7 (by omega) (by omega) a7 rfl
  have b8 := hb 8 (by omega) (by omega) a8 rfl
  have b9 := hb 9 (by omega) (by omega) a9 rfl
  have b10 := hb 10 (by omega) (by omega) a10 rfl
  have b11 := hb 11 (by omega) (by omega) a11 rfl
  have b12 := hb 12 (by omega) (by omega) a12 rfl
  have b13 := hb 13 (by omega) (by omega) a13 rfl
  have hk : a0 = 129 ∨ a0 = 130 ∨ a0 = 131 ∨ a0 = 132 ∨ a0 = 133 ∨ a0 = 134 ∨ a0 = 135 ∨ a0 = 136 := by omega
  clear hb b h
  rcases hk with rfl | rfl | rfl | rfl | rfl | rfl | rfl | rfl
  all_goals
    refine ⟨rfl, fun i h6 h14 => ?_⟩
    have hi : i = 6 ∨ i = 7 ∨ i = 8 ∨ i = 9 ∨ i = 10 ∨ i = 11 ∨ i = 12 ∨ i = 13 := by omega
    rcases hi with rfl | rfl | rfl | rfl | rfl | rfl | rfl | rfl <;> simp [replies14] <;> omega
set_option maxRecDepth 100000 in
set_option maxHeartbeats 3200000 in
theorem rq_misfit (a0 a1 a2 a3 a4 a5 a6 a7 a8 a9 a10 a11 a12 a13 : Int) (hf : fitsR a0 a1 a2 a3 a4 a5 = false) (w : World) :
    Calls Try.prog 17 #[.agg #[.int .i64 a0, .int .i64 a1, .int .i64 a2, .int .i64 a3, .int .i64 a4, .int .i64 a5, .int .u8 a6, .int .u8 a7, .int .u8 a8, .int .u8 a9, .int .u8 a10, .int .u8 a11, .int .u8 a12, .int .u8 a13]] w (RqP [a0, a1, a2, a3, a4, a5, a6, a7, a8, a9, a10, a11, a12, a13] w) := by
  have hp : putR8 [a0, a1, a2, a3, a4, a5, a6, a7, a8, a9, a10, a11, a12, a13] = none := by
    cases hc : putR8 [a0, a1, a2, a3, a4, a5, a6, a7, a8, a9, a10, a11, a12, a13] with
    | none => rfl
    | some bs =>
      have h := putR8_fits a0 a1 a2 a3 a4 a5 a6 a7 a8 a9 a10 a11 a12 a13 bs hc
      rw [hf] at h
      exact absurd h.1 (by decide)
  have HP := Lib.hid hp
  have HF := Lib.hid hf
  clear hp hf
  go_enter Try.func17, Try.ntmps17
  go_wp2_with fail
  ((with_reducible refine (in_any _ _ _ _).mono ?_))
  rintro e' v0 ⟨rfl, rfl⟩
  cases hc0 : inB a0 129 136 with
  | false =>
    go_wp2_with fail
    have K1 := Lib.hid (Blk.new w #[.int .i64 a0, .int .i64 a1, .int .i64 a2, .int .i64 a3, .int .i64 a4, .int .i64 a5, .int .u8 a6, .int .u8 a7, .int .u8 a8, .int .u8 a9, .int .u8 a10, .int .u8 a11, .int .u8 a12, .int .u8 a13] 40)
    have BB := Lib.hid (below_alloc1 w (.cells #[.int .i64 a0, .int .i64 a1, .int .i64 a2, .int .i64 a3, .int .i64 a4, .int .i64 a5, .int .u8 a6, .int .u8 a7, .int .u8 a8, .int .u8 a9, .int .u8 a10, .int .u8 a11, .int .u8 a12, .int .u8 a13] 40))
    generalize w.alloc (.cells #[.int .i64 a0, .int .i64 a1, .int .i64 a2, .int .i64 a3, .int .i64 a4, .int .i64 a5, .int .u8 a6, .int .u8 a7, .int .u8 a8, .int .u8 a9, .int .u8 a10, .int .u8 a11, .int .u8 a12, .int .u8 a13] 40) = w1 at *
    refine wp_region_ext (by kernel_rfl) (by kernel_rfl) ?_
    repeat (first
          | go_big_quiet_skip
          | (go_big_quiet_want
             first
               | (refine quiet_load_blk (T := 40) (g := w.heap.size) agg_rep _ rfl rfl K1 ?_ ?_; (· rfl); go_simp; go_big_quiet_on)
               | (go_big_quiet_op
                  first
                    | go_big_quiet_on
                    | go_big_quiet_call ((fail)))))
    refine wpQuiet_nil ?_
    intro _ hw'
    obtain ⟨y9, rfl⟩ := hw'
    replace BB := Lib.hid (bt BB.out (exw_bel y9))
    generalize exw w1 y9 = w2 at *
    go_wp2_with fail
    go_ret2
    exact rqP_none HP.out rfl BB.out
  | true =>
    go_wp2_with fail
    ((with_reducible refine (in_any _ _ _ _).mono ?_))
    rintro e' v1 ⟨rfl, rfl⟩
    cases hc1 : inB a1 0 4294967295 with
    | false =>
      go_wp2_with fail
      have K1 := Lib.hid (Blk.new w #[.int .i64 a0, .int .i64 a1, .int .i64 a2, .int .i64 a3, .int .i64 a4, .int .i64 a5, .int .u8 a6, .int .u8 a7, .int .u8 a8, .int .u8 a9, .int .u8 a10, .int .u8 a11, .int .u8 a12, .int .u8 a13] 40)
      have BB := Lib.hid (below_alloc1 w (.cells #[.int .i64 a0, .int .i64 a1, .int .i64 a2, .int .i64 a3, .int .i64 a4, .int .i64 a5, .int .u8 a6, .int .u8 a7, .int .u8 a8, .int .u8 a9, .int .u8 a10, .int .u8 a11, .int .u8 a12, .int .u8 a13] 40))
      generalize w.alloc (.cells #[.int .i64 a0, .int .i64 a1, .int .i64 a2, .int .i64 a3, .int .i64 a4, .int .i64 a5, .int .u8 a6, .int .u8 a7, .int .u8 a8, .int .u8 a9, .int .u8 a10, .int .u8 a11, .int .u8 a12, .int .u8 a13] 40) = w1 at *
      refine wp_region_ext (by kernel_rfl) (by kernel_rfl) ?_
      repeat (first
            | go_big_quiet_skip
            | (go_big_quiet_want
               first
                 | (refine quiet_load_blk (T := 40) (g := w.heap.size) agg_rep _ rfl rfl K1 ?_ ?_; (· rfl); go_simp; go_big_quiet_on)
                 | (go_big_quiet_op
                    first
                      | go_big_quiet_on
                      | go_big_quiet_call ((fail)))))
      refine wpQuiet_nil ?_
      intro _ hw'
      obtain ⟨y9, rfl⟩ := hw'
      replace BB := Lib.hid (bt BB.out (exw_bel y9))
      generalize exw w1 y9 = w2 at *
      go_wp2_with fail
      go_ret2
      exact rqP_none HP.out rfl BB.out
    | true =>
      go_wp2_with fail
      ((with_reducible refine (in_any _ _ _ _).mono ?_))
      rintro e' v2 ⟨rfl, rfl⟩
      cases hc2 : inB a2 0 3 with
      | false =>
        go_wp2_with fail
        have K1 := Lib.hid (Blk.new w #[.int .i64 a0, .int .i64 a1, .int .i64 a2, .int .i64 a3, .int .i64 a4, .int .i64 a5, .int .u8 a6, .int .u8 a7, .int .u8 a8, .int .u8 a9, .int .u8 a10, .int .u8 a11, .int .u8 a12, .int .u8 a13] 40)
        have BB := Lib.hid (below_alloc1 w (.cells #[.int .i64 a0, .int .i64 a1, .int .i64 a2, .int .i64 a3, .int .i64 a4, .int .i64 a5, .int .u8 a6, .int .u8 a7, .int .u8 a8, .int .u8 a9, .int .u8 a10, .int .u8 a11, .int .u8 a12, .int .u8 a13] 40))
        generalize w.alloc (.cells #[.int .i64 a0, .int .i64 a1, .int .i64 a2, .int .i64 a3, .int .i64 a4, .int .i64 a5, .int .u8 a6, .int .u8 a7, .int .u8 a8, .int .u8 a9, .int .u8 a10, .int .u8 a11, .int .u8 a12, .int .u8 a13] 40) = w1 at *
        refine wp_region_ext (by kernel_rfl) (by kernel_rfl) ?_
        repeat (first
              | go_big_quiet_skip
              | (go_big_quiet_want
                 first
                   | (refine quiet_load_blk (T := 40) (g := w.heap.size) agg_rep _ rfl rfl K1 ?_ ?_; (· rfl); go_simp; go_big_quiet_on)
                   | (go_big_quiet_op
                      first
                        | go_big_quiet_on
                        | go_big_quiet_call ((fail)))))
        refine wpQuiet_nil ?_
        intro _ hw'
        obtain ⟨y9, rfl⟩ := hw'
        replace BB := Lib.hid (bt BB.out (exw_bel y9))
        generalize exw w1 y9 = w2 at *
        go_wp2_with fail
        go_ret2
        exact rqP_none HP.out rfl BB.out
      | true =>
        go_wp2_with fail
        ((with_reducible refine (in_any _ _ _ _).mono ?_))
        rintro e' v3 ⟨rfl, rfl⟩
        cases hc3 : inB a3 0 4 with
        | false =>
          go_wp2_with fail
          have K1 := Lib.hid (Blk.new w #[.int .i64 a0, .int .i64 a1, .int .i64 a2, .int .i64 a3, .int .i64 a4, .int .i64 a5, .int .u8 a6, .int .u8 a7, .int .u8 a8, .int .u8 a9, .int .u8 a10, .int .u8 a11, .int .u8 a12, .int .u8 a13] 40)
          have BB := Lib.hid (below_alloc1 w (.cells #[.int .i64 a0, .int .i64 a1, .int .i64 a2, .int .i64 a3, .int .i64 a4, .int .i64 a5, .int .u8 a6, .int .u8 a7, .int .u8 a8, .int .u8 a9, .int .u8 a10, .int .u8 a11, .int .u8 a12, .int .u8 a13] 40))
          generalize w.alloc (.cells #[.int .i64 a0, .int .i64 a1, .int .i64 a2, .int .i64 a3, .int .i64 a4, .int .i64 a5, .int .u8 a6, .int .u8 a7, .int .u8 a8, .int .u8 a9, .int .u8 a10, .int .u8 a11, .int .u8 a12, .int .u8 a13] 40) = w1 at *
          refine wp_region_ext (by kernel_rfl) (by kernel_rfl) ?_
          repeat (first
                | go_big_quiet_skip
                | (go_big_quiet_want
                   first
                     | (refine quiet_load_blk (T := 40) (g := w.heap.size) agg_rep _ rfl rfl K1 ?_ ?_; (· rfl); go_simp; go_big_quiet_on)
                     | (go_big_quiet_op
                        first
                          | go_big_quiet_on
                          | go_big_quiet_call ((fail)))))
          refine wpQuiet_nil ?_
          intro _ hw'
          obtain ⟨y9, rfl⟩ := hw'
          replace BB := Lib.hid (bt BB.out (exw_bel y9))
          generalize exw w1 y9 = w2 at *
          go_wp2_with fail
          go_ret2
          exact rqP_none HP.out rfl BB.out
        | true =>
          go_wp2_with fail
          ((with_reducible refine (in_any _ _ _ _).mono ?_))
          rintro e' v4 ⟨rfl, rfl⟩
          cases hc4 : inB a4 0 65535 with
          | false =>
            go_wp2_with fail
            have K1 := Lib.hid (Blk.new w #[.int .i64 a0, .int .i64 a1, .int .i64 a2, .int .i64 a3, .int .i64 a4, .int .i64 a5, .int .u8 a6, .int .u8 a7, .int .u8 a8, .int .u8 a9, .int .u8 a10, .int .u8 a11, .int .u8 a12, .int .u8 a13] 40)
            have BB := Lib.hid (below_alloc1 w (.cells #[.int .i64 a0, .int .i64 a1, .int .i64 a2, .int .i64 a3, .int .i64 a4, .int .i64 a5, .int .u8 a6, .int .u8 a7, .int .u8 a8, .int .u8 a9, .int .u8 a10, .int .u8 a11, .int .u8 a12, .int .u8 a13] 40))
            generalize w.alloc (.cells #[.int .i64 a0, .int .i64 a1, .int .i64 a2, .int .i64 a3, .int .i64 a4, .int .i64 a5, .int .u8 a6, .int .u8 a7, .int .u8 a8, .int .u8 a9, .int .u8 a10, .int .u8 a11, .int .u8 a12, .int .u8 a13] 40) = w1 at *
            refine wp_region_ext (by kernel_rfl) (by kernel_rfl) ?_
            repeat (first
                  | go_big_quiet_skip
                  | (go_big_quiet_want
                     first
                       | (refine quiet_load_blk (T := 40) (g := w.heap.size) agg_rep _ rfl rfl K1 ?_ ?_; (· rfl); go_simp; go_big_quiet_on)
                       | (go_big_quiet_op
                          first
                            | go_big_quiet_on
                            | go_big_quiet_call ((fail)))))
            refine wpQuiet_nil ?_
            intro _ hw'
            obtain ⟨y9, rfl⟩ := hw'
            replace BB := Lib.hid (bt BB.out (exw_bel y9))
            generalize exw w1 y9 = w2 at *
            go_wp2_with fail
            go_ret2
            exact rqP_none HP.out rfl BB.out
          | true =>
            go_wp2_with fail
            ((with_reducible refine (in_any _ _ _ _).mono ?_))
            rintro e' v5 ⟨rfl, rfl⟩
            cases hc5 : inB a5 0 255 with
            | false =>
              go_wp2_with fail
              have K1 := Lib.hid (Blk.new w #[.int .i64 a0, .int .i64 a1, .int .i64 a2, .int .i64 a3, .int .i64 a4, .int .i64 a5, .int .u8 a6, .int .u8 a7, .int .u8 a8, .int .u8 a9, .int .u8 a10, .int .u8 a11, .int .u8 a12, .int .u8 a13] 40)
              have BB := Lib.hid (below_alloc1 w (.cells #[.int .i64 a0, .int .i64 a1, .int .i64 a2, .int .i64 a3, .int .i64 a4, .int .i64 a5, .int .u8 a6, .int .u8 a7, .int .u8 a8, .int .u8 a9, .int .u8 a10, .int .u8 a11, .int .u8 a12, .int .u8 a13] 40))
              generalize w.alloc (.cells #[.int .i64 a0, .int .i64 a1, .int .i64 a2, .int .i64 a3, .int .i64 a4, .int .i64 a5, .int .u8 a6, .int .u8 a7, .int .u8 a8, .int .u8 a9, .int .u8 a10, .int .u8 a11, .int .u8 a12, .int .u8 a13] 40) = w1 at *
              refine wp_region_ext (by kernel_rfl) (by kernel_rfl) ?_
              repeat (first
                    | go_big_quiet_skip
                    | (go_big_quiet_want
                       first
                         | (refine quiet_load_blk (T := 40) (g := w.heap.size) agg_rep _ rfl rfl K1 ?_ ?_; (· rfl); go_simp; go_big_quiet_on)
                         | (go_big_quiet_op
                            first
                              | go_big_quiet_on
                              | go_big_quiet_call ((fail)))))
              refine wpQuiet_nil ?_
              intro _ hw'
              obtain ⟨y9, rfl⟩ := hw'
              replace BB := Lib.hid (bt BB.out (exw_bel y9))
              generalize exw w1 y9 = w2 at *
              go_wp2_with fail
              go_ret2
              exact rqP_none HP.out rfl BB.out
            | true =>
              exfalso
              have := HF.out
              unfold fitsR at this
              simp [hc0, hc1, hc2, hc3, hc4, hc5] at this
set_option maxRecDepth 100000 in
set_option maxHeartbeats 3200000 in
theorem rq_unlike (a0 a1 a2 a3 a4 a5 a6 a7 a8 a9 a10 a11 a12 a13 : Int) (hr : IsRepL [a0, a1, a2, a3, a4, a5, a6, a7, a8, a9, a10, a11, a12, a13]) (hf : fitsR a0 a1 a2 a3 a4 a5 = true) (hn : replies14 a0 a1 a2 a3 a4 a5 a6 a7 a8 a9 a10 a11 a12 a13 ≠ [a0, a1, a2, a3, a4, a5, a6, a7, a8, a9, a10, a11, a12, a13]) (w : World) :
    Calls Try.prog 17 #[.agg #[.int .i64 a0, .int .i64 a1, .int .i64 a2, .int .i64 a3, .int .i64 a4, .int .i64 a5, .int .u8 a6, .int .u8 a7, .int .u8 a8, .int .u8 a9, .int .u8 a10, .int .u8 a11, .int .u8 a12, .int .u8 a13]] w (RqP [a0, a1, a2, a3, a4, a5, a6, a7, a8, a9, a10, a11, a12, a13] w) := by
  have hp : putR8 [a0, a1, a2, a3, a4, a5, a6, a7, a8, a9, a10, a11, a12, a13] = none := by
    cases hc : putR8 [a0, a1, a2, a3, a4, a5, a6, a7, a8, a9, a10, a11, a12, a13] with
    | none => rfl
    | some bs => exact absurd (putR8_fits a0 a1 a2 a3 a4 a5 a6 a7 a8 a9 a10 a11 a12 a13 bs hc).2 hn
  have hk := (fitsR_iff _ _ _ _ _ _).1 hf
  have CN := Lib.hid (fun W => replies_anyP a0 a1 a2 a3 a4 a5 a6 a7 a8 a9 a10 a11 a12 a13 W (by omega) (by omega))
  have NQ := fun W => neq_rep (replies14 a0 a1 a2 a3 a4 a5 a6 a7 a8 a9 a10 a11 a12 a13) [a0, a1, a2, a3, a4, a5, a6, a7, a8, a9, a10, a11, a12, a13] (isRep_repliesP a0 a1 a2 a3 a4 a5 a6 a7 a8 a9 a10 a11 a12 a13 hr (by omega) (by omega)) hr W
  rw [decide_eq_false hn] at NQ
  replace NQ : ∀ W, (binOp .neq 40 (.agg (repV (replies14 a0 a1 a2 a3 a4 a5 a6 a7 a8 a9 a10 a11 a12 a13))) (.agg #[.int .i64 a0, .int .i64 a1, .int .i64 a2, .int .i64 a3, .int .i64 a4, .int .i64 a5, .int .u8 a6, .int .u8 a7, .int .u8 a8, .int .u8 a9, .int .u8 a10, .int .u8 a11, .int .u8 a12, .int .u8 a13])).run Try.prog W = .ok (.bool true) W := NQ
  clear hn
  generalize repV (replies14 a0 a1 a2 a3 a4 a5 a6 a7 a8 a9 a10 a11 a12 a13) = nv at *
  have hc0 : inB a0 129 136 = true := by unfold inB; simp; omega
  have hc1 : inB a1 0 4294967295 = true := by unfold inB; simp; omega
  have hc2 : inB a2 0 3 = true := by unfold inB; simp; omega
  have hc3 : inB a3 0 4 = true := by unfold inB; simp; omega
  have hc4 : inB a4 0 65535 = true := by unfold inB; simp; omega
  have hc5 : inB a5 0 255 = true := by unfold inB; simp; omega
  have HP := Lib.hid hp
  clear hp hf hk hr
  go_enter Try.func17, Try.ntmps17
  go_wp2_with fail
  ((with_reducible refine (in_any _ _ _ _).mono ?_))
  rintro e' v0 ⟨rfl, rfl⟩
  rw [hc0]
  go_wp2_with fail
  ((with_reducible refine (in_any _ _ _ _).mono ?_))
  rintro e' v1 ⟨rfl, rfl⟩
  rw [hc1]
  go_wp2_with fail
  ((with_reducible refine (in_any _ _ _ _).mono ?_))
  rintro e' v2 ⟨rfl, rfl⟩
  rw [hc2]
  go_wp2_with fail
  ((with_reducible refine (in_any _ _ _ _).mono ?_))
  rintro e' v3 ⟨rfl, rfl⟩
  rw [hc3]
  go_wp2_with fail
  ((with_reducible refine (in_any _ _ _ _).mono ?_))
  rintro e' v4 ⟨rfl, rfl⟩
  rw [hc4]
  go_wp2_with fail
  ((with_reducible refine (in_any _ _ _ _).mono ?_))
  rintro e' v5 ⟨rfl, rfl⟩
  rw [hc5]
  go_wp2_with fail
  have K1 := Lib.hid (Blk.new w #[.int .i64 a0, .int .i64 a1, .int .i64 a2, .int .i64 a3, .int .i64 a4, .int .i64 a5, .int .u8 a6, .int .u8 a7, .int .u8 a8, .int .u8 a9, .int .u8 a10, .int .u8 a11, .int .u8 a12, .int .u8 a13] 40)
  have BB := Lib.hid (below_alloc1 w (.cells #[.int .i64 a0, .int .i64 a1, .int .i64 a2, .int .i64 a3, .int .i64 a4, .int .i64 a5, .int .u8 a6, .int .u8 a7, .int .u8 a8, .int .u8 a9, .int .u8 a10, .int .u8 a11, .int .u8 a12, .int .u8 a13] 40))
  generalize w.alloc (.cells #[.int .i64 a0, .int .i64 a1, .int .i64 a2, .int .i64 a3, .int .i64 a4, .int .i64 a5, .int .u8 a6, .int .u8 a7, .int .u8 a8, .int .u8 a9, .int .u8 a10, .int .u8 a11, .int .u8 a12, .int .u8 a13] 40) = w1 at *
  refine wp_region_ext (by kernel_rfl) (by kernel_rfl) ?_
  repeat (first
        | go_big_quiet_skip
        | (go_big_quiet_want
           first
             | (refine quiet_load_blk (T := 40) (g := w.heap.size) agg_rep _ rfl rfl K1 ?_ ?_; (· rfl); go_simp; go_big_quiet_on)
             | (go_big_quiet_op
                first
                  | go_big_quiet_on
                  | go_big_quiet_call (((with_reducible refine ext_of (CN.out _)))))))
  refine wpQuiet_nil ?_
  intro _ hw'
  obtain ⟨y9, rfl⟩ := hw'
  replace BB := Lib.hid (bt BB.out (exw_bel y9))
  generalize exw w1 y9 = w2 at *
  go_wp2_with fail
  go_ret2
  exact rqP_none HP.out rfl BB.out
theorem rq_lit (a0 a1 a2 a3 a4 a5 a6 a7 a8 a9 a10 a11 a12 a13 : Int) (hr : IsRepL [a0, a1, a2, a3, a4, a5, a6, a7, a8, a9, a10, a11, a12, a13]) (w : World) : Calls Try.prog 17 #[.agg #[.int .i64 a0, .int .i64 a1, .int .i64 a2, .int .i64 a3, .int .i64 a4, .int .i64 a5, .int .u8 a6, .int .u8 a7, .int .u8 a8, .int .u8 a9, .int .u8 a10, .int .u8 a11, .int .u8 a12, .int .u8 a13]] w (RqP [a0, a1, a2, a3, a4, a5, a6, a7, a8, a9, a10, a11, a12, a13] w) := by
  cases hf : fitsR a0 a1 a2 a3 a4 a5 with
  | false => exact rq_misfit a0 a1 a2 a3 a4 a5 a6 a7 a8 a9 a10 a11 a12 a13 hf w
  | true =>
    by_cases hn : replies14 a0 a1 a2 a3 a4 a5 a6 a7 a8 a9 a10 a11 a12 a13 = [a0, a1, a2, a3, a4, a5, a6, a7, a8, a9, a10, a11, a12, a13]
    · have hk := (fitsR_iff _ _ _ _ _ _).1 hf
      have h : a0 = 129 ∨ a0 = 130 ∨ a0 = 131 ∨ a0 = 132 ∨ a0 = 133 ∨ a0 = 134 ∨ a0 = 135 ∨ a0 = 136 := by omega
      obtain ⟨h0, h1, h2, h3, h4, h5⟩ := hk
      have b := hr.2
      have hb : ∀ i, 6 ≤ i → i < 14 → ∀ x, [a0, a1, a2, a3, a4, a5, a6, a7, a8, a9, a10, a11, a12, a13][i]? = some x → 0 ≤ x ∧ x ≤ 255 := fun i h6 h14 x hx => by
        have := b i h6 h14
        rw [List.getD_eq_getElem?_getD, hx] at this
        exact this
      have b6 := hb 6 (by omega) (by omega) a6 rfl
      have b7 := hb 7 (by omega) (by omega) a7 rfl
      have b8 := hb 8 (by omega) (by omega) a8 rfl
      have b9 := hb 9 (by omega) (by omega) a9 rfl
      have b10 := hb 10 (by omega) (by omega) a10 rfl
      have b11 := hb 11 (by omega) (by omega) a11 rfl
      have b12 := hb 12 (by omega) (by omega) a12 rfl
      have b13 := hb 13 (by omega) (by omega) a13 rfl
      clear hb b hr h0 hf
      rcases h with rfl | rfl | rfl | rfl | rfl | rfl | rfl | rfl
      · replace hn : ([129, 0, 0, 0, 0, 0, a6, a7, a8, a9, a10, a11, a12, a13] : List Int) = [129, a1, a2, a3, a4, a5, a6, a7, a8, a9, a10, a11, a12, a13] := hn
        simp only [List.cons.injEq, true_and, and_true] at hn
        obtain ⟨rfl, rfl, rfl, rfl, rfl⟩ := hn
        exact rq_129 a6 a7 a8 a9 a10 a11 a12 a13 b6 b7 b8 b9 b10 b11 b12 b13 w
      · replace hn : ([130, 0, a2, a3, a4, 0, 0, 0, 0, 0, 0, 0, 0, 0] : List Int) = [130, a1, a2, a3, a4, a5, a6, a7, a8, a9, a10, a11, a12, a13] := hn
        simp only [List.cons.injEq, true_and, and_true] at hn
        obtain ⟨rfl, rfl, rfl, rfl, rfl, rfl, rfl, rfl, rfl, rfl⟩ := hn
        exact rq_130 a2 a3 a4 h2 h3 h4 w
      · replace hn : ([131, a1, 0, 0, 0, 0, 0, 0, 0, 0, 0, 0, 0, 0] : List Int) = [131, a1, a2, a3, a4, a5, a6, a7, a8, a9, a10, a11, a12, a13] := hn
        simp only [List.cons.injEq, true_and, and_true] at hn
        obtain ⟨rfl, rfl, rfl, rfl, rfl, rfl, rfl, rfl, rfl, rfl, rfl, rfl⟩ := hn
        exact rq_131 a1 h1 w
      · replace hn : ([132, a1, 0, 0, 0, a5, 0, 0, 0, 0, 0, 0, 0, 0] : List Int) = [132, a1, a2, a3, a4, a5, a6, a7, a8, a9, a10, a11, a12, a13] := hn
        simp only [List.cons.injEq, true_and, and_true] at hn
        obtain ⟨rfl, rfl, rfl, rfl, rfl, rfl, rfl, rfl, rfl, rfl, rfl⟩ := hn
        exact rq_132 a1 a5 h1 h5 w
      · replace hn : ([133, 0, 0, 0, a4, 0, 0, 0, 0, 0, 0, 0, 0, 0] : List Int) = [133, a1, a2, a3, a4, a5, a6, a7, a8, a9, a10, a11, a12, a13] := hn
        simp only [List.cons.injEq, true_and, and_true] at hn
        obtain ⟨rfl, rfl, rfl, rfl, rfl, rfl, rfl, rfl, rfl, rfl, rfl, rfl⟩ := hn
        exact rq_133 a4 h4 w
      · replace hn : ([134, 0, 0, a3, a4, 0, 0, 0, 0, 0, 0, 0, 0, 0] : List Int) = [134, a1, a2, a3, a4, a5, a6, a7, a8, a9, a10, a11, a12, a13] := hn
        simp only [List.cons.injEq, true_and, and_true] at hn
        obtain ⟨rfl, rfl, rfl, rfl, rfl, rfl, rfl, rfl, rfl, rfl, rfl⟩ := hn
        exact rq_134 a3 a4 h3 h4 w
      · replace hn : ([135, 0, 0, a3, a4, 0, 0, 0, 0, 0, 0, 0, 0, 0] : List Int) = [135, a1, a2, a3, a4, a5, a6, a7, a8, a9, a10, a11, a12, a13] := hn
        simp only [List.cons.injEq, true_and, and_true] at hn
        obtain ⟨rfl, rfl, rfl, rfl, rfl, rfl, rfl, rfl, rfl, rfl, rfl⟩ := hn
        exact rq_135 a3 a4 h3 h4 w
      · replace hn : ([136, 0, 0, a3, 0, a5, 0, 0, 0, 0, 0, 0, 0, 0] : List Int) = [136, a1, a2, a3, a4, a5, a6, a7, a8, a9, a10, a11, a12, a13] := hn
        simp only [List.cons.injEq, true_and, and_true] at hn
        obtain ⟨rfl, rfl, rfl, rfl, rfl, rfl, rfl, rfl, rfl, rfl, rfl⟩ := hn
        exact rq_136 a3 a5 h3 h5 w
    · exact rq_unlike a0 a1 a2 a3 a4 a5 a6 a7 a8 a9 a10 a11 a12 a13 hr hf hn w
theorem rq_any (l : List Int) (hl : IsRepL l) (w : World) : Calls Try.prog 17 #[.agg (repV l)] w (RqP l w) := by
  have h1 := hl.1
  match l, h1 with
  | [a0, a1, a2, a3, a4, a5, a6, a7, a8, a9, a10, a11, a12, a13], _ => exact rq_lit a0 a1 a2 a3 a4 a5 a6 a7 a8 a9 a10 a11 a12 a13 hl w
end Go.Proofs.Ytakahkpogooepaa

/- sidestickref08.TakeReply: parts. -/
namespace Go.Proofs.Ytakahkpogooepaa
open Go.RowKit

/-- what bytes may say as a reply -/
def decR (bs : List Int) : List Int :=
  if bs.getD 0 0 = 129 then [129, 0, 0, 0, 0, 0, bs.getD 1 0, bs.getD 2 0, bs.getD 3 0, bs.getD 4 0, bs.getD 5 0, bs.getD 6 0, bs.getD 7 0, bs.getD 8 0] else if bs.getD 0 0 = 130 then [130, 0, bs.getD 1 0, bs.getD 2 0, (256 * bs.getD 3 0 + bs.getD 4 0), 0, 0, 0, 0, 0, 0, 0, 0, 0] else if bs.getD 0 0 = 131 then [131, (16777216 * bs.getD 1 0 + 65536 * bs.getD 2 0 + 256 * bs.getD 3 0 + bs.getD 4 0), 0, 0, 0, 0, 0, 0, 0, 0, 0, 0, 0, 0] else if bs.getD 0 0 = 132 then [132, (16777216 * bs.getD 1 0 + 65536 * bs.getD 2 0 + 256 * bs.getD 3 0 + bs.getD 4 0), 0, 0, 0, bs.getD 5 0, 0, 0, 0, 0, 0, 0, 0, 0] else if bs.getD 0 0 = 133 then [133, 0, 0, 0, (256 * bs.getD 1 0 + bs.getD 2 0), 0, 0, 0, 0, 0, 0, 0, 0, 0] else if bs.getD 0 0 = 134 then [134, 0, 0, bs.getD 1 0, (256 * bs.getD 2 0 + bs.getD 3 0), 0, 0, 0, 0, 0, 0, 0, 0, 0] else if bs.getD 0 0 = 135 then [135, 0, 0, bs.getD 1 0, (256 * bs.getD 2 0 + bs.getD 3 0), 0, 0, 0, 0, 0, 0, 0, 0, 0] else if bs.getD 0 0 = 136 then [136, 0, 0, bs.getD 1 0, 0, bs.getD 2 0, 0, 0, 0, 0, 0, 0, 0, 0] else z14 (bs.getD 0 0)
theorem decR_129 {bs : List Int} (h : bs.getD 0 0 = 129) : decR bs = [129, 0, 0, 0, 0, 0, bs.getD 1 0, bs.getD 2 0, bs.getD 3 0, bs.getD 4 0, bs.getD 5 0, bs.getD 6 0, bs.getD 7 0, bs.getD 8 0] := by
  unfold decR
  rw [if_pos h]
theorem decR_130 {bs : List Int} (h : bs.getD 0 0 = 130) : decR bs = [130, 0, bs.getD 1 0, bs.getD 2 0, (256 * bs.getD 3 0 + bs.getD 4 0), 0, 0, 0, 0, 0, 0, 0, 0, 0] := by
  unfold decR
  rw [if_neg (by omega)]
  rw [if_pos h]
theorem decR_131 {bs : List Int} (h : bs.getD 0 0 = 131) : decR bs = [131, (16777216 * bs.getD 1 0 + 65536 * bs.getD 2 0 + 256 * bs.getD 3 0 + bs.getD 4 0), 0, 0, 0, 0, 0, 0, 0, 0, 0, 0, 0, 0] := by
  unfold decR
  rw [if_neg (by omega)]
  rw [if_neg (by omega)]
  rw [if_pos h]
theorem decR_132 {bs : List Int} (h : bs.getD 0 0 = 132) : decR bs = [132, (16777216 * bs.getD 1 0 + 65536 * bs.getD 2 0 + 256 * bs.getD 3 0 + bs.getD 4 0), 0, 0, 0, bs.getD 5 0, 0, 0, 0, 0, 0, 0, 0, 0] := by
  unfold decR
  rw [if_neg (by omega)]
  rw [if_neg (by omega)]
  rw [if_neg (by omega)]
  rw [if_pos h]
theorem decR_133 {bs : List Int} (h : bs.getD 0 0 = 133) : decR bs = [133, 0, 0, 0, (256 * bs.getD 1 0 + bs.getD 2 0), 0, 0, 0, 0, 0, 0, 0, 0, 0] := by
  unfold decR
  rw [if_neg (by omega)]
  rw [if_neg (by omega)]
  rw [if_neg (by omega)]
  rw [if_neg (by omega)]
  rw [if_pos h]
theorem decR_134 {bs : List Int} (h : bs.getD 0 0 = 134) : decR bs = [134, 0, 0, bs.getD 1 0, (256 * bs.getD 2 0 + bs.getD 3 0), 0, 0, 0, 0, 0, 0, 0, 0, 0] := by
  unfold decR
  rw [if_neg (by omega)]
  rw [if_neg (by omega)]
  rw [if_neg (by omega)]
  rw [if_neg (by omega)]
  rw [if_neg (by omega)]
  rw [if_pos h]
theorem decR_135 {bs : List Int} (h : bs.getD 0 0 = 135) : decR bs = [135, 0, 0, bs.getD 1 0, (256 * bs.getD 2 0 + bs.getD 3 0), 0, 0, 0, 0, 0, 0, 0, 0, 0] := by
  unfold decR
  rw [if_neg (by omega)]
  rw [if_neg (by omega)]
  rw [if_neg (by omega)]
  rw [if_neg (by omega)]
  rw [if_neg (by omega)]
  rw [if_neg (by omega)]
  rw [if_pos h]
theorem decR_136 {bs : List Int} (h : bs.getD 0 0 = 136) : decR bs = [136, 0, 0, bs.getD 1 0, 0, bs.getD 2 0, 0, 0, 0, 0, 0, 0, 0, 0] := by
  unfold decR
  rw [if_neg (by omega)]
  rw [if_neg (by omega)]
  rw [if_neg (by omega)]
  rw [if_neg (by omega)]
  rw [if_neg (by omega)]
  rw [if_neg (by omega)]
  rw [if_neg (by omega)]
  rw [if_pos h]
theorem isRep_decR {bs : List Int} (hb : ∀ x ∈ bs, 0 ≤ x ∧ x ≤ 255) : IsRepL (decR bs) := by
  have r1 := getB hb 1
  have r2 := getB hb 2
  have r3 := getB hb 3
  have r4 := getB hb 4
  have r5 := getB hb 5
  have r6 := getB hb 6
  have r7 := getB hb 7
  have r8 := getB hb 8
  have z : (0 : Int) ≤ 0 ∧ (0 : Int) ≤ 255 := ⟨by decide, by decide⟩
  unfold decR
  split
  · refine ⟨rfl, fun i h6 h14 => ?_⟩
    have hi : i = 6 ∨ i = 7 ∨ i = 8 ∨ i = 9 ∨ i = 10 ∨ i = 11 ∨ i = 12 ∨ i = 13 := by omega
    rcases hi with rfl | rfl | rfl | rfl | rfl | rfl | rfl | rfl
    · exact r1
    · exact r2
    · exact r3
    · exact r4
    · exact r5
    · exact r6
    · exact r7
    · exact r8
  split
  · refine ⟨rfl, fun i h6 h14 => ?_⟩
    have hi : i = 6 ∨ i = 7 ∨ i = 8 ∨ i = 9 ∨ i = 10 ∨ i = 11 ∨ i = 12 ∨ i = 13 := by omega
    rcases hi with rfl | rfl | rfl | rfl | rfl | rfl | rfl | rfl
    · exact z
    · exact z
    · exact z
    · exact z
    · exact z
    · exact z
    · exact z
    · exact z
  split
  · refine ⟨rfl, fun i h6 h14 => ?_⟩
    have hi : i = 6 ∨ i = 7 ∨ i = 8 ∨ i = 9 ∨ i = 10 ∨ i = 11 ∨ i = 12 ∨ i = 13 := by omega
    rcases hi with rfl | rfl | rfl | rfl | rfl | rfl | rfl | rfl
    · exact z
    · exact z
    · exact z
    · exact z
    · exact z
    · exact z
    · exact z
    · exact z
  split
  · refine ⟨rfl, fun i h6 h14 => ?_⟩
    have hi : i = 6 ∨ i = 7 ∨ i = 8 ∨ i = 9 ∨ i = 10 ∨ i = 11 ∨ i = 12 ∨ i = 13 := by omega
    rcases hi with rfl | rfl | rfl | rfl | rfl | rfl | rfl | rfl
    · exact z
    · exact z
    · exact z
    · exact z
    · exact z
    · exact z
    · exact z
    · exact z
  split
  · refine ⟨rfl, fun i h6 h14 => ?_⟩
    have hi : i = 6 ∨ i = 7 ∨ i = 8 ∨ i = 9 ∨ i = 10 ∨ i = 11 ∨ i = 12 ∨ i = 13 := by omega
    rcases hi with rfl | rfl | rfl | rfl | rfl | rfl | rfl | rfl
    · exact z
    · exact z
    · exact z
    · exact z
    · exact z
    · exact z
    · exact z
    · exact z
  split
  · refine ⟨rfl, fun i h6 h14 => ?_⟩
    have hi : i = 6 ∨ i = 7 ∨ i = 8 ∨ i = 9 ∨ i = 10 ∨ i = 11 ∨ i = 12 ∨ i = 13 := by omega
    rcases hi with rfl | rfl | rfl | rfl | rfl | rfl | rfl | rfl
    · exact z
    · exact z
    · exact z
    · exact z
    · exact z
    · exact z
    · exact z
    · exact z
  split
  · refine ⟨rfl, fun i h6 h14 => ?_⟩
    have hi : i = 6 ∨ i = 7 ∨ i = 8 ∨ i = 9 ∨ i = 10 ∨ i = 11 ∨ i = 12 ∨ i = 13 := by omega
    rcases hi with rfl | rfl | rfl | rfl | rfl | rfl | rfl | rfl
    · exact z
    · exact z
    · exact z
    · exact z
    · exact z
    · exact z
    · exact z
    · exact z
  split
  · refine ⟨rfl, fun i h6 h14 => ?_⟩
    have hi : i = 6 ∨ i = 7 ∨ i = 8 ∨ i = 9 ∨ i = 10 ∨ i = 11 ∨ i = 12 ∨ i = 13 := by omega
    rcases hi with rfl | rfl | rfl | rfl | rfl | rfl | rfl | rfl
    · exact z
    · exact z
    · exact z
    · exact z
    · exact z
    · exact z
    · exact z
    · exact z
  · exact isRep_z14 _
theorem takeR8_dec {bs z : List Int} (hb : ∀ x ∈ bs, 0 ≤ x ∧ x ≤ 255) (h : takeR8 bs = some z) : decR bs = z := by
  obtain ⟨hp, hl⟩ := putR8_take hb h
  have hl1 := hl.1
  match z, hl1 with
  | [a0, a1, a2, a3, a4, a5, a6, a7, a8, a9, a10, a11, a12, a13], _ =>
    obtain ⟨hf, hn⟩ := putR8_fits a0 a1 a2 a3 a4 a5 a6 a7 a8 a9 a10 a11 a12 a13 bs hp
    have hk := (fitsR_iff _ _ _ _ _ _).1 hf
    have hc : a0 = 129 ∨ a0 = 130 ∨ a0 = 131 ∨ a0 = 132 ∨ a0 = 133 ∨ a0 = 134 ∨ a0 = 135 ∨ a0 = 136 := by omega
    obtain ⟨h0, h1, h2, h3, h4, h5⟩ := hk
    have hq : ∀ i, 6 ≤ i → i < 14 → ∀ x, [a0, a1, a2, a3, a4, a5, a6, a7, a8, a9, a10, a11, a12, a13][i]? = some x → 0 ≤ x ∧ x ≤ 255 := fun i h6 h14 x hx => by
      have := hl.2 i h6 h14
      rw [List.getD_eq_getElem?_getD, hx] at this
      exact this
    have q6 := hq 6 (by omega) (by omega) a6 rfl
    have q7 := hq 7 (by omega) (by omega) a7 rfl
    have q8 := hq 8 (by omega) (by omega) a8 rfl
    have q9 := hq 9 (by omega) (by omega) a9 rfl
    have q10 := hq 10 (by omega) (by omega) a10 rfl
    have q11 := hq 11 (by omega) (by omega) a11 rfl
    have q12 := hq 12 (by omega) (by omega) a12 rfl
    have q13 := hq 13 (by omega) (by omega) a13 rfl
    clear h0 hf hq hl hb h
    rcases hc with rfl | rfl | rfl | rfl | rfl | rfl | rfl | rfl
    · replace hn : ([129, 0, 0, 0, 0, 0, a6, a7, a8, a9, a10, a11, a12, a13] : List Int) = [129, a1, a2, a3, a4, a5, a6, a7, a8, a9, a10, a11, a12, a13] := hn
      simp only [List.cons.injEq, true_and, and_true] at hn
      obtain ⟨rfl, rfl, rfl, rfl, rfl⟩ := hn
      rw [putR8_lit129 a6 a7 a8 a9 a10 a11 a12 a13 q6 q7 q8 q9 q10 q11 q12 q13] at hp
      obtain rfl := Option.some.inj hp
      rw [decR_129 rfl]
      show ([129, 0, 0, 0, 0, 0, (a6), (a7), (a8), (a9), (a10), (a11), (a12), (a13)] : List Int) = [129, 0, 0, 0, 0, 0, a6, a7, a8, a9, a10, a11, a12, a13]
      rfl
    · replace hn : ([130, 0, a2, a3, a4, 0, 0, 0, 0, 0, 0, 0, 0, 0] : List Int) = [130, a1, a2, a3, a4, a5, a6, a7, a8, a9, a10, a11, a12, a13] := hn
      simp only [List.cons.injEq, true_and, and_true] at hn
      obtain ⟨rfl, rfl, rfl, rfl, rfl, rfl, rfl, rfl, rfl, rfl⟩ := hn
      rw [putR8_lit130 a2 a3 a4 h2 h3 h4] at hp
      obtain rfl := Option.some.inj hp
      rw [be_2v a4 h4.1]
      rw [decR_130 rfl]
      show ([130, 0, (a2), (a3), (256 * (a4 / 256 % 256) + (a4 % 256)), 0, 0, 0, 0, 0, 0, 0, 0, 0] : List Int) = [130, 0, a2, a3, a4, 0, 0, 0, 0, 0, 0, 0, 0, 0]
      simp only [List.cons.injEq, true_and, and_true]
      omega
    · replace hn : ([131, a1, 0, 0, 0, 0, 0, 0, 0, 0, 0, 0, 0, 0] : List Int) = [131, a1, a2, a3, a4, a5, a6, a7, a8, a9, a10, a11, a12, a13] := hn
      simp only [List.cons.injEq, true_and, and_true] at hn
      obtain ⟨rfl, rfl, rfl, rfl, rfl, rfl, rfl, rfl, rfl, rfl, rfl, rfl⟩ := hn
      rw [putR8_lit131 a1 h1] at hp
      obtain rfl := Option.some.inj hp
      rw [be_4v a1 h1.1]
      rw [decR_131 rfl]
      show ([131, (16777216 * (a1 / 256 / 256 / 256 % 256) + 65536 * (a1 / 256 / 256 % 256) + 256 * (a1 / 256 % 256) + (a1 % 256)), 0, 0, 0, 0, 0, 0, 0, 0, 0, 0, 0, 0] : List Int) = [131, a1, 0, 0, 0, 0, 0, 0, 0, 0, 0, 0, 0, 0]
      simp only [List.cons.injEq, true_and, and_true]
      omega
    · replace hn : ([132, a1, 0, 0, 0, a5, 0, 0, 0, 0, 0, 0, 0, 0] : List Int) = [132, a1, a2, a3, a4, a5, a6, a7, a8, a9, a10, a11, a12, a13] := hn
      simp only [List.cons.injEq, true_and, and_true] at hn
      obtain ⟨rfl, rfl, rfl, rfl, rfl, rfl, rfl, rfl, rfl, rfl, rfl⟩ := hn
      rw [putR8_lit132 a1 a5 h1 h5] at hp
      obtain rfl := Option.some.inj hp
      rw [be_4v a1 h1.1]
      rw [decR_132 rfl]
      show ([132, (16777216 * (a1 / 256 / 256 / 256 % 256) + 65536 * (a1 / 256 / 256 % 256) + 256 * (a1 / 256 % 256) + (a1 % 256)), 0, 0, 0, (a5), 0, 0, 0, 0, 0, 0, 0, 0] : List Int) = [132, a1, 0, 0, 0, a5, 0, 0, 0, 0, 0, 0, 0, 0]
      simp only [List.cons.injEq, true_and, and_true]
      omega
    · replace hn : ([133, 0, 0, 0, a4, 0, 0, 0, 0, 0, 0, 0, 0, 0] : List Int) = [133, a1, a2, a3, a4, a5, a6, a7, a8, a9, a10, a11, a12, a13] := hn
      simp only [List.cons.injEq, true_and, and_true] at hn
      obtain ⟨rfl, rfl, rfl, rfl, rfl, rfl, rfl, rfl, rfl, rfl, rfl, rfl⟩ := hn
      rw [putR8_lit133 a4 h4] at hp
      obtain rfl := Option.some.inj hp
      rw [be_2v a4 h4.1]
      rw [decR_133 rfl]
      show ([133, 0, 0, 0, (256 * (a4 / 256 % 256) + (a4 % 256)), 0, 0, 0, 0, 0, 0, 0, 0, 0] : List Int) = [133, 0, 0, 0, a4, 0, 0, 0, 0, 0, 0, 0, 0, 0]
      simp only [List.cons.injEq, true_and, and_true]
      omega
    · replace hn : ([134, 0, 0, a3, a4, 0, 0, 0, 0, 0, 0, 0, 0, 0] : List Int) = [134, a1, a2, a3, a4, a5, a6, a7, a8, a9, a10, a11, a12, a13] := hn
      simp only [List.cons.injEq, true_and, and_true] at hn
      obtain ⟨rfl, rfl, rfl, rfl, rfl, rfl, rfl, rfl, rfl, rfl, rfl⟩ := hn
      rw [putR8_lit134 a3 a4 h3 h4] at hp
      obtain rfl := Option.some.inj hp
      rw [be_2v a4 h4.1]
      rw [decR_134 rfl]
      show ([134, 0, 0, (a3), (256 * (a4 / 256 % 256) + (a4 % 256)), 0, 0, 0, 0, 0, 0, 0, 0, 0] : List Int) = [134, 0, 0, a3, a4, 0, 0, 0, 0, 0, 0, 0, 0, 0]
      simp only [List.cons.injEq, true_and, and_true]
      omega
    · replace hn : ([135, 0, 0, a3, a4, 0, 0, 0, 0, 0, 0, 0, 0, 0] : List Int) = [135, a1, a2, a3, a4, a5, a6, a7, a8, a9, a10, a11, a12, a13] := hn
      simp only [List.cons.injEq, true_and, and_true] at hn
      obtain ⟨rfl, rfl, rfl, rfl, rfl, rfl, rfl, rfl, rfl, rfl, rfl⟩ := hn
      rw [putR8_lit135 a3 a4 h3 h4] at hp
      obtain rfl := Option.some.inj hp
      rw [be_2v a4 h4.1]
      rw [decR_135 rfl]
      show ([135, 0, 0, (a3), (256 * (a4 / 256 % 256) + (a4 % 256)), 0, 0, 0, 0, 0, 0, 0, 0, 0] : List Int) = [135, 0, 0, a3, a4, 0, 0, 0, 0, 0, 0, 0, 0, 0]
      simp only [List.cons.injEq, true_and, and_true]
      omega
    · replace hn : ([136, 0, 0, a3, 0, a5, 0, 0, 0, 0, 0, 0, 0, 0] : List Int) = [136, a1, a2, a3, a4, a5, a6, a7, a8, a9, a10, a11, a12, a13] := hn
      simp only [List.cons.injEq, true_and, and_true] at hn
      obtain ⟨rfl, rfl, rfl, rfl, rfl, rfl, rfl, rfl, rfl, rfl, rfl⟩ := hn
      rw [putR8_lit136 a3 a5 h3 h5] at hp
      obtain rfl := Option.some.inj hp
      rw [decR_136 rfl]
      show ([136, 0, 0, (a3), 0, (a5), 0, 0, 0, 0, 0, 0, 0, 0] : List Int) = [136, 0, 0, a3, 0, a5, 0, 0, 0, 0, 0, 0, 0, 0]
      rfl
theorem takeR8_by {bs : List Int} (hb : ∀ x ∈ bs, 0 ≤ x ∧ x ≤ 255) : takeR8 bs = if putR8 (decR bs) = some bs then some (decR bs) else none := by
  cases h : takeR8 bs with
  | none =>
    split
    · rename_i hp
      rw [takeR8_put (isRep_decR hb).1 hp] at h
      exact h.symm
    · rfl
  | some z =>
    have hz := takeR8_dec hb h
    obtain ⟨hp, -⟩ := putR8_take hb h
    rw [hz, if_pos hp]
theorem takeR8_long {bs : List Int} (hb : ∀ x ∈ bs, 0 ≤ x ∧ x ≤ 255) (hl : 9 < bs.length) : takeR8 bs = none := by
  cases h : takeR8 bs with
  | none => rfl
  | some z =>
    obtain ⟨hp, -⟩ := putR8_take hb h
    have h1 := putR8_len hp
    have h2 := (szR_bound (z.getD 0 0)).2
    omega
set_option maxRecDepth 100000 in
set_option maxHeartbeats 800000 in
theorem replies_other (k : Int) (hk : k < 129 ∨ 136 < k) (w : World) :
    Calls Try.prog 32 #[.agg #[.int .i64 k, .int .i64 0, .int .i64 0, .int .i64 0, .int .i64 0, .int .i64 0, .int .u8 0, .int .u8 0, .int .u8 0, .int .u8 0, .int .u8 0, .int .u8 0, .int .u8 0, .int .u8 0]] w fun e' w' => e' = .returned (.agg (repV (z14 k))) ∧ Below w.heap.size w w' := by
  have q129 : (k == 129) = false := by simp; omega
  have q130 : (k == 130) = false := by simp; omega
  have q131 : (k == 131) = false := by simp; omega
  have q132 : (k == 132) = false := by simp; omega
  have q133 : (k == 133) = false := by simp; omega
  have q134 : (k == 134) = false := by simp; omega
  have q135 : (k == 135) = false := by simp; omega
  have q136 : (k == 136) = false := by simp; omega
  have er : Hid (#[.int .i64 k, .int .i64 0, .int .i64 0, .int .i64 0, .int .i64 0, .int .i64 0, .int .u8 0, .int .u8 0, .int .u8 0, .int .u8 0, .int .u8 0, .int .u8 0, .int .u8 0, .int .u8 0] = repV (z14 k)) := Lib.hid rfl
  rw [← er.out]
  clear er hk
  go_enter Try.func32, Try.ntmps32
  go_wp2_with fail
  refine bodyPost_ret (by simp [results, Try.results32, go_sem]) rfl ⟨rfl, ?_⟩
  exact below_alloc3 w _ _ _
end Go.Proofs.Ytakahkpogooepaa

/- sidestickref08.TakeReply. -/
namespace Go.Proofs.Ytakahkpogooepaa
open Go.RowKit

set_option maxRecDepth 100000 in
set_option maxHeartbeats 6400000 in
theorem rqt_129 (bs : List Int) (B : Option Addr) (n c : Nat) (hn : bs.length = n) (h16 : n ≤ 9) (h0 : bs.getD 0 0 = 129) (w : World) (hr : Row w B bs) :
    Calls Try.prog 19 #[.slice B n c] w (TakeRR bs w) := by
  have hby := takeR8_by hr.2
  obtain ⟨b0, e0⟩ : ∃ b, b = bs.getD 0 0 := ⟨_, rfl⟩
  obtain ⟨b1, e1⟩ : ∃ b, b = bs.getD 1 0 := ⟨_, rfl⟩
  have r1 : 0 ≤ b1 ∧ b1 ≤ 255 := by rw [e1]; exact getB hr.2 1
  obtain ⟨b2, e2⟩ : ∃ b, b = bs.getD 2 0 := ⟨_, rfl⟩
  have r2 : 0 ≤ b2 ∧ b2 ≤ 255 := by rw [e2]; exact getB hr.2 2
  obtain ⟨b3, e3⟩ : ∃ b, b = bs.getD 3 0 := ⟨_, rfl⟩
  have r3 : 0 ≤ b3 ∧ b3 ≤ 255 := by rw [e3]; exact getB hr.2 3
  obtain ⟨b4, e4⟩ : ∃ b, b = bs.getD 4 0 := ⟨_, rfl⟩
  have r4 : 0 ≤ b4 ∧ b4 ≤ 255 := by rw [e4]; exact getB hr.2 4
  obtain ⟨b5, e5⟩ : ∃ b, b = bs.getD 5 0 := ⟨_, rfl⟩
  have r5 : 0 ≤ b5 ∧ b5 ≤ 255 := by rw [e5]; exact getB hr.2 5
  obtain ⟨b6, e6⟩ : ∃ b, b = bs.getD 6 0 := ⟨_, rfl⟩
  have r6 : 0 ≤ b6 ∧ b6 ≤ 255 := by rw [e6]; exact getB hr.2 6
  obtain ⟨b7, e7⟩ : ∃ b, b = bs.getD 7 0 := ⟨_, rfl⟩
  have r7 : 0 ≤ b7 ∧ b7 ≤ 255 := by rw [e7]; exact getB hr.2 7
  obtain ⟨b8, e8⟩ : ∃ b, b = bs.getD 8 0 := ⟨_, rfl⟩
  have r8 : 0 ≤ b8 ∧ b8 ≤ 255 := by rw [e8]; exact getB hr.2 8
  have AT0 : Hid (∀ W, Below w.heap.size w W → Calls Try.prog 28 #[.slice B n c, .int .i64 0] W fun e w' => e = .returned (.int .i64 b0) ∧ W = w') := Lib.hid (fun W h => by have := at_any bs B n c hn 0 W (row_below hr h); rw [← e0] at this; exact this)
  have AT1 : Hid (∀ W, Below w.heap.size w W → Calls Try.prog 28 #[.slice B n c, .int .i64 1] W fun e w' => e = .returned (.int .i64 b1) ∧ W = w') := Lib.hid (fun W h => by have := at_any bs B n c hn 1 W (row_below hr h); rw [← e1] at this; exact this)
  have AT2 : Hid (∀ W, Below w.heap.size w W → Calls Try.prog 28 #[.slice B n c, .int .i64 2] W fun e w' => e = .returned (.int .i64 b2) ∧ W = w') := Lib.hid (fun W h => by have := at_any bs B n c hn 2 W (row_below hr h); rw [← e2] at this; exact this)
  have AT3 : Hid (∀ W, Below w.heap.size w W → Calls Try.prog 28 #[.slice B n c, .int .i64 3] W fun e w' => e = .returned (.int .i64 b3) ∧ W = w') := Lib.hid (fun W h => by have := at_any bs B n c hn 3 W (row_below hr h); rw [← e3] at this; exact this)
  have AT4 : Hid (∀ W, Below w.heap.size w W → Calls Try.prog 28 #[.slice B n c, .int .i64 4] W fun e w' => e = .returned (.int .i64 b4) ∧ W = w') := Lib.hid (fun W h => by have := at_any bs B n c hn 4 W (row_below hr h); rw [← e4] at this; exact this)
  have AT5 : Hid (∀ W, Below w.heap.size w W → Calls Try.prog 28 #[.slice B n c, .int .i64 5] W fun e w' => e = .returned (.int .i64 b5) ∧ W = w') := Lib.hid (fun W h => by have := at_any bs B n c hn 5 W (row_below hr h); rw [← e5] at this; exact this)
  have AT6 : Hid (∀ W, Below w.heap.size w W → Calls Try.prog 28 #[.slice B n c, .int .i64 6] W fun e w' => e = .returned (.int .i64 b6) ∧ W = w') := Lib.hid (fun W h => by have := at_any bs B n c hn 6 W (row_below hr h); rw [← e6] at this; exact this)
  have AT7 : Hid (∀ W, Below w.heap.size w W → Calls Try.prog 28 #[.slice B n c, .int .i64 7] W fun e w' => e = .returned (.int .i64 b7) ∧ W = w') := Lib.hid (fun W h => by have := at_any bs B n c hn 7 W (row_below hr h); rw [← e7] at this; exact this)
  have AT8 : Hid (∀ W, Below w.heap.size w W → Calls Try.prog 28 #[.slice B n c, .int .i64 8] W fun e w' => e = .returned (.int .i64 b8) ∧ W = w') := Lib.hid (fun W h => by have := at_any bs B n c hn 8 W (row_below hr h); rw [← e8] at this; exact this)
  have hdec : decR bs = [129, 0, 0, 0, 0, 0, b1, b2, b3, b4, b5, b6, b7, b8] := by
    rw [decR_129 h0, ← e1, ← e2, ← e3, ← e4, ← e5, ← e6, ← e7, ← e8]
  have CN : Hid (∀ W, Calls Try.prog 32 #[.agg #[.int .i64 129, .int .i64 0, .int .i64 0, .int .i64 0, .int .i64 0, .int .i64 0, .int .u8 b1, .int .u8 b2, .int .u8 b3, .int .u8 b4, .int .u8 b5, .int .u8 b6, .int .u8 b7, .int .u8 b8]] W fun e' w' => e' = .returned (.agg (repV (decR bs))) ∧ Below W.heap.size W w') := Lib.hid fun W => by
    rw [hdec]
    exact replies_129 0 0 0 0 0 b1 b2 b3 b4 b5 b6 b7 b8 W
  have hrep := isRep_decR hr.2
  have RP := Lib.hid (fun W => rq_any (decR bs) hrep W)
  have HBY := Lib.hid hby
  have HR := Lib.hid hr
  have HN := Lib.hid hn
  have k0 : b0 = 129 := by rw [e0, h0]
  rw [k0] at AT0
  clear h0 hdec hby hrep e0 e1 e2 e3 e4 e5 e6 e7 e8 hr hn k0
  generalize decR bs = nl at *
  obtain ⟨r1a, r1b⟩ := r1
  obtain ⟨r2a, r2b⟩ := r2
  obtain ⟨r3a, r3b⟩ := r3
  obtain ⟨r4a, r4b⟩ := r4
  obtain ⟨r5a, r5b⟩ := r5
  obtain ⟨r6a, r6b⟩ := r6
  obtain ⟨r7a, r7b⟩ := r7
  obtain ⟨r8a, r8b⟩ := r8
  have t16 : decide ((9 : Int) < n) = false := decide_eq_false (by omega)
  go_enter Try.func19, Try.ntmps19
  go_wp2_with fail
  ((with_reducible refine (AT0.out _ (below_alloc1 w _)).mono ?_))
  rintro e' w' ⟨rfl, rfl⟩
  go_wp2_with fail
  refine wp_loop_rounds 9 ?_
  rw [rounds_succ]
  go_wp2_with fail
  ((with_reducible refine (AT1.out _ (below_alloc2 w _ _)).mono ?_))
  rintro e' w' ⟨rfl, rfl⟩
  go_wp2_with fail
  rw [rounds_succ]
  go_wp2_with fail
  ((with_reducible refine (AT2.out _ (below_alloc2 w _ _)).mono ?_))
  rintro e' w' ⟨rfl, rfl⟩
  go_wp2_with fail
  rw [rounds_succ]
  go_wp2_with fail
  ((with_reducible refine (AT3.out _ (below_alloc2 w _ _)).mono ?_))
  rintro e' w' ⟨rfl, rfl⟩
  go_wp2_with fail
  rw [rounds_succ]
  go_wp2_with fail
  ((with_reducible refine (AT4.out _ (below_alloc2 w _ _)).mono ?_))
  rintro e' w' ⟨rfl, rfl⟩
  go_wp2_with fail
  rw [rounds_succ]
  go_wp2_with fail
  ((with_reducible refine (AT5.out _ (below_alloc2 w _ _)).mono ?_))
  rintro e' w' ⟨rfl, rfl⟩
  go_wp2_with fail
  rw [rounds_succ]
  go_wp2_with fail
  ((with_reducible refine (AT6.out _ (below_alloc2 w _ _)).mono ?_))
  rintro e' w' ⟨rfl, rfl⟩
  go_wp2_with fail
  rw [rounds_succ]
  go_wp2_with fail
  ((with_reducible refine (AT7.out _ (below_alloc2 w _ _)).mono ?_))
  rintro e' w' ⟨rfl, rfl⟩
  go_wp2_with fail
  rw [rounds_succ]
  go_wp2_with fail
  ((with_reducible refine (AT8.out _ (below_alloc2 w _ _)).mono ?_))
  rintro e' w' ⟨rfl, rfl⟩
  go_wp2_with fail
  rw [rounds_succ]
  go_wp2_with fail
  have BB := Lib.hid (below_alloc2 w (.cells #[.int .i64 0, .int .i64 0, .int .i64 0, .int .i64 0, .int .i64 0, .int .i64 0, .int .u8 0, .int .u8 0, .int .u8 0, .int .u8 0, .int .u8 0, .int .u8 0, .int .u8 0, .int .u8 0] 40) (.cells #[.int .i64 129, .int .i64 0, .int .i64 0, .int .i64 0, .int .i64 0, .int .i64 0, .int .u8 b1, .int .u8 b2, .int .u8 b3, .int .u8 b4, .int .u8 b5, .int .u8 b6, .int .u8 b7, .int .u8 b8] 40))
  have K2 : Hid (Blk ((w.alloc (.cells #[.int .i64 0, .int .i64 0, .int .i64 0, .int .i64 0, .int .i64 0, .int .i64 0, .int .u8 0, .int .u8 0, .int .u8 0, .int .u8 0, .int .u8 0, .int .u8 0, .int .u8 0, .int .u8 0] 40)).alloc (.cells #[.int .i64 129, .int .i64 0, .int .i64 0, .int .i64 0, .int .i64 0, .int .i64 0, .int .u8 b1, .int .u8 b2, .int .u8 b3, .int .u8 b4, .int .u8 b5, .int .u8 b6, .int .u8 b7, .int .u8 b8] 40)) w.heap.size (repV (z14 0)) 40) := Lib.hid ((Blk.new w #[.int .i64 0, .int .i64 0, .int .i64 0, .int .i64 0, .int .i64 0, .int .i64 0, .int .u8 0, .int .u8 0, .int .u8 0, .int .u8 0, .int .u8 0, .int .u8 0, .int .u8 0, .int .u8 0] 40).alloc _)
  have K4 := Lib.hid (Blk.new' (w.alloc (.cells #[.int .i64 0, .int .i64 0, .int .i64 0, .int .i64 0, .int .i64 0, .int .i64 0, .int .u8 0, .int .u8 0, .int .u8 0, .int .u8 0, .int .u8 0, .int .u8 0, .int .u8 0, .int .u8 0] 40)) #[.int .i64 129, .int .i64 0, .int .i64 0, .int .i64 0, .int .i64 0, .int .i64 0, .int .u8 b1, .int .u8 b2, .int .u8 b3, .int .u8 b4, .int .u8 b5, .int .u8 b6, .int .u8 b7, .int .u8 b8] 40 (g := w.heap.size + 1) (by simp))
  have l0 := K2.out.lt
  generalize (w.alloc (.cells #[.int .i64 0, .int .i64 0, .int .i64 0, .int .i64 0, .int .i64 0, .int .i64 0, .int .u8 0, .int .u8 0, .int .u8 0, .int .u8 0, .int .u8 0, .int .u8 0, .int .u8 0, .int .u8 0] 40)).alloc (.cells #[.int .i64 129, .int .i64 0, .int .i64 0, .int .i64 0, .int .i64 0, .int .i64 0, .int .u8 b1, .int .u8 b2, .int .u8 b3, .int .u8 b4, .int .u8 b5, .int .u8 b6, .int .u8 b7, .int .u8 b8] 40) = v4 at *
  generalize hg4 : w.heap.size + 1 = g4 at *
  have lg : w.heap.size < g4 := by omega
  ((with_reducible refine (CN.out _).mono ?_))
  rintro e' y0 ⟨rfl, by0⟩
  replace K2 := Lib.hid (K2.out.below by0)
  replace K4 := Lib.hid (K4.out.below by0)
  replace BB := Lib.hid (bt BB.out by0)
  clear by0 CN
  go_wp2_with ((with_reducible show wpList _ _ _ (⟨_, .store 40 _ _, _, _, _, none⟩ :: _) _ _); (with_reducible refine wpBlk_store (g := g4) (cs := (repV nl)) agg_rep ?_ ?_ K4 ?_ ?_ ?_ ?_); (· exact wanted0 rfl); (· exact ⟨rfl, rfl, rfl⟩); (· rfl); (· exact repV_size _); (· exact repV_one _); refine Marker.mk ?_)
  refine Marker.in ?_
  replace K2 := Lib.hid (K2.out.setRow_other g4 (repV nl) (by omega))
  replace K4 := Lib.hid (K4.out.setRow (repV nl))
  replace BB := Lib.hid (below_setRow (g := g4) BB.out (by omega) (repV nl))
  generalize y0.setRow g4 (repV nl) = y1 at *
  go_wp2_with ((with_reducible show wpList _ _ _ (⟨_, .load 40 _, _, _, _, none⟩ :: _) _ _); (with_reducible refine wpBlk_load (g := g4) agg_rep ?_ ?_ K4 ?_ ?_); (· exact wanted0 rfl); (· exact ⟨rfl, rfl⟩); (· exact repV_size _))
  ((with_reducible refine (RP.out _).mono ?_))
  rintro e' y2 ⟨hpost, by2⟩
  replace K2 := Lib.hid (K2.out.below by2)
  replace K4 := Lib.hid (K4.out.below by2)
  replace BB := Lib.hid (bt BB.out by2)
  clear by2 RP
  cases hput : putR8 nl with
  | none =>
    rw [hput] at hpost
    obtain rfl := hpost
    have hres := HBY.out
    rw [hput, if_neg (by intro h; cases h)] at hres
    replace hres := Lib.hid hres
    clear hput
    go_wp2_with (first | ((with_reducible show wpList _ _ _ (⟨some 113, _, _, _, _, _⟩ :: _) _ _); refine wpList_build' rfl 40 _ rfl (repV (z14 0)) built_rzero ?_) | ((with_reducible show wpList _ _ _ (⟨_, .store 40 _ _, _, _, _, none⟩ :: _) _ _); (with_reducible refine wpBlk_store (g := w.heap.size) (cs := (repV (z14 0))) agg_rep ?_ ?_ K2 ?_ ?_ ?_ ?_); (· exact wanted0 rfl); (· exact ⟨rfl, rfl, rfl⟩); (· exact repV_size _); (· exact repV_size _); (· exact repV_one _)))
    refine bodyPost_ret (v := .tuple #[.agg (repV (z14 0)), .int .i64 13]) (results_ct agg_rep rfl _ _ w.heap.size _ _ rfl rfl (K2.out.setRow _) (repV_size _)) rfl ⟨?_, below_setRow BB.out (by omega) _⟩
    rw [hres.out]
  | some ps =>
    rw [hput] at hpost
    obtain ⟨A6, c6, base6, rfl, o6⟩ := hpost
    have hres := HBY.out
    rw [hput] at hres
    have hq := str_ne o6.2 HR.out.2
    have RB := Lib.hid (row_below HR.out BB.out)
    have v1 : (convert 27 9 (.slice A6 ps.length c6)).run Try.prog y2 = .ok (.string (strOfNums ps)) y2 := conv_row ps.length c6 rfl o6.row
    have v2 : (convert 27 9 (.slice B n c)).run Try.prog y2 = .ok (.string (strOfNums bs)) y2 := conv_row n c HN.out RB.out
    clear hput
    by_cases hb : ps = bs
    · rw [hb, if_pos rfl] at hres
      replace hres := Lib.hid hres
      rw [decide_eq_true hb] at hq
      generalize strOfNums ps = s1 at *
      generalize strOfNums bs = s2 at *
      generalize ps.length = np at *
      clear hb o6
      go_wp2_with (first | ((with_reducible show wpList _ _ _ (⟨_, .load 40 _, _, _, _, none⟩ :: _) _ _); (with_reducible refine wpBlk_load (g := g4) agg_rep ?_ ?_ K4 ?_ ?_); (· exact wanted0 rfl); (· exact ⟨rfl, rfl⟩); (· exact repV_size _)) | ((with_reducible show wpList _ _ _ (⟨_, .store 40 _ _, _, _, _, none⟩ :: _) _ _); (with_reducible refine wpBlk_store (g := w.heap.size) (cs := (repV nl)) agg_rep ?_ ?_ K2 ?_ ?_ ?_ ?_); (· exact wanted0 rfl); (· exact ⟨rfl, rfl, rfl⟩); (· exact repV_size _); (· exact repV_size _); (· exact repV_one _)))
      refine bodyPost_ret (v := .tuple #[.agg (repV nl), .int .i64 0]) (results_ct agg_rep rfl _ _ w.heap.size _ _ rfl rfl (K2.out.setRow _) (repV_size _)) rfl ⟨?_, below_setRow BB.out (by omega) _⟩
      rw [hres.out]
    · rw [if_neg (fun h => hb (Option.some.inj h))] at hres
      replace hres := Lib.hid hres
      rw [decide_eq_false hb] at hq
      generalize strOfNums ps = s1 at *
      generalize strOfNums bs = s2 at *
      generalize ps.length = np at *
      clear hb o6
      go_wp2_with (first | ((with_reducible show wpList _ _ _ (⟨some 113, _, _, _, _, _⟩ :: _) _ _); refine wpList_build' rfl 40 _ rfl (repV (z14 0)) built_rzero ?_) | ((with_reducible show wpList _ _ _ (⟨_, .store 40 _ _, _, _, _, none⟩ :: _) _ _); (with_reducible refine wpBlk_store (g := w.heap.size) (cs := (repV (z14 0))) agg_rep ?_ ?_ K2 ?_ ?_ ?_ ?_); (· exact wanted0 rfl); (· exact ⟨rfl, rfl, rfl⟩); (· exact repV_size _); (· exact repV_size _); (· exact repV_one _)))
      refine bodyPost_ret (v := .tuple #[.agg (repV (z14 0)), .int .i64 13]) (results_ct agg_rep rfl _ _ w.heap.size _ _ rfl rfl (K2.out.setRow _) (repV_size _)) rfl ⟨?_, below_setRow BB.out (by omega) _⟩
      rw [hres.out]
set_option maxRecDepth 100000 in
set_option maxHeartbeats 6400000 in
theorem rqt_130 (bs : List Int) (B : Option Addr) (n c : Nat) (hn : bs.length = n) (h16 : n ≤ 9) (h0 : bs.getD 0 0 = 130) (w : World) (hr : Row w B bs) :
    Calls Try.prog 19 #[.slice B n c] w (TakeRR bs w) := by
  have hby := takeR8_by hr.2
  obtain ⟨b0, e0⟩ : ∃ b, b = bs.getD 0 0 := ⟨_, rfl⟩
  obtain ⟨b1, e1⟩ : ∃ b, b = bs.getD 1 0 := ⟨_, rfl⟩
  have r1 : 0 ≤ b1 ∧ b1 ≤ 255 := by rw [e1]; exact getB hr.2 1
  obtain ⟨b2, e2⟩ : ∃ b, b = bs.getD 2 0 := ⟨_, rfl⟩
  have r2 : 0 ≤ b2 ∧ b2 ≤ 255 := by rw [e2]; exact getB hr.2 2
  obtain ⟨b3, e3⟩ : ∃ b, b = bs.getD 3 0 := ⟨_, rfl⟩
  have r3 : 0 ≤ b3 ∧ b3 ≤ 255 := by rw [e3]; exact getB hr.2 3
  obtain ⟨b4, e4⟩ : ∃ b, b = bs.getD 4 0 := ⟨_, rfl⟩
  have r4 : 0 ≤ b4 ∧ b4 ≤ 255 := by rw [e4]; exact getB hr.2 4
  have AT0 : Hid (∀ W, Below w.heap.size w W → Calls Try.prog 28 #[.slice B n c, .int .i64 0] W fun e w' => e = .returned (.int .i64 b0) ∧ W = w') := Lib.hid (fun W h => by have := at_any bs B n c hn 0 W (row_below hr h); rw [← e0] at this; exact this)
  have AT1 : Hid (∀ W, Below w.heap.size w W → Calls Try.prog 28 #[.slice B n c, .int .i64 1] W fun e w' => e = .returned (.int .i64 b1) ∧ W = w') := Lib.hid (fun W h => by have := at_any bs B n c hn 1 W (row_below hr h); rw [← e1] at this; exact this)
  have AT2 : Hid (∀ W, Below w.heap.size w W → Calls Try.prog 28 #[.slice B n c, .int .i64 2] W fun e w' => e = .returned (.int .i64 b2) ∧ W = w') := Lib.hid (fun W h => by have := at_any bs B n c hn 2 W (row_below hr h); rw [← e2] at this; exact this)
  have AT3 : Hid (∀ W, Below w.heap.size w W → Calls Try.prog 28 #[.slice B n c, .int .i64 3] W fun e w' => e = .returned (.int .i64 b3) ∧ W = w') := Lib.hid (fun W h => by have := at_any bs B n c hn 3 W (row_below hr h); rw [← e3] at this; exact this)
  have AT4 : Hid (∀ W, Below w.heap.size w W → Calls Try.prog 28 #[.slice B n c, .int .i64 4] W fun e w' => e = .returned (.int .i64 b4) ∧ W = w') := Lib.hid (fun W h => by have := at_any bs B n c hn 4 W (row_below hr h); rw [← e4] at this; exact this)
  have hdec : decR bs = [130, 0, b1, b2, (256 * b3 + b4), 0, 0, 0, 0, 0, 0, 0, 0, 0] := by
    rw [decR_130 h0, ← e1, ← e2, ← e3, ← e4]
  have CN : Hid (∀ W, Calls Try.prog 32 #[.agg #[.int .i64 130, .int .i64 0, .int .i64 b1, .int .i64 b2, .int .i64 (256 * b3 + b4), .int .i64 0, .int .u8 0, .int .u8 0, .int .u8 0, .int .u8 0, .int .u8 0, .int .u8 0, .int .u8 0, .int .u8 0]] W fun e' w' => e' = .returned (.agg (repV (decR bs))) ∧ Below W.heap.size W w') := Lib.hid fun W => by
    rw [hdec]
    exact replies_130 0 b1 b2 (256 * b3 + b4) 0 0 0 0 0 0 0 0 0 W
  have hrep := isRep_decR hr.2
  have RP := Lib.hid (fun W => rq_any (decR bs) hrep W)
  have HBY := Lib.hid hby
  have HR := Lib.hid hr
  have HN := Lib.hid hn
  have k0 : b0 = 130 := by rw [e0, h0]
  rw [k0] at AT0
  clear h0 hdec hby hrep e0 e1 e2 e3 e4 hr hn k0
  generalize decR bs = nl at *
  obtain ⟨r1a, r1b⟩ := r1
  obtain ⟨r2a, r2b⟩ := r2
  obtain ⟨r3a, r3b⟩ := r3
  obtain ⟨r4a, r4b⟩ := r4
  have t16 : decide ((9 : Int) < n) = false := decide_eq_false (by omega)
  go_enter Try.func19, Try.ntmps19
  go_wp2_with fail
  ((with_reducible refine (AT0.out _ (below_alloc1 w _)).mono ?_))
  rintro e' w' ⟨rfl, rfl⟩
  go_wp2_with fail
  ((with_reducible refine (AT1.out _ (below_alloc2 w _ _)).mono ?_))
  rintro e' w' ⟨rfl, rfl⟩
  go_wp2_with fail
  ((with_reducible refine (AT2.out _ (below_alloc2 w _ _)).mono ?_))
  rintro e' w' ⟨rfl, rfl⟩
  go_wp2_with fail
  ((with_reducible refine (AT3.out _ (below_alloc2 w _ _)).mono ?_))
  rintro e' w' ⟨rfl, rfl⟩
  go_wp2_with fail
  ((with_reducible refine (AT4.out _ (below_alloc2 w _ _)).mono ?_))
  rintro e' w' ⟨rfl, rfl⟩
  go_wp2_with fail
  have BB := Lib.hid (below_alloc2 w (.cells #[.int .i64 0, .int .i64 0, .int .i64 0, .int .i64 0, .int .i64 0, .int .i64 0, .int .u8 0, .int .u8 0, .int .u8 0, .int .u8 0, .int .u8 0, .int .u8 0, .int .u8 0, .int .u8 0] 40) (.cells #[.int .i64 130, .int .i64 0, .int .i64 b1, .int .i64 b2, .int .i64 (256 * b3 + b4), .int .i64 0, .int .u8 0, .int .u8 0, .int .u8 0, .int .u8 0, .int .u8 0, .int .u8 0, .int .u8 0, .int .u8 0] 40))
  have K2 : Hid (Blk ((w.alloc (.cells #[.int .i64 0, .int .i64 0, .int .i64 0, .int .i64 0, .int .i64 0, .int .i64 0, .int .u8 0, .int .u8 0, .int .u8 0, .int .u8 0, .int .u8 0, .int .u8 0, .int .u8 0, .int .u8 0] 40)).alloc (.cells #[.int .i64 130, .int .i64 0, .int .i64 b1, .int .i64 b2, .int .i64 (256 * b3 + b4), .int .i64 0, .int .u8 0, .int .u8 0, .int .u8 0, .int .u8 0, .int .u8 0, .int .u8 0, .int .u8 0, .int .u8 0] 40)) w.heap.size (repV (z14 0)) 40) := Lib.hid ((Blk.new w #[.int .i64 0, .int .i64 0, .int .i64 0, .int .i64 0, .int .i64 0, .int .i64 0, .int .u8 0, .int .u8 0, .int .u8 0, .int .u8 0, .int .u8 0, .int .u8 0, .int .u8 0, .int .u8 0] 40).alloc _)
  have K4 := Lib.hid (Blk.new' (w.alloc (.cells #[.int .i64 0, .int .i64 0, .int .i64 0, .int .i64 0, .int .i64 0, .int .i64 0, .int .u8 0, .int .u8 0, .int .u8 0, .int .u8 0, .int .u8 0, .int .u8 0, .int .u8 0, .int .u8 0] 40)) #[.int .i64 130, .int .i64 0, .int .i64 b1, .int .i64 b2, .int .i64 (256 * b3 + b4), .int .i64 0, .int .u8 0, .int .u8 0, .int .u8 0, .int .u8 0, .int .u8 0, .int .u8 0, .int .u8 0, .int .u8 0] 40 (g := w.heap.size + 1) (by simp))
  have l0 := K2.out.lt
  generalize (w.alloc (.cells #[.int .i64 0, .int .i64 0, .int .i64 0, .int .i64 0, .int .i64 0, .int .i64 0, .int .u8 0, .int .u8 0, .int .u8 0, .int .u8 0, .int .u8 0, .int .u8 0, .int .u8 0, .int .u8 0] 40)).alloc (.cells #[.int .i64 130, .int .i64 0, .int .i64 b1, .int .i64 b2, .int .i64 (256 * b3 + b4), .int .i64 0, .int .u8 0, .int .u8 0, .int .u8 0, .int .u8 0, .int .u8 0, .int .u8 0, .int .u8 0, .int .u8 0] 40) = v4 at *
  generalize hg4 : w.heap.size + 1 = g4 at *
  have lg : w.heap.size < g4 := by omega
  ((with_reducible refine (CN.out _).mono ?_))
  rintro e' y0 ⟨rfl, by0⟩
  replace K2 := Lib.hid (K2.out.below by0)
  replace K4 := Lib.hid (K4.out.below by0)
  replace BB := Lib.hid (bt BB.out by0)
  clear by0 CN
  go_wp2_with ((with_reducible show wpList _ _ _ (⟨_, .store 40 _ _, _, _, _, none⟩ :: _) _ _); (with_reducible refine wpBlk_store (g := g4) (cs := (repV nl)) agg_rep ?_ ?_ K4 ?_ ?_ ?_ ?_); (· exact wanted0 rfl); (· exact ⟨rfl, rfl, rfl⟩); (· rfl); (· exact repV_size _); (· exact repV_one _); refine Marker.mk ?_)
  refine Marker.in ?_
  replace K2 := Lib.hid (K2.out.setRow_other g4 (repV nl) (by omega))
  replace K4 := Lib.hid (K4.out.setRow (repV nl))
  replace BB := Lib.hid (below_setRow (g := g4) BB.out (by omega) (repV nl))
  generalize y0.setRow g4 (repV nl) = y1 at *
  go_wp2_with ((with_reducible show wpList _ _ _ (⟨_, .load 40 _, _, _, _, none⟩ :: _) _ _); (with_reducible refine wpBlk_load (g := g4) agg_rep ?_ ?_ K4 ?_ ?_); (· exact wanted0 rfl); (· exact ⟨rfl, rfl⟩); (· exact repV_size _))
  ((with_reducible refine (RP.out _).mono ?_))
  rintro e' y2 ⟨hpost, by2⟩
  replace K2 := Lib.hid (K2.out.below by2)
  replace K4 := Lib.hid (K4.out.below by2)
  replace BB := Lib.hid (bt BB.out by2)
  clear by2 RP
  cases hput : putR8 nl with
  | none =>
    rw [hput] at hpost
    obtain rfl := hpost
    have hres := HBY.out
    rw [hput, if_neg (by intro h; cases h)] at hres
    replace hres := Lib.hid hres
    clear hput
    go_wp2_with (first | ((with_reducible show wpList _ _ _ (⟨some 113, _, _, _, _, _⟩ :: _) _ _); refine wpList_build' rfl 40 _ rfl (repV (z14 0)) built_rzero ?_) | ((with_reducible show wpList _ _ _ (⟨_, .store 40 _ _, _, _, _, none⟩ :: _) _ _); (with_reducible refine wpBlk_store (g := w.heap.size) (cs := (repV (z14 0))) agg_rep ?_ ?_ K2 ?_ ?_ ?_ ?_); (· exact wanted0 rfl); (· exact ⟨rfl, rfl, rfl⟩); (· exact repV_size _); (· exact repV_size _); (· exact repV_one _)))
    refine bodyPost_ret (v := .tuple #[.agg (repV (z14 0)), .int .i64 13]) (results_ct agg_rep rfl _ _ w.heap.size _ _ rfl rfl (K2.out.setRow _) (repV_size _)) rfl ⟨?_, below_setRow BB.out (by omega) _⟩
    rw [hres.out]
  | some ps =>
    rw [hput] at hpost
    obtain ⟨A6, c6, base6, rfl, o6⟩ := hpost
    have hres := HBY.out
    rw [hput] at hres
    have hq := str_ne o6.2 HR.out.2
    have RB := Lib.hid (row_below HR.out BB.out)
    have v1 : (convert 27 9 (.slice A6 ps.length c6)).run Try.prog y2 = .ok (.string (strOfNums ps)) y2 := conv_row ps.length c6 rfl o6.row
    have v2 : (convert 27 9 (.slice B n c)).run Try.prog y2 = .ok (.string (strOfNums bs)) y2 := conv_row n c HN.out RB.out
    clear hput
    by_cases hb : ps = bs
    · rw [hb, if_pos rfl] at hres
      replace hres := Lib.hid hres
      rw [decide_eq_true hb] at hq
      generalize strOfNums ps = s1 at *
      generalize strOfNums bs = s2 at *
      generalize ps.length = np at *
      clear hb o6
      go_wp2_with (first | ((with_reducible show wpList _ _ _ (⟨_, .load 40 _, _, _, _, none⟩ :: _) _ _); (with_reducible refine wpBlk_load (g := g4) agg_rep ?_ ?_ K4 ?_ ?_); (· exact wanted0 rfl); (· exact ⟨rfl, rfl⟩); (· exact repV_size _)) | ((with_reducible show wpList _ _ _ (⟨_, .store 40 _ _, _, _, _, none⟩ :: _) _ _); (with_reducible refine wpBlk_store (g := w.heap.size) (cs := (repV nl)) agg_rep ?_ ?_ K2 ?_ ?_ ?_ ?_); (· exact wanted0 rfl); (· exact ⟨rfl, rfl, rfl⟩); (· exact repV_size _); (· exact repV_size _); (· exact repV_one _)))
      refine bodyPost_ret (v := .tuple #[.agg (repV nl), .int .i64 0]) (results_ct agg_rep rfl _ _ w.heap.size _ _ rfl rfl (K2.out.setRow _) (repV_size _)) rfl ⟨?_, below_setRow BB.out (by omega) _⟩
      rw [hres.out]
    · rw [if_neg (fun h => hb (Option.some.inj h))] at hres
      replace hres := Lib.hid hres
      rw [decide_eq_false hb] at hq
      generalize strOfNums ps = s1 at *
      generalize strOfNums bs = s2 at *
      generalize ps.length = np at *
      clear hb o6
      go_wp2_with (first | ((with_reducible show wpList _ _ _ (⟨some 113, _, _, _, _, _⟩ :: _) _ _); refine wpList_build' rfl 40 _ rfl (repV (z14 0)) built_rzero ?_) | ((with_reducible show wpList _ _ _ (⟨_, .store 40 _ _, _, _, _, none⟩ :: _) _ _); (with_reducible refine wpBlk_store (g := w.heap.size) (cs := (repV (z14 0))) agg_rep ?_ ?_ K2 ?_ ?_ ?_ ?_); (· exact wanted0 rfl); (· exact ⟨rfl, rfl, rfl⟩); (· exact repV_size _); (· exact repV_size _); (· exact repV_one _)))
      refine bodyPost_ret (v := .tuple #[.agg (repV (z14 0)), .int .i64 13]) (results_ct agg_rep rfl _ _ w.heap.size _ _ rfl rfl (K2.out.setRow _) (repV_size _)) rfl ⟨?_, below_setRow BB.out (by omega) _⟩
      rw [hres.out]
set_option maxRecDepth 100000 in
set_option maxHeartbeats 6400000 in
theorem rqt_131 (bs : List Int) (B : Option Addr) (n c : Nat) (hn : bs.length = n) (h16 : n ≤ 9) (h0 : bs.getD 0 0 = 131) (w : World) (hr : Row w B bs) :
    Calls Try.prog 19 #[.slice B n c] w (TakeRR bs w) := by
  have hby := takeR8_by hr.2
  obtain ⟨b0, e0⟩ : ∃ b, b = bs.getD 0 0 := ⟨_, rfl⟩
  obtain ⟨b1, e1⟩ : ∃ b, b = bs.getD 1 0 := ⟨_, rfl⟩
  have r1 : 0 ≤ b1 ∧ b1 ≤ 255 := by rw [e1]; exact getB hr.2 1
  obtain ⟨b2, e2⟩ : ∃ b, b = bs.getD 2 0 := ⟨_, rfl⟩
  have r2 : 0 ≤ b2 ∧ b2 ≤ 255 := by rw [e2]; exact getB hr.2 2
  obtain ⟨b3, e3⟩ : ∃ b, b = bs.getD 3 0 := ⟨_, rfl⟩
  have r3 : 0 ≤ b3 ∧ b3 ≤ 255 := by rw [e3]; exact getB hr.2 3
  obtain ⟨b4, e4⟩ : ∃ b, b = bs.getD 4 0 := ⟨_, rfl⟩
  have r4 : 0 ≤ b4 ∧ b4 ≤ 255 := by rw [e4]; exact getB hr.2 4
  obtain ⟨b5, e5⟩ : ∃ b, b = bs.getD 5 0 := ⟨_, rfl⟩
  have r5 : 0 ≤ b5 ∧ b5 ≤ 255 := by rw [e5]; exact getB hr.2 5
  have AT0 : Hid (∀ W, Below w.heap.size w W → Calls Try.prog 28 #[.slice B n c, .int .i64 0] W fun e w' => e = .returned (.int .i64 b0) ∧ W = w') := Lib.hid (fun W h => by have := at_any bs B n c hn 0 W (row_below hr h); rw [← e0] at this; exact this)
  have AT1 : Hid (∀ W, Below w.heap.size w W → Calls Try.prog 28 #[.slice B n c, .int .i64 1] W fun e w' => e = .returned (.int .i64 b1) ∧ W = w') := Lib.hid (fun W h => by have := at_any bs B n c hn 1 W (row_below hr h); rw [← e1] at this; exact this)
  have AT2 : Hid (∀ W, Below w.heap.size w W → Calls Try.prog 28 #[.slice B n c, .int .i64 2] W fun e w' => e = .returned (.int .i64 b2) ∧ W = w') := Lib.hid (fun W h => by have := at_any bs B n c hn 2 W (row_below hr h); rw [← e2] at this; exact this)
  have AT3 : Hid (∀ W, Below w.heap.size w W → Calls Try.prog 28 #[.slice B n c, .int .i64 3] W fun e w' => e = .returned (.int .i64 b3) ∧ W = w') := Lib.hid (fun W h => by have := at_any bs B n c hn 3 W (row_below hr h); rw [← e3] at this; exact this)
  have AT4 : Hid (∀ W, Below w.heap.size w W → Calls Try.prog 28 #[.slice B n c, .int .i64 4] W fun e w' => e = .returned (.int .i64 b4) ∧ W = w') := Lib.hid (fun W h => by have := at_any bs B n c hn 4 W (row_below hr h); rw [← e4] at this; exact this)
  have AT5 : Hid (∀ W, Below w.heap.size w W → Calls Try.prog 28 #[.slice B n c, .int .i64 5] W fun e w' => e = .returned (.int .i64 b5) ∧ W = w') := Lib.hid (fun W h => by have := at_any bs B n c hn 5 W (row_below hr h); rw [← e5] at this; exact this)
  have hdec : decR bs = [131, (16777216 * b1 + 65536 * b2 + 256 * b3 + b4), 0, 0, 0, 0, 0, 0, 0, 0, 0, 0, 0, 0] := by
    rw [decR_131 h0, ← e1, ← e2, ← e3, ← e4]
  have CN : Hid (∀ W, Calls Try.prog 32 #[.agg #[.int .i64 131, .int .i64 (16777216 * b1 + 65536 * b2 + 256 * b3 + b4), .int .i64 0, .int .i64 0, .int .i64 0, .int .i64 b5, .int .u8 0, .int .u8 0, .int .u8 0, .int .u8 0, .int .u8 0, .int .u8 0, .int .u8 0, .int .u8 0]] W fun e' w' => e' = .returned (.agg (repV (decR bs))) ∧ Below W.heap.size W w') := Lib.hid fun W => by
    rw [hdec]
    exact replies_131 (16777216 * b1 + 65536 * b2 + 256 * b3 + b4) 0 0 0 b5 0 0 0 0 0 0 0 0 W
  have hrep := isRep_decR hr.2
  have RP := Lib.hid (fun W => rq_any (decR bs) hrep W)
  have HBY := Lib.hid hby
  have HR := Lib.hid hr
  have HN := Lib.hid hn
  have k0 : b0 = 131 := by rw [e0, h0]
  rw [k0] at AT0
  clear h0 hdec hby hrep e0 e1 e2 e3 e4 e5 hr hn k0
  generalize decR bs = nl at *
  obtain ⟨r1a, r1b⟩ := r1
  obtain ⟨r2a, r2b⟩ := r2
  obtain ⟨r3a, r3b⟩ := r3
  obtain ⟨r4a, r4b⟩ := r4
  obtain ⟨r5a, r5b⟩ := r5
  have t16 : decide ((9 : Int) < n) = false := decide_eq_false (by omega)
  go_enter Try.func19, Try.ntmps19
  go_wp2_with fail
  ((with_reducible refine (AT0.out _ (below_alloc1 w _)).mono ?_))
  rintro e' w' ⟨rfl, rfl⟩
  go_wp2_with fail
  ((with_reducible refine (AT1.out _ (below_alloc2 w _ _)).mono ?_))
  rintro e' w' ⟨rfl, rfl⟩
  go_wp2_with fail
  ((with_reducible refine (AT2.out _ (below_alloc2 w _ _)).mono ?_))
  rintro e' w' ⟨rfl, rfl⟩
  go_wp2_with fail
  ((with_reducible refine (AT3.out _ (below_alloc2 w _ _)).mono ?_))
  rintro e' w' ⟨rfl, rfl⟩
  go_wp2_with fail
  ((with_reducible refine (AT4.out _ (below_alloc2 w _ _)).mono ?_))
  rintro e' w' ⟨rfl, rfl⟩
  go_wp2_with fail
  ((with_reducible refine (AT5.out _ (below_alloc2 w _ _)).mono ?_))
  rintro e' w' ⟨rfl, rfl⟩
  go_wp2_with fail
  have BB := Lib.hid (below_alloc2 w (.cells #[.int .i64 0, .int .i64 0, .int .i64 0, .int .i64 0, .int .i64 0, .int .i64 0, .int .u8 0, .int .u8 0, .int .u8 0, .int .u8 0, .int .u8 0, .int .u8 0, .int .u8 0, .int .u8 0] 40) (.cells #[.int .i64 131, .int .i64 (16777216 * b1 + 65536 * b2 + 256 * b3 + b4), .int .i64 0, .int .i64 0, .int .i64 0, .int .i64 b5, .int .u8 0, .int .u8 0, .int .u8 0, .int .u8 0, .int .u8 0, .int .u8 0, .int .u8 0, .int .u8 0] 40))
  have K2 : Hid (Blk ((w.alloc (.cells #[.int .i64 0, .int .i64 0, .int .i64 0, .int .i64 0, .int .i64 0, .int .i64 0, .int .u8 0, .int .u8 0, .int .u8 0, .int .u8 0, .int .u8 0, .int .u8 0, .int .u8 0, .int .u8 0] 40)).alloc (.cells #[.int .i64 131, .int .i64 (16777216 * b1 + 65536 * b2 + 256 * b3 + b4), .int .i64 0, .int .i64 0, .int .i64 0, .int .i64 b5, .int .u8 0, .int .u8 0, .int .u8 0, .int .u8 0, .int .u8 0, .int .u8 0, .int .u8 0, .int .u8 0] 40)) w.heap.size (repV (z14 0)) 40) := Lib.hid ((Blk.new w #[.int .i64 0, .int .i64 0, .int .i64 0, .int .i64 0, .int .i64 0, .int .i64 0, .int .u8 0, .int .u8 0, .int .u8 0, .int .u8 0, .int .u8 0, .int .u8 0, .int .u8 0, .int .u8 0] 40).alloc _)
  have K4 := Lib.hid (Blk.new' (w.alloc (.cells #[.int .i64 0, .int .i64 0, .int .i64 0, .int .i64 0, .int .i64 0, .int .i64 0, .int .u8 0, .int .u8 0, .int .u8 0, .int .u8 0, .int .u8 0, .int .u8 0, .int .u8 0, .int .u8 0] 40)) #[.int .i64 131, .int .i64 (16777216 * b1 + 65536 * b2 + 256 * b3 + b4), .int .i64 0, .int .i64 0, .int .i64 0, .int .i64 b5, .int .u8 0, .int .u8 0, .int .u8 0, .int .u8 0, .int .u8 0, .int .u8 0, .int .u8 0, .int .u8 0] 40 (g := w.heap.size + 1) (by simp))
  have l0 := K2.out.lt
  generalize (w.alloc (.cells #[.int .i64 0, .int .i64 0, .int .i64 0, .int .i64 0, .int .i64 0, .int .i64 0, .int .u8 0, .int .u8 0, .int .u8 0, .int .u8 0, .int .u8 0, .int .u8 0, .int .u8 0, .int .u8 0] 40)).alloc (.cells #[.int .i64 131, .int .i64 (16777216 * b1 + 65536 * b2 + 256 * b3 + b4), .int .i64 0, .int .i64 0, .int .i64 0, .int .i64 b5, .int .u8 0, .int .u8 0, .int .u8 0, .int .u8 0, .int .u8 0, .int .u8 0, .int .u8 0, .int .u8 0] 40) = v4 at *
  generalize hg4 : w.heap.size + 1 = g4 at *
  have lg : w.heap.size < g4 := by omega
  ((with_reducible refine (CN.out _).mono ?_))
  rintro e' y0 ⟨rfl, by0⟩
  replace K2 := Lib.hid (K2.out.below by0)
  replace K4 := Lib.hid (K4.out.below by0)
  replace BB := Lib.hid (bt BB.out by0)
  clear by0 CN
  go_wp2_with ((with_reducible show wpList _ _ _ (⟨_, .store 40 _ _, _, _, _, none⟩ :: _) _ _); (with_reducible refine wpBlk_store (g := g4) (cs := (repV nl)) agg_rep ?_ ?_ K4 ?_ ?_ ?_ ?_); (· exact wanted0 rfl); (· exact ⟨rfl, rfl, rfl⟩); (· rfl); (· exact repV_size _); (· exact repV_one _); refine Marker.mk ?_)
  refine Marker.in ?_
  replace K2 := Lib.hid (K2.out.setRow_other g4 (repV nl) (by omega))
  replace K4 := Lib.hid (K4.out.setRow (repV nl))
  replace BB := Lib.hid (below_setRow (g := g4) BB.out (by omega) (repV nl))
  generalize y0.setRow g4 (repV nl) = y1 at *
  go_wp2_with ((with_reducible show wpList _ _ _ (⟨_, .load 40 _, _, _, _, none⟩ :: _) _ _); (with_reducible refine wpBlk_load (g := g4) agg_rep ?_ ?_ K4 ?_ ?_); (· exact wanted0 rfl); (· exact ⟨rfl, rfl⟩); (· exact repV_size _))
  ((with_reducible refine (RP.out _).mono ?_))
  rintro e' y2 ⟨hpost, by2⟩
  replace K2 := Lib.hid (K2.out.below by2)
  replace K4 := Lib.hid (K4.out.below by2)
  replace BB := Lib.hid (bt BB.out by2)
  clear by2 RP
  cases hput : putR8 nl with
  | none =>
    rw [hput] at hpost
    obtain rfl := hpost
    have hres := HBY.out
    rw [hput, if_neg (by intro h; cases h)] at hres
    replace hres := Lib.hid hres
    clear hput
    go_wp2_with (first | ((with_reducible show wpList _ _ _ (⟨some 113, _, _, _, _, _⟩ :: _) _ _); refine wpList_build' rfl 40 _ rfl (repV (z14 0)) built_rzero ?_) | ((with_reducible show wpList _ _ _ (⟨_, .store 40 _ _, _, _, _, none⟩ :: _) _ _); (with_reducible refine wpBlk_store (g := w.heap.size) (cs := (repV (z14 0))) agg_rep ?_ ?_ K2 ?_ ?_ ?_ ?_); (· exact wanted0 rfl); (· exact ⟨rfl, rfl, rfl⟩); (· exact repV_size _); (· exact repV_size _); (· exact repV_one _)))
    refine bodyPost_ret (v := .tuple #[.agg (repV (z14 0)), .int .i64 13]) (results_ct agg_rep rfl _ _ w.heap.size _ _ rfl rfl (K2.out.setRow _) (repV_size _)) rfl ⟨?_, below_setRow BB.out (by omega) _⟩
    rw [hres.out]
  | some ps =>
    rw [hput] at hpost
    obtain ⟨A6, c6, base6, rfl, o6⟩ := hpost
    have hres := HBY.out
    rw [hput] at hres
    have hq := str_ne o6.2 HR.out.2
    have RB := Lib.hid (row_below HR.out BB.out)
    have v1 : (convert 27 9 (.slice A6 ps.length c6)).run Try.prog y2 = .ok (.string (strOfNums ps)) y2 := conv_row ps.length c6 rfl o6.row
    have v2 : (convert 27 9 (.slice B n c)).run Try.prog y2 = .ok (.string (strOfNums bs)) y2 := conv_row n c HN.out RB.out
    clear hput
    by_cases hb : ps = bs
    · rw [hb, if_pos rfl] at hres
      replace hres := Lib.hid hres
      rw [decide_eq_true hb] at hq
      generalize strOfNums ps = s1 at *
      generalize strOfNums bs = s2 at *
      generalize ps.length = np at *
      clear hb o6
      go_wp2_with (first | ((with_reducible show wpList _ _ _ (⟨_, .load 40 _, _, _, _, none⟩ :: _) _ _); (with_reducible refine wpBlk_load (g := g4) agg_rep ?_ ?_ K4 ?_ ?_); (· exact wanted0 rfl); (· exact ⟨rfl, rfl⟩); (· exact repV_size _)) | ((with_reducible show wpList _ _ _ (⟨_, .store 40 _ _, _, _, _, none⟩ :: _) _ _); (with_reducible refine wpBlk_store (g := w.heap.size) (cs := (repV nl)) agg_rep ?_ ?_ K2 ?_ ?_ ?_ ?_); (· exact wanted0 rfl); (· exact ⟨rfl, rfl, rfl⟩); (· exact repV_size _); (· exact repV_size _); (· exact repV_one _)))
      refine bodyPost_ret (v := .tuple #[.agg (repV nl), .int .i64 0]) (results_ct agg_rep rfl _ _ w.heap.size _ _ rfl rfl (K2.out.setRow _) (repV_size _)) rfl ⟨?_, below_setRow BB.out (by omega) _⟩
      rw [hres.out]
    · rw [if_neg (fun h => hb (Option.some.inj h))] at hres
      replace hres := Lib.hid hres
      rw [decide_eq_false hb] at hq
      generalize strOfNums ps = s1 at *
      generalize strOfNums bs = s2 at *
      generalize ps.length = np at *
      clear hb o6
      go_wp2_with (first | ((with_reducible show wpList _ _ _ (⟨some 113, _, _, _, _, _⟩ :: _) _ _); refine wpList_build' rfl 40 _ rfl (repV (z14 0)) built_rzero ?_) | ((with_reducible show wpList _ _ _ (⟨_, .store 40 _ _, _, _, _, none⟩ :: _) _ _); (with_reducible refine wpBlk_store (g := w.heap.size) (cs := (repV (z14 0))) agg_rep ?_ ?_ K2 ?_ ?_ ?_ ?_); (· exact wanted0 rfl); (· exact ⟨rfl, rfl, rfl⟩); (· exact repV_size _); (· exact repV_size _); (· exact repV_one _)))
      refine bodyPost_ret (v := .tuple #[.agg (repV (z14 0)), .int .i64 13]) (results_ct agg_rep rfl _ _ w.heap.size _ _ rfl rfl (K2.out.setRow _) (repV_size _)) rfl ⟨?_, below_setRow BB.out (by omega) _⟩
      rw [hres.out]
set_option maxRecDepth 100000 in
set_option maxHeartbeats 6400000 in
theorem rqt_132 (bs : List Int) (B : Option Addr) (n c : Nat) (hn : bs.length = n) (h16 : n ≤ 9) (h0 : bs.getD 0 0 = 132) (w : World) (hr : Row w B bs) :
    Calls Try.prog 19 #[.slice B n c] w (TakeRR bs w) := by
  have hby := takeR8_by hr.2
  obtain ⟨b0, e0⟩ : ∃ b, b = bs.getD 0 0 := ⟨_, rfl⟩
  obtain ⟨b1, e1⟩ : ∃ b, b = bs.getD 1 0 := ⟨_, rfl⟩
  have r1 : 0 ≤ b1 ∧ b1 ≤ 255 := by rw [e1]; exact getB hr.2 1
  obtain ⟨b2, e2⟩ : ∃ b, b = bs.getD 2 0 := ⟨_, rfl⟩
  have r2 : 0 ≤ b2 ∧ b2 ≤ 255 := by rw [e2]; exact getB hr.2 2
  obtain ⟨b3, e3⟩ : ∃ b, b = bs.getD 3 0 := ⟨_, rfl⟩
  have r3 : 0 ≤ b3 ∧ b3 ≤ 255 := by rw [e3]; exact getB hr.2 3
  obtain ⟨b4, e4⟩ : ∃ b, b = bs.getD 4 0 := ⟨_, rfl⟩
  have r4 : 0 ≤ b4 ∧ b4 ≤ 255 := by rw [e4]; exact getB hr.2 4
  obtain ⟨b5, e5⟩ : ∃ b, b = bs.getD 5 0 := ⟨_, rfl⟩
  have r5 : 0 ≤ b5 ∧ b5 ≤ 255 := by rw [e5]; exact getB hr.2 5
  have AT0 : Hid (∀ W, Below w.heap.size w W → Calls Try.prog 28 #[.slice B n c, .int .i64 0] W fun e w' => e = .returned (.int .i64 b0) ∧ W = w') := Lib.hid (fun W h => by have := at_any bs B n c hn 0 W (row_below hr h); rw [← e0] at this; exact this)
  have AT1 : Hid (∀ W, Below w.heap.size w W → Calls Try.prog 28 #[.slice B n c, .int .i64 1] W fun e w' => e = .returned (.int .i64 b1) ∧ W = w') := Lib.hid (fun W h => by have := at_any bs B n c hn 1 W (row_below hr h); rw [← e1] at this; exact this)
  have AT2 : Hid (∀ W, Below w.heap.size w W → Calls Try.prog 28 #[.slice B n c, .int .i64 2] W fun e w' => e = .returned (.int .i64 b2) ∧ W = w') := Lib.hid (fun W h => by have := at_any bs B n c hn 2 W (row_below hr h); rw [← e2] at this; exact this)
  have AT3 : Hid (∀ W, Below w.heap.size w W → Calls Try.prog 28 #[.slice B n c, .int .i64 3] W fun e w' => e = .returned (.int .i64 b3) ∧ W = w') := Lib.hid (fun W h => by have := at_any bs B n c hn 3 W (row_below hr h); rw [← e3] at this; exact this)
  have AT4 : Hid (∀ W, Below w.heap.size w W → Calls Try.prog 28 #[.slice B n c, .int .i64 4] W fun e w' => e = .returned (.int .i64 b4) ∧ W = w') := Lib.hid (fun W h => by have := at_any bs B n c hn 4 W (row_below hr h); rw [← e4] at this; exact this)
  have AT5 : Hid (∀ W, Below w.heap.size w W → Calls Try.prog 28 #[.slice B n c, .int .i64 5] W fun e w' => e = .returned (.int .i64 b5) ∧ W = w') := Lib.hid (fun W h => by have := at_any bs B n c hn 5 W (row_below hr h); rw [← e5] at this; exact this)
  have hdec : decR bs = [132, (16777216 * b1 + 65536 * b2 + 256 * b3 + b4), 0, 0, 0, b5, 0, 0, 0, 0, 0, 0, 0, 0] := by
    rw [decR_132 h0, ← e1, ← e2, ← e3, ← e4, ← e5]
  have CN : Hid (∀ W, Calls Try.prog 32 #[.agg #[.int .i64 132, .int .i64 (16777216 * b1 + 65536 * b2 + 256 * b3 + b4), .int .i64 0, .int .i64 0, .int .i64 0, .int .i64 b5, .int .u8 0, .int .u8 0, .int .u8 0, .int .u8 0, .int .u8 0, .int .u8 0, .int .u8 0, .int .u8 0]] W fun e' w' => e' = .returned (.agg (repV (decR bs))) ∧ Below W.heap.size W w') := Lib.hid fun W => by
    rw [hdec]
    exact replies_132 (16777216 * b1 + 65536 * b2 + 256 * b3 + b4) 0 0 0 b5 0 0 0 0 0 0 0 0 W
  have hrep := isRep_decR hr.2
  have RP := Lib.hid (fun W => rq_any (decR bs) hrep W)
  have HBY := Lib.hid hby
  have HR := Lib.hid hr
  have HN := Lib.hid hn
  have k0 : b0 = 132 := by rw [e0, h0]
  rw [k0] at AT0
  clear h0 hdec hby hrep e0 e1 e2 e3 e4 e5 hr hn k0
  generalize decR bs = nl at *
  obtain ⟨r1a, r1b⟩ := r1
  obtain ⟨r2a, r2b⟩ := r2
  obtain ⟨r3a, r3b⟩ := r3
  obtain ⟨r4a, r4b⟩ := r4
  obtain ⟨r5a, r5b⟩ := r5
  have t16 : decide ((9 : Int) < n) = false := decide_eq_false (by omega)
  go_enter Try.func19, Try.ntmps19
  go_wp2_with fail
  ((with_reducible refine (AT0.out _ (below_alloc1 w _)).mono ?_))
  rintro e' w' ⟨rfl, rfl⟩
  go_wp2_with fail
  ((with_reducible refine (AT1.out _ (below_alloc2 w _ _)).mono ?_))
  rintro e' w' ⟨rfl, rfl⟩
  go_wp2_with fail
  ((with_reducible refine (AT2.out _ (below_alloc2 w _ _)).mono ?_))
  rintro e' w' ⟨rfl, rfl⟩
  go_wp2_with fail
  ((with_reducible refine (AT3.out _ (below_alloc2 w _ _)).mono ?_))
  rintro e' w' ⟨rfl, rfl⟩
  go_wp2_with fail
  ((with_reducible refine (AT4.out _ (below_alloc2 w _ _)).mono ?_))
  rintro e' w' ⟨rfl, rfl⟩
  go_wp2_with fail
  ((with_reducible refine (AT5.out _ (below_alloc2 w _ _)).mono ?_))
  rintro e' w' ⟨rfl, rfl⟩
  go_wp2_with fail
  have BB := Lib.hid (below_alloc2 w (.cells #[.int .i64 0, .int .i64 0, .int .i64 0, .int .i64 0, .int .i64 0, .int .i64 0, .int .u8 0, .int .u8 0, .int .u8 0, .int .u8 0, .int .u8 0, .int .u8 0, .int .u8 0, .int .u8 0] 40) (.cells #[.int .i64 132, .int .i64 (16777216 * b1 + 65536 * b2 + 256 * b3 + b4), .int .i64 0, .int .i64 0, .int .i64 0, .int .i64 b5, .int .u8 0, .int .u8 0, .int .u8 0, .int .u8 0, .int .u8 0, .int .u8 0, .int .u8 0, .int .u8 0] 40))
  have K2 : Hid (Blk ((w.alloc (.cells #[.int .i64 0, .int .i64 0, .int .i64 0, .int .i64 0, .int .i64 0, .int .i64 0, .int .u8 0, .int .u8 0, .int .u8 0, .int .u8 0, .int .u8 0, .int .u8 0, .int .u8 0, .int .u8 0] 40)).alloc (.cells #[.int .i64 132, .int .i64 (16777216 * b1 + 65536 * b2 + 256 * b3 + b4), .int .i64 0, .int .i64 0, .int .i64 0, .int .i64 b5, .int .u8 0, .int .u8 0, .int .u8 0, .int .u8 0, .int .u8 0, .int .u8 0, .int .u8 0, .int .u8 0] 40)) w.heap.size (repV (z14 0)) 40) := Lib.hid ((Blk.new w #[.int .i64 0, .int .i64 0, .int .i64 0, .int .i64 0, .int .i64 0, .int .i64 0, .int .u8 0, .int .u8 0, .int .u8 0, .int .u8 0, .int .u8 0, .int .u8 0, .int .u8 0, .int .u8 0] 40).alloc _)
  have K4 := Lib.hid (Blk.new' (w.alloc (.cells #[.int .i64 0, .int .i64 0, .int .i64 0, .int .i64 0, .int .i64 0, .int .i64 0, .int .u8 0, .int .u8 0, .int .u8 0, .int .u8 0, .int .u8 0, .int .u8 0, .int .u8 0, .int .u8 0] 40)) #[.int .i64 132, .int .i64 (16777216 * b1 + 65536 * b2 + 256 * b3 + b4), .int .i64 0, .int .i64 0, .int .i64 0, .int .i64 b5, .int .u8 0, .int .u8 0, .int .u8 0, .int .u8 0, .int .u8 0, .int .u8 0, .int .u8 0, .int .u8 0] 40 (g := w.heap.size + 1) (by simp))
  have l0 := K2.out.lt
  generalize (w.alloc (.cells #[.int .i64 0, .int .i64 0, .int .i64 0, .int .i64 0, .int .i64 0, .int .i64 0, .int .u8 0, .int .u8 0, .int .u8 0, .int .u8 0, .int .u8 0, .int .u8 0, .int .u8 0, .int .u8 0] 40)).alloc (.cells #[.int .i64 132, .int .i64 (16777216 * b1 + 65536 * b2 + 256 * b3 + b4), .int .i64 0, .int .i64 0, .int .i64 0, .int .i64 b5, .int .u8 0, .int .u8 0, .int .u8 0, .int .u8 0, .int .u8 0, .int .u8 0, .int .u8 0, .int .u8 0] 40) = v4 at *
  generalize hg4 : w.heap.size + 1 = g4 at *
  have lg : w.heap.size < g4 := by omega
  ((with_reducible refine (CN.out _).mono ?_))
  rintro e' y0 ⟨rfl, by0⟩
  replace K2 := Lib.hid (K2.out.below by0)
  replace K4 := Lib.hid (K4.out.below by0)
  replace BB := Lib.hid (bt BB.out by0)
  clear by0 CN
  go_wp2_with ((with_reducible show wpList _ _ _ (⟨_, .store 40 _ _, _, _, _, none⟩ :: _) _ _); (with_reducible refine wpBlk_store (g := g4) (cs := (repV nl)) agg_rep ?_ ?_ K4 ?_ ?_ ?_ ?_); (· exact wanted0 rfl); (· exact ⟨rfl, rfl, rfl⟩); (· rfl); (· exact repV_size _); (· exact repV_one _); refine Marker.mk ?_)
  refine Marker.in ?_
  replace K2 := Lib.hid (K2.out.setRow_other g4 (repV nl) (by omega))
  replace K4 := Lib.hid (K4.out.setRow (repV nl))
  replace BB := Lib.hid (below_setRow (g := g4) BB.out (by omega) (repV nl))
  generalize y0.setRow g4 (repV nl) = y1 at *
  go_wp2_with ((with_reducible show wpList _ _ _ (⟨_, .load 40 _, _, _, _, none⟩ :: _) _ _); (with_reducible refine wpBlk_load (g := g4) agg_rep ?_ ?_ K4 ?_ ?_); (· exact wanted0 rfl); (· exact ⟨rfl, rfl⟩); (· exact repV_size _))
  ((with_reducible refine (RP.out _).mono ?_))
  rintro e' y2 ⟨hpost, by2⟩
  replace K2 := Lib.hid (K2.out.below by2)
  replace K4 := Lib.hid (K4.out.below by2)
  replace BB := Lib.hid (bt BB.out by2)
  clear by2 RP
  cases hput : putR8 nl with
  | none =>
    rw [hput] at hpost
    obtain rfl := hpost
    have hres := HBY.out
    rw [hput, if_neg (by intro h; cases h)] at hres
    replace hres := Lib.hid hres
    clear hput
    go_wp2_with (first | ((with_reducible show wpList _ _ _ (⟨some 113, _, _, _, _, _⟩ :: _) _ _); refine wpList_build' rfl 40 _ rfl (repV (z14 0)) built_rzero ?_) | ((with_reducible show wpList _ _ _ (⟨_, .store 40 _ _, _, _, _, none⟩ :: _) _ _); (with_reducible refine wpBlk_store (g := w.heap.size) (cs := (repV (z14 0))) agg_rep ?_ ?_ K2 ?_ ?_ ?_ ?_); (· exact wanted0 rfl); (· exact ⟨rfl, rfl, rfl⟩); (· exact repV_size _); (· exact repV_size _); (· exact repV_one _)))
    refine bodyPost_ret (v := .tuple #[.agg (repV (z14 0)), .int .i64 13]) (results_ct agg_rep rfl _ _ w.heap.size _ _ rfl rfl (K2.out.setRow _) (repV_size _)) rfl ⟨?_, below_setRow BB.out (by omega) _⟩
    rw [hres.out]
  | some ps =>
    rw [hput] at hpost
    obtain ⟨A6, c6, base6, rfl, o6⟩ := hpost
    have hres := HBY.out
    rw [hput] at hres
    have hq := str_ne o6.2 HR.out.2
    have RB := Lib.hid (row_below HR.out BB.out)
    have v1 : (convert 27 9 (.slice A6 ps.length c6)).run Try.prog y2 = .ok (.string (strOfNums ps)) y2 := conv_row ps.length c6 rfl o6.row
    have v2 : (convert 27 9 (.slice B n c)).run Try.prog y2 = .ok (.string (strOfNums bs)) y2 := conv_row n c HN.out RB.out
    clear hput
    by_cases hb : ps = bs
    · rw [hb, if_pos rfl] at hres
      replace hres := Lib.hid hres
      rw [decide_eq_true hb] at hq
      generalize strOfNums ps = s1 at *
      generalize strOfNums bs = s2 at *
      generalize ps.length = np at *
      clear hb o6
      go_wp2_with (first | ((with_reducible show wpList _ _ _ (⟨_, .load 40 _, _, _, _, none⟩ :: _) _ _); (with_reducible refine wpBlk_load (g := g4) agg_rep ?_ ?_ K4 ?_ ?_); (· exact wanted0 rfl); (· exact ⟨rfl, rfl⟩); (· exact repV_size _)) | ((with_reducible show wpList _ _ _ (⟨_, .store 40 _ _, _, _, _, none⟩ :: _) _ _); (with_reducible refine wpBlk_store (g := w.heap.size) (cs := (repV nl)) agg_rep ?_ ?_ K2 ?_ ?_ ?_ ?_); (· exact wanted0 rfl); (· exact ⟨rfl, rfl, rfl⟩); (· exact repV_size _); (· exact repV_size _); (· exact repV_one _)))
      refine bodyPost_ret (v := .tuple #[.agg (repV nl), .int .i64 0]) (results_ct agg_rep rfl _ _ w.heap.size _ _ rfl rfl (K2.out.setRow _) (repV_size _)) rfl ⟨?_, below_setRow BB.out (by omega) _⟩
      rw [hres.out]
    · rw [if_neg (fun h => hb (Option.some.inj h))] at hres
      replace hres := Lib.hid hres
      rw [decide_eq_false hb] at hq
      generalize strOfNums ps = s1 at *
      generalize strOfNums bs = s2 at *
      generalize ps.length = np at *
      clear hb o6
      go_wp2_with (first | ((with_reducible show wpList _ _ _ (⟨some 113, _, _, _, _, _⟩ :: _) _ _); refine wpList_build' rfl 40 _ rfl (repV (z14 0)) built_rzero ?_) | ((with_reducible show wpList _ _ _ (⟨_, .store 40 _ _, _, _, _, none⟩ :: _) _ _); (with_reducible refine wpBlk_store (g := w.heap.size) (cs := (repV (z14 0))) agg_rep ?_ ?_ K2 ?_ ?_ ?_ ?_); (· exact wanted0 rfl); (· exact ⟨rfl, rfl, rfl⟩); (· exact repV_size _); (· exact repV_size _); (· exact repV_one _)))
      refine bodyPost_ret (v := .tuple #[.agg (repV (z14 0)), .int .i64 13]) (results_ct agg_rep rfl _ _ w.heap.size _ _ rfl rfl (K2.out.setRow _) (repV_size _)) rfl ⟨?_, below_setRow BB.out (by omega) _⟩
      rw [hres.out]
set_option maxRecDepth 100000 in
set_option maxHeartbeats 6400000 in
theorem rqt_133 (bs : List Int) (B : Option Addr) (n c : Nat) (hn : bs.length = n) (h16 : n ≤ 9) (h0 : bs.getD 0 0 = 133) (w : World) (hr : Row w B bs) :
    Calls Try.prog 19 #[.slice B n c] w (TakeRR bs w) := by
  have hby := takeR8_by hr.2
  obtain ⟨b0, e0⟩ : ∃ b, b = bs.getD 0 0 := ⟨_, rfl⟩
  obtain ⟨b1, e1⟩ : ∃ b, b = bs.getD 1 0 := ⟨_, rfl⟩
  have r1 : 0 ≤ b1 ∧ b1 ≤ 255 := by rw [e1]; exact getB hr.2 1
  obtain ⟨b2, e2⟩ : ∃ b, b = bs.getD 2 0 := ⟨_, rfl⟩
  have r2 : 0 ≤ b2 ∧ b2 ≤ 255 := by rw [e2]; exact getB hr.2 2
  have AT0 : Hid (∀ W, Below w.heap.size w W → Calls Try.prog 28 #[.slice B n c, .int .i64 0] W fun e w' => e = .returned (.int .i64 b0) ∧ W = w') := Lib.hid (fun W h => by have := at_any bs B n c hn 0 W (row_below hr h); rw [← e0] at this; exact this)
  have AT1 : Hid (∀ W, Below w.heap.size w W → Calls Try.prog 28 #[.slice B n c, .int .i64 1] W fun e w' => e = .returned (.int .i64 b1) ∧ W = w') := Lib.hid (fun W h => by have := at_any bs B n c hn 1 W (row_below hr h); rw [← e1] at this; exact this)
  have AT2 : Hid (∀ W, Below w.heap.size w W → Calls Try.prog 28 #[.slice B n c, .int .i64 2] W fun e w' => e = .returned (.int .i64 b2) ∧ W = w') := Lib.hid (fun W h => by have := at_any bs B n c hn 2 W (row_below hr h); rw [← e2] at this; exact this)
  have hdec : decR bs = [133, 0, 0, 0, (256 * b1 + b2), 0, 0, 0, 0, 0, 0, 0, 0, 0] := by
    rw [decR_133 h0, ← e1, ← e2]
  have CN : Hid (∀ W, Calls Try.prog 32 #[.agg #[.int .i64 133, .int .i64 0, .int .i64 0, .int .i64 0, .int .i64 (256 * b1 + b2), .int .i64 0, .int .u8 0, .int .u8 0, .int .u8 0, .int .u8 0, .int .u8 0, .int .u8 0, .int .u8 0, .int .u8 0]] W fun e' w' => e' = .returned (.agg (repV (decR bs))) ∧ Below W.heap.size W w') := Lib.hid fun W => by
    rw [hdec]
    exact replies_133 0 0 0 (256 * b1 + b2) 0 0 0 0 0 0 0 0 0 W
  have hrep := isRep_decR hr.2
  have RP := Lib.hid (fun W => rq_any (decR bs) hrep W)
  have HBY := Lib.hid hby
  have HR := Lib.hid hr
  have HN := Lib.hid hn
  have k0 : b0 = 133 := by rw [e0, h0]
  rw [k0] at AT0
  clear h0 hdec hby hrep e0 e1 e2 hr hn k0
  generalize decR bs = nl at *
  obtain ⟨r1a, r1b⟩ := r1
  obtain ⟨r2a, r2b⟩ := r2
  have t16 : decide ((9 : Int) < n) = false := decide_eq_false (by omega)
  go_enter Try.func19, Try.ntmps19
  go_wp2_with fail
  ((with_reducible refine (AT0.out _ (below_alloc1 w _)).mono ?_))
  rintro e' w' ⟨rfl, rfl⟩
  go_wp2_with fail
  ((with_reducible refine (AT1.out _ (below_alloc2 w _ _)).mono ?_))
  rintro e' w' ⟨rfl, rfl⟩
  go_wp2_with fail
  ((with_reducible refine (AT2.out _ (below_alloc2 w _ _)).mono ?_))
  rintro e' w' ⟨rfl, rfl⟩
  go_wp2_with fail
  have BB := Lib.hid (below_alloc2 w (.cells #[.int .i64 0, .int .i64 0, .int .i64 0, .int .i64 0, .int .i64 0, .int .i64 0, .int .u8 0, .int .u8 0, .int .u8 0, .int .u8 0, .int .u8 0, .int .u8 0, .int .u8 0, .int .u8 0] 40) (.cells #[.int .i64 133, .int .i64 0, .int .i64 0, .int .i64 0, .int .i64 (256 * b1 + b2), .int .i64 0, .int .u8 0, .int .u8 0, .int .u8 0, .int .u8 0, .int .u8 0, .int .u8 0, .int .u8 0, .int .u8 0] 40))
  have K2 : Hid (Blk ((w.alloc (.cells #[.int .i64 0, .int .i64 0, .int .i64 0, .int .i64 0, .int .i64 0, .int .i64 0, .int .u8 0, .int .u8 0, .int .u8 0, .int .u8 0, .int .u8 0, .int .u8 0, .int .u8 0, .int .u8 0] 40)).alloc (.cells #[.int .i64 133, .int .i64 0, .int .i64 0, .int .i64 0, .int .i64 (256 * b1 + b2), .int .i64 0, .int .u8 0, .int .u8 0, .int .u8 0, .int .u8 0, .int .u8 0, .int .u8 0, .int .u8 0, .int .u8 0] 40)) w.heap.size (repV (z14 0)) 40) := Lib.hid ((Blk.new w #[.int .i64 0, .int .i64 0, .int .i64 0, .int .i64 0, .int .i64 0, .int .i64 0, .int .u8 0, .int .u8 0, .int .u8 0, .int .u8 0, .int .u8 0, .int .u8 0, .int .u8 0, .int .u8 0] 40).alloc _)
  have K4 := Lib.hid (Blk.new' (w.alloc (.cells #[.int .i64 0, .int .i64 0, .int .i64 0, .int .i64 0, .int .i64 0, .int .i64 0, .int .u8 0, .int .u8 0, .int .u8 0, .int .u8 0, .int .u8 0, .int .u8 0, .int .u8 0, .int .u8 0] 40)) #[.int .i64 133, .int .i64 0, .int .i64 0, .int .i64 0, .int .i64 (256 * b1 + b2), .int .i64 0, .int .u8 0, .int .u8 0, .int .u8 0, .int .u8 0, .int .u8 0, .int .u8 0, .int .u8 0, .int .u8 0] 40 (g := w.heap.size + 1) (by simp))
  have l0 := K2.out.lt
  generalize (w.alloc (.cells #[.int .i64 0, .int .i64 0, .int .i64 0, .int .i64 0, .int .i64 0, .int .i64 0, .int .u8 0, .int .u8 0, .int .u8 0, .int .u8 0, .int .u8 0, .int .u8 0, .int .u8 0, .int .u8 0] 40)).alloc (.cells #[.int .i64 133, .int .i64 0, .int .i64 0, .int .i64 0, .int .i64 (256 * b1 + b2), .int .i64 0, .int .u8 0, .int .u8 0, .int .u8 0, .int .u8 0, .int .u8 0, .int .u8 0, .int .u8 0, .int .u8 0] 40) = v4 at *
  generalize hg4 : w.heap.size + 1 = g4 at *
  have lg : w.heap.size < g4 := by omega
  ((with_reducible refine (CN.out _).mono ?_))
  rintro e' y0 ⟨rfl, by0⟩
  replace K2 := Lib.hid (K2.out.below by0)
  replace K4 := Lib.hid (K4.out.below by0)
  replace BB := Lib.hid (bt BB.out by0)
  clear by0 CN
  go_wp2_with ((with_reducible show wpList _ _ _ (⟨_, .store 40 _ _, _, _, _, none⟩ :: _) _ _); (with_reducible refine wpBlk_store (g := g4) (cs := (repV nl)) agg_rep ?_ ?_ K4 ?_ ?_ ?_ ?_); (· exact wanted0 rfl); (· exact ⟨rfl, rfl, rfl⟩); (· rfl); (· exact repV_size _); (· exact repV_one _); refine Marker.mk ?_)
  refine Marker.in ?_
  replace K2 := Lib.hid (K2.out.setRow_other g4 (repV nl) (by omega))
  replace K4 := Lib.hid (K4.out.setRow (repV nl))
  replace BB := Lib.hid (below_setRow (g := g4) BB.out (by omega) (repV nl))
  generalize y0.setRow g4 (repV nl) = y1 at *
  go_wp2_with ((with_reducible show wpList _ _ _ (⟨_, .load 40 _, _, _, _, none⟩ :: _) _ _); (with_reducible refine wpBlk_load (g := g4) agg_rep ?_ ?_ K4 ?_ ?_); (· exact wanted0 rfl); (· exact ⟨rfl, rfl⟩); (· exact repV_size _))
  ((with_reducible refine (RP.out _).mono ?_))
  rintro e' y2 ⟨hpost, by2⟩
  replace K2 := Lib.hid (K2.out.below by2)
  replace K4 := Lib.hid (K4.out.below by2)
  replace BB := Lib.hid (bt BB.out by2)
  clear by2 RP
  cases hput : putR8 nl with
  | none =>
    rw [hput] at hpost
    obtain rfl := hpost
    have hres := HBY.out
    rw [hput, if_neg (by intro h; cases h)] at hres
    replace hres := Lib.hid hres
    clear hput
    go_wp2_with (first | ((with_reducible show wpList _ _ _ (⟨some 113, _, _, _, _, _⟩ :: _) _ _); refine wpList_build' rfl 40 _ rfl (repV (z14 0)) built_rzero ?_) | ((with_reducible show wpList _ _ _ (⟨_, .store 40 _ _, _, _, _, none⟩ :: _) _ _); (with_reducible refine wpBlk_store (g := w.heap.size) (cs := (repV (z14 0))) agg_rep ?_ ?_ K2 ?_ ?_ ?_ ?_); (· exact wanted0 rfl); (· exact ⟨rfl, rfl, rfl⟩); (· exact repV_size _); (· exact repV_size _); (· exact repV_one _)))
    refine bodyPost_ret (v := .tuple #[.agg (repV (z14 0)), .int .i64 13]) (results_ct agg_rep rfl _ _ w.heap.size _ _ rfl rfl (K2.out.setRow _) (repV_size _)) rfl ⟨?_, below_setRow BB.out (by omega) _⟩
    rw [hres.out]
  | some ps =>
    rw [hput] at hpost
    obtain ⟨A6, c6, base6, rfl, o6⟩ := hpost
    have hres := HBY.out
    rw [hput] at hres
    have hq := str_ne o6.2 HR.out.2
    have RB := Lib.hid (row_below HR.out BB.out)
    have v1 : (convert 27 9 (.slice A6 ps.length c6)).run Try.prog y2 = .ok (.string (strOfNums ps)) y2 := conv_row ps.length c6 rfl o6.row
    have v2 : (convert 27 9 (.slice B n c)).run Try.prog y2 = .ok (.string (strOfNums bs)) y2 := conv_row n c HN.out RB.out
    clear hput
    by_cases hb : ps = bs
    · rw [hb, if_pos rfl] at hres
      replace hres := Lib.hid hres
      rw [decide_eq_true hb] at hq
      generalize strOfNums ps = s1 at *
      generalize strOfNums bs = s2 at *
      generalize ps.length = np at *
      clear hb o6
      go_wp2_with (first | ((with_reducible show wpList _ _ _ (⟨_, .load 40 _, _, _, _, none⟩ :: _) _ _); (with_reducible refine wpBlk_load (g := g4) agg_rep ?_ ?_ K4 ?_ ?_); (· exact wanted0 rfl); (· exact ⟨rfl, rfl⟩); (· exact repV_size _)) | ((with_reducible show wpList _ _ _ (⟨_, .store 40 _ _, _, _, _, none⟩ :: _) _ _); (with_reducible refine wpBlk_store (g := w.heap.size) (cs := (repV nl)) agg_rep ?_ ?_ K2 ?_ ?_ ?_ ?_); (· exact wanted0 rfl); (· exact ⟨rfl, rfl, rfl⟩); (· exact repV_size _); (· exact repV_size _); (· exact repV_one _)))
      refine bodyPost_ret (v := .tuple #[.agg (repV nl), .int .i64 0]) (results_ct agg_rep rfl _ _ w.heap.size _ _ rfl rfl (K2.out.setRow _) (repV_size _)) rfl ⟨?_, below_setRow BB.out (by omega) _⟩
      rw [hres.out]
    · rw [if_neg (fun h => hb (Option.some.inj h))] at hres
      replace hres := Lib.hid hres
      rw [decide_eq_false hb] at hq
      generalize strOfNums ps = s1 at *
      generalize strOfNums bs = s2 at *
      generalize ps.length = np at *
      clear hb o6
      go_wp2_with (first | ((with_reducible show wpList _ _ _ (⟨some 113, _, _, _, _, _⟩ :: _) _ _); refine wpList_build' rfl 40 _ rfl (repV (z14 0)) built_rzero ?_) | ((with_reducible show wpList _ _ _ (⟨_, .store 40 _ _, _, _, _, none⟩ :: _) _ _); (with_reducible refine wpBlk_store (g := w.heap.size) (cs := (repV (z14 0))) agg_rep ?_ ?_ K2 ?_ ?_ ?_ ?_); (· exact wanted0 rfl); (· exact ⟨rfl, rfl, rfl⟩); (· exact repV_size _); (· exact repV_size _); (· exact repV_one _)))
      refine bodyPost_ret (v := .tuple #[.agg (repV (z14 0)), .int .i64 13]) (results_ct agg_rep rfl _ _ w.heap.size _ _ rfl rfl (K2.out.setRow _) (repV_size _)) rfl ⟨?_, below_setRow BB.out (by omega) _⟩
      rw [hres.out]
set_option maxRecDepth 100000 in
set_option maxHeartbeats 6400000 in
theorem rqt_134 (bs : List Int) (B : Option Addr) (n c : Nat) (hn : bs.length = n) (h16 : n ≤ 9) (h0 : bs.getD 0 0 = 134) (w : World) (hr : Row w B bs) :
    Calls Try.prog 19 #[.slice B n c] w (TakeRR bs w) := by
  have hby := takeR8_by hr.2
  obtain ⟨b0, e0⟩ : ∃ b, b = bs.getD 0 0 := ⟨_, rfl⟩
  obtain ⟨b1, e1⟩ : ∃ b, b = bs.getD 1 0 := ⟨_, rfl⟩
  have r1 : 0 ≤ b1 ∧ b1 ≤ 255 := by rw [e1]; exact getB hr.2 1
  obtain ⟨b2, e2⟩ : ∃ b, b = bs.getD 2 0 := ⟨_, rfl⟩
  have r2 : 0 ≤ b2 ∧ b2 ≤ 255 := by rw [e2]; exact getB hr.2 2
  obtain ⟨b3, e3⟩ : ∃ b, b = bs.getD 3 0 := ⟨_, rfl⟩
  have r3 : 0 ≤ b3 ∧ b3 ≤ 255 := by rw [e3]; exact getB hr.2 3
  have AT0 : Hid (∀ W, Below w.heap.size w W → Calls Try.prog 28 #[.slice B n c, .int .i64 0] W fun e w' => e = .returned (.int .i64 b0) ∧ W = w') := Lib.hid (fun W h => by have := at_any bs B n c hn 0 W (row_below hr h); rw [← e0] at this; exact this)
  have AT1 : Hid (∀ W, Below w.heap.size w W → Calls Try.prog 28 #[.slice B n c, .int .i64 1] W fun e w' => e = .returned (.int .i64 b1) ∧ W = w') := Lib.hid (fun W h => by have := at_any bs B n c hn 1 W (row_below hr h); rw [← e1] at this; exact this)
  have AT2 : Hid (∀ W, Below w.heap.size w W → Calls Try.prog 28 #[.slice B n c, .int .i64 2] W fun e w' => e = .returned (.int .i64 b2) ∧ W = w') := Lib.hid (fun W h => by have := at_any bs B n c hn 2 W (row_below hr h); rw [← e2] at this; exact this)
  have AT3 : Hid (∀ W, Below w.heap.size w W → Calls Try.prog 28 #[.slice B n c, .int .i64 3] W fun e w' => e = .returned (.int .i64 b3) ∧ W = w') := Lib.hid (fun W h => by have := at_any bs B n c hn 3 W (row_below hr h); rw [← e3] at this; exact this)
  have hdec : decR bs = [134, 0, 0, b1, (256 * b2 + b3), 0, 0, 0, 0, 0, 0, 0, 0, 0] := by
    rw [decR_134 h0, ← e1, ← e2, ← e3]
  have CN : Hid (∀ W, Calls Try.prog 32 #[.agg #[.int .i64 134, .int .i64 0, .int .i64 0, .int .i64 b1, .int .i64 (256 * b2 + b3), .int .i64 0, .int .u8 0, .int .u8 0, .int .u8 0, .int .u8 0, .int .u8 0, .int .u8 0, .int .u8 0, .int .u8 0]] W fun e' w' => e' = .returned (.agg (repV (decR bs))) ∧ Below W.heap.size W w') := Lib.hid fun W => by
    rw [hdec]
    exact replies_134 0 0 b1 (256 * b2 + b3) 0 0 0 0 0 0 0 0 0 W
  have hrep := isRep_decR hr.2
  have RP := Lib.hid (fun W => rq_any (decR bs) hrep W)
  have HBY := Lib.hid hby
  have HR := Lib.hid hr
  have HN := Lib.hid hn
  have k0 : b0 = 134 := by rw [e0, h0]
  rw [k0] at AT0
  clear h0 hdec hby hrep e0 e1 e2 e3 hr hn k0
  generalize decR bs = nl at *
  obtain ⟨r1a, r1b⟩ := r1
  obtain ⟨r2a, r2b⟩ := r2
  obtain ⟨r3a, r3b⟩ := r3
  have t16 : decide ((9 : Int) < n) = false := decide_eq_false (by omega)
  go_enter Try.func19, Try.ntmps19
  go_wp2_with fail
  ((with_reducible refine (AT0.out _ (below_alloc1 w _)).mono ?_))
  rintro e' w' ⟨rfl, rfl⟩
  go_wp2_with fail
  ((with_reducible refine (AT1.out _ (below_alloc2 w _ _)).mono ?_))
  rintro e' w' ⟨rfl, rfl⟩
  go_wp2_with fail
  ((with_reducible refine (AT2.out _ (below_alloc2 w _ _)).mono ?_))
  rintro e' w' ⟨rfl, rfl⟩
  go_wp2_with fail
  ((with_reducible refine (AT3.out _ (below_alloc2 w _ _)).mono ?_))
  rintro e' w' ⟨rfl, rfl⟩
  go_wp2_with fail
  have BB := Lib.hid (below_alloc2 w (.cells #[.int .i64 0, .int .i64 0, .int .i64 0, .int .i64 0, .int .i64 0, .int .i64 0, .int .u8 0, .int .u8 0, .int .u8 0, .int .u8 0, .int .u8 0, .int .u8 0, .int .u8 0, .int .u8 0] 40) (.cells #[.int .i64 134, .int .i64 0, .int .i64 0, .int .i64 b1, .int .i64 (256 * b2 + b3), .int .i64 0, .int .u8 0, .int .u8 0, .int .u8 0, .int .u8 0, .int .u8 0, .int .u8 0, .int .u8 0, .int .u8 0] 40))
  have K2 : Hid (Blk ((w.alloc (.cells #[.int .i64 0, .int .i64 0, .int .i64 0, .int .i64 0, .int .i64 0, .int .i64 0, .int .u8 0, .int .u8 0, .int .u8 0, .int .u8 0, .int .u8 0, .int .u8 0, .int .u8 0, .int .u8 0] 40)).alloc (.cells #[.int .i64 134, .int .i64 0, .int .i64 0, .int .i64 b1, .int .i64 (256 * b2 + b3), .int .i64 0, .int .u8 0, .int .u8 0, .int .u8 0, .int .u8 0, .int .u8 0, .int .u8 0, .int .u8 0, .int .u8 0] 40)) w.heap.size (repV (z14 0)) 40) := Lib.hid ((Blk.new w #[.int .i64 0, .int .i64 0, .int .i64 0, .int .i64 0, .int .i64 0, .int .i64 0, .int .u8 0, .int .u8 0, .int .u8 0, .int .u8 0, .int .u8 0, .int .u8 0, .int .u8 0, .int .u8 0] 40).alloc _)
  have K4 := Lib.hid (Blk.new' (w.alloc (.cells #[.int .i64 0, .int .i64 0, .int .i64 0, .int .i64 0, .int .i64 0, .int .i64 0, .int .u8 0, .int .u8 0, .int .u8 0, .int .u8 0, .int .u8 0, .int .u8 0, .int .u8 0, .int .u8 0] 40)) #[.int .i64 134, .int .i64 0, .int .i64 0, .int .i64 b1, .int .i64 (256 * b2 + b3), .int .i64 0, .int .u8 0, .int .u8 0, .int .u8 0, .int .u8 0, .int .u8 0, .int .u8 0, .int .u8 0, .int .u8 0] 40 (g := w.heap.size + 1) (by simp))
  have l0 := K2.out.lt
  generalize (w.alloc (.cells #[.int .i64 0, .int .i64 0, .int .i64 0, .int .i64 0, .int .i64 0, .int .i64 0, .int .u8 0, .int .u8 0, .int .u8 0, .int .u8 0, .int .u8 0, .int .u8 0, .int .u8 0, .int .u8 0] 40)).alloc (.cells #[.int .i64 134, .int .i64 0, .int .i64 0, .int .i64 b1, .int .i64 (256 * b2 + b3), .int .i64 0, .int .u8 0, .int .u8 0, .int .u8 0, .int .u8 0, .int .u8 0, .int .u8 0, .int .u8 0, .int .u8 0] 40) = v4 at *
  generalize hg4 : w.heap.size + 1 = g4 at *
  have lg : w.heap.size < g4 := by omega
  ((with_reducible refine (CN.out _).mono ?_))
  rintro e' y0 ⟨rfl, by0⟩
  replace K2 := Lib.hid (K2.out.below by0)
  replace K4 := Lib.hid (K4.out.below by0)
  replace BB := Lib.hid (bt BB.out by0)
  clear by0 CN
  go_wp2_with ((with_reducible show wpList _ _ _ (⟨_, .store 40 _ _, _, _, _, none⟩ :: _) _ _); (with_reducible refine wpBlk_store (g := g4) (cs := (repV nl)) agg_rep ?_ ?_ K4 ?_ ?_ ?_ ?_); (· exact wanted0 rfl); (· exact ⟨rfl, rfl, rfl⟩); (· rfl); (· exact repV_size _); (· exact repV_one _); refine Marker.mk ?_)
  refine Marker.in ?_
  replace K2 := Lib.hid (K2.out.setRow_other g4 (repV nl) (by omega))
  replace K4 := Lib.hid (K4.out.setRow (repV nl))
  replace BB := Lib.hid (below_setRow (g := g4) BB.out (by omega) (repV nl))
  generalize y0.setRow g4 (repV nl) = y1 at *
  go_wp2_with ((with_reducible show wpList _ _ _ (⟨_, .load 40 _, _, _, _, none⟩ :: _) _ _); (with_reducible refine wpBlk_load (g := g4) agg_rep ?_ ?_ K4 ?_ ?_); (· exact wanted0 rfl); (· exact ⟨rfl, rfl⟩); (· exact repV_size _))
  ((with_reducible refine (RP.out _).mono ?_))
  rintro e' y2 ⟨hpost, by2⟩
  replace K2 := Lib.hid (K2.out.below by2)
  replace K4 := Lib.hid (K4.out.below by2)
  replace BB := Lib.hid (bt BB.out by2)
  clear by2 RP
  cases hput : putR8 nl with
  | none =>
    rw [hput] at hpost
    obtain rfl := hpost
    have hres := HBY.out
    rw [hput, if_neg (by intro h; cases h)] at hres
    replace hres := Lib.hid hres
    clear hput
    go_wp2_with (first | ((with_reducible show wpList _ _ _ (⟨some 113, _, _, _, _, _⟩ :: _) _ _); refine wpList_build' rfl 40 _ rfl (repV (z14 0)) built_rzero ?_) | ((with_reducible show wpList _ _ _ (⟨_, .store 40 _ _, _, _, _, none⟩ :: _) _ _); (with_reducible refine wpBlk_store (g := w.heap.size) (cs := (repV (z14 0))) agg_rep ?_ ?_ K2 ?_ ?_ ?_ ?_); (· exact wanted0 rfl); (· exact ⟨rfl, rfl, rfl⟩); (· exact repV_size _); (· exact repV_size _); (· exact repV_one _)))
    refine bodyPost_ret (v := .tuple #[.agg (repV (z14 0)), .int .i64 13]) (results_ct agg_rep rfl _ _ w.heap.size _ _ rfl rfl (K2.out.setRow _) (repV_size _)) rfl ⟨?_, below_setRow BB.out (by omega) _⟩
    rw [hres.out]
  | some ps =>
    rw [hput] at hpost
    obtain ⟨A6, c6, base6, rfl, o6⟩ := hpost
    have hres := HBY.out
    rw [hput] at hres
    have hq := str_ne o6.2 HR.out.2
    have RB := Lib.hid (row_below HR.out BB.out)
    have v1 : (convert 27 9 (.slice A6 ps.length c6)).run Try.prog y2 = .ok (.string (strOfNums ps)) y2 := conv_row ps.length c6 rfl o6.row
    have v2 : (convert 27 9 (.slice B n c)).run Try.prog y2 = .ok (.string (strOfNums bs)) y2 := conv_row n c HN.out RB.out
    clear hput
    by_cases hb : ps = bs
    · rw [hb, if_pos rfl] at hres
      replace hres := Lib.hid hres
      rw [decide_eq_true hb] at hq
      generalize strOfNums ps = s1 at *
      generalize strOfNums bs = s2 at *
      generalize ps.length = np at *
      clear hb o6
      go_wp2_with (first | ((with_reducible show wpList _ _ _ (⟨_, .load 40 _, _, _, _, none⟩ :: _) _ _); (with_reducible refine wpBlk_load (g := g4) agg_rep ?_ ?_ K4 ?_ ?_); (· exact wanted0 rfl); (· exact ⟨rfl, rfl⟩); (· exact repV_size _)) | ((with_reducible show wpList _ _ _ (⟨_, .store 40 _ _, _, _, _, none⟩ :: _) _ _); (with_reducible refine wpBlk_store (g := w.heap.size) (cs := (repV nl)) agg_rep ?_ ?_ K2 ?_ ?_ ?_ ?_); (· exact wanted0 rfl); (· exact ⟨rfl, rfl, rfl⟩); (· exact repV_size _); (· exact repV_size _); (· exact repV_one _)))
      refine bodyPost_ret (v := .tuple #[.agg (repV nl), .int .i64 0]) (results_ct agg_rep rfl _ _ w.heap.size _ _ rfl rfl (K2.out.setRow _) (repV_size _)) rfl ⟨?_, below_setRow BB.out (by omega) _⟩
      rw [hres.out]
    · rw [if_neg (fun h => hb (Option.some.inj h))] at hres
      replace hres := Lib.hid hres
      rw [decide_eq_false hb] at hq
      generalize strOfNums ps = s1 at *
      generalize strOfNums bs = s2 at *
      generalize ps.length = np at *
      clear hb o6
      go_wp2_with (first | ((with_reducible show wpList _ _ _ (⟨some 113, _, _, _, _, _⟩ :: _) _ _); refine wpList_build' rfl 40 _ rfl (repV (z14 0)) built_rzero ?_) | ((with_reducible show wpList _ _ _ (⟨_, .store 40 _ _, _, _, _, none⟩ :: _) _ _); (with_reducible refine wpBlk_store (g := w.heap.size) (cs := (repV (z14 0))) agg_rep ?_ ?_ K2 ?_ ?_ ?_ ?_); (· exact wanted0 rfl); (· exact ⟨rfl, rfl, rfl⟩); (· exact repV_size _); (· exact repV_size _); (· exact repV_one _)))
      refine bodyPost_ret (v := .tuple #[.agg (repV (z14 0)), .int .i64 13]) (results_ct agg_rep rfl _ _ w.heap.size _ _ rfl rfl (K2.out.setRow _) (repV_size _)) rfl ⟨?_, below_setRow BB.out (by omega) _⟩
      rw [hres.out]
set_option maxRecDepth 100000 in
set_option maxHeartbeats 6400000 in
theorem rqt_135 (bs : List Int) (B : Option Addr) (n c : Nat) (hn : bs.length = n) (h16 : n ≤ 9) (h0 : bs.getD 0 0 = 135) (w : World) (hr : Row w B bs) :
    Calls Try.prog 19 #[.slice B n c] w (TakeRR bs w) := by
  have hby := takeR8_by hr.2
  obtain ⟨b0, e0⟩ : ∃ b, b = bs.getD 0 0 := ⟨_, rfl⟩
  obtain ⟨b1, e1⟩ : ∃ b, b = bs.getD 1 0 := ⟨_, rfl⟩
  have r1 : 0 ≤ b1 ∧ b1 ≤ 255 := by rw [e1]; exact getB hr.2 1
  obtain ⟨b2, e2⟩ : ∃ b, b = bs.getD 2 0 := ⟨_, rfl⟩
  have r2 : 0 ≤ b2 ∧ b2 ≤ 255 := by rw [e2]; exact getB hr.2 2
  obtain ⟨b3, e3⟩ : ∃ b, b = bs.getD 3 0 := ⟨_, rfl⟩
  have r3 : 0 ≤ b3 ∧ b3 ≤ 255 := by rw [e3]; exact getB hr.2 3
  have AT0 : Hid (∀ W, Below w.heap.size w W → Calls Try.prog 28 #[.slice B n c, .int .i64 0] W fun e w' => e = .returned (.int .i64 b0) ∧ W = w') := Lib.hid (fun W h => by have := at_any bs B n c hn 0 W (row_below hr h); rw [← e0] at this; exact this)
  have AT1 : Hid (∀ W, Below w.heap.size w W → Calls Try.prog 28 #[.slice B n c, .int .i64 1] W fun e w' => e = .returned (.int .i64 b1) ∧ W = w') := Lib.hid (fun W h => by have := at_any bs B n c hn 1 W (row_below hr h); rw [← e1] at this; exact this)
  have AT2 : Hid (∀ W, Below w.heap.size w W → Calls Try.prog 28 #[.slice B n c, .int .i64 2] W fun e w' => e = .returned (.int .i64 b2) ∧ W = w') := Lib.hid (fun W h => by have := at_any bs B n c hn 2 W (row_below hr h); rw [← e2] at this; exact this)
  have AT3 : Hid (∀ W, Below w.heap.size w W → Calls Try.prog 28 #[.slice B n c, .int .i64 3] W fun e w' => e = .returned (.int .i64 b3) ∧ W = w') := Lib.hid (fun W h => by have := at_any bs B n c hn 3 W (row_below hr h); rw [← e3] at this; exact this)
  have hdec : decR bs = [135, 0, 0, b1, (256 * b2 + b3), 0, 0, 0, 0, 0, 0, 0, 0, 0] := by
    rw [decR_135 h0, ← e1, ← e2, ← e3]
  have CN : Hid (∀ W, Calls Try.prog 32 #[.agg #[.int .i64 135, .int .i64 0, .int .i64 0, .int .i64 b1, .int .i64 (256 * b2 + b3), .int .i64 0, .int .u8 0, .int .u8 0, .int .u8 0, .int .u8 0, .int .u8 0, .int .u8 0, .int .u8 0, .int .u8 0]] W fun e' w' => e' = .returned (.agg (repV (decR bs))) ∧ Below W.heap.size W w') := Lib.hid fun W => by
    rw [hdec]
    exact replies_135 0 0 b1 (256 * b2 + b3) 0 0 0 0 0 0 0 0 0 W
  have hrep := isRep_decR hr.2
  have RP := Lib.hid (fun W => rq_any (decR bs) hrep W)
  have HBY := Lib.hid hby
  have HR := Lib.hid hr
  have HN := Lib.hid hn
  have k0 : b0 = 135 := by rw [e0, h0]
  rw [k0] at AT0
  clear h0 hdec hby hrep e0 e1 e2 e3 hr hn k0
  generalize decR bs = nl at *
  obtain ⟨r1a, r1b⟩ := r1
  obtain ⟨r2a, r2b⟩ := r2
  obtain ⟨r3a, r3b⟩ := r3
  have t16 : decide ((9 : Int) < n) = false := decide_eq_false (by omega)
  go_enter Try.func19, Try.ntmps19
  go_wp2_with fail
  ((with_reducible refine (AT0.out _ (below_alloc1 w _)).mono ?_))
  rintro e' w' ⟨rfl, rfl⟩
  go_wp2_with fail
  ((with_reducible refine (AT1.out _ (below_alloc2 w _ _)).mono ?_))
  rintro e' w' ⟨rfl, rfl⟩
  go_wp2_with fail
  ((with_reducible refine (AT2.out _ (below_alloc2 w _ _)).mono ?_))
  rintro e' w' ⟨rfl, rfl⟩
  go_wp2_with fail
  ((with_reducible refine (AT3.out _ (below_alloc2 w _ _)).mono ?_))
  rintro e' w' ⟨rfl, rfl⟩
  go_wp2_with fail
  have BB := Lib.hid (below_alloc2 w (.cells #[.int .i64 0, .int .i64 0, .int .i64 0, .int .i64 0, .int .i64 0, .int .i64 0, .int .u8 0, .int .u8 0, .int .u8 0, .int .u8 0, .int .u8 0, .int .u8 0, .int .u8 0, .int .u8 0] 40) (.cells #[.int .i64 135, .int .i64 0, .int .i64 0, .int .i64 b1, .int .i64 (256 * b2 + b3), .int .i64 0, .int .u8 0, .int .u8 0, .int .u8 0, .int .u8 0, .int .u8 0, .int .u8 0, .int .u8 0, .int .u8 0] 40))
  have K2 : Hid (Blk ((w.alloc (.cells #[.int .i64 0, .int .i64 0, .int .i64 0, .int .i64 0, .int .i64 0, .int .i64 0, .int .u8 0, .int .u8 0, .int .u8 0, .int .u8 0, .int .u8 0, .int .u8 0, .int .u8 0, .int .u8 0] 40)).alloc (.cells #[.int .i64 135, .int .i64 0, .int .i64 0, .int .i64 b1, .int .i64 (256 * b2 + b3), .int .i64 0, .int .u8 0, .int .u8 0, .int .u8 0, .int .u8 0, .int .u8 0, .int .u8 0, .int .u8 0, .int .u8 0] 40)) w.heap.size (repV (z14 0)) 40) := Lib.hid ((Blk.new w #[.int .i64 0, .int .i64 0, .int .i64 0, .int .i64 0, .int .i64 0, .int .i64 0, .int .u8 0, .int .u8 0, .int .u8 0, .int .u8 0, .int .u8 0, .int .u8 0, .int .u8 0, .int .u8 0] 40).alloc _)
  have K4 := Lib.hid (Blk.new' (w.alloc (.cells #[.int .i64 0, .int .i64 0, .int .i64 0, .int .i64 0, .int .i64 0, .int .i64 0, .int .u8 0, .int .u8 0, .int .u8 0, .int .u8 0, .int .u8 0, .int .u8 0, .int .u8 0, .int .u8 0] 40)) #[.int .i64 135, .int .i64 0, .int .i64 0, .int .i64 b1, .int .i64 (256 * b2 + b3), .int .i64 0, .int .u8 0, .int .u8 0, .int .u8 0, .int .u8 0, .int .u8 0, .int .u8 0, .int .u8 0, .int .u8 0] 40 (g := w.heap.size + 1) (by simp))
  have l0 := K2.out.lt
  generalize (w.alloc (.cells #[.int .i64 0, .int .i64 0, .int .i64 0, .int .i64 0, .int .i64 0, .int .i64 0, .int .u8 0, .int .u8 0, .int .u8 0, .int .u8 0, .int .u8 0, .int .u8 0, .int .u8 0, .int .u8 0] 40)).alloc (.cells #[.int .i64 135, .int .i64 0, .int .i64 0, .int .i64 b1, .int .i64 (256 * b2 + b3), .int .i64 0, .int .u8 0, .int .u8 0, .int .u8 0, .int .u8 0, .int .u8 0, .int .u8 0, .int .u8 0, .int .u8 0] 40) = v4 at *
  generalize hg4 : w.heap.size + 1 = g4 at *
  have lg : w.heap.size < g4 := by omega
  ((with_reducible refine (CN.out _).mono ?_))
  rintro e' y0 ⟨rfl, by0⟩
  replace K2 := Lib.hid (K2.out.below by0)
  replace K4 := Lib.hid (K4.out.below by0)
  replace BB := Lib.hid (bt BB.out by0)
  clear by0 CN
  go_wp2_with ((with_reducible show wpList _ _ _ (⟨_, .store 40 _ _, _, _, _, none⟩ :: _) _ _); (with_reducible refine wpBlk_store (g := g4) (cs := (repV nl)) agg_rep ?_ ?_ K4 ?_ ?_ ?_ ?_); (· exact wanted0 rfl); (· exact ⟨rfl, rfl, rfl⟩); (· rfl); (· exact repV_size _); (· exact repV_one _); refine Marker.mk ?_)
  refine Marker.in ?_
  replace K2 := Lib.hid (K2.out.setRow_other g4 (repV nl) (by omega))
  replace K4 := Lib.hid (K4.out.setRow (repV nl))
  replace BB := Lib.hid (below_setRow (g := g4) BB.out (by omega) (repV nl))
  generalize y0.setRow g4 (repV nl) = y1 at *
  go_wp2_with ((with_reducible show wpList _ _ _ (⟨_, .load 40 _, _, _, _, none⟩ :: _) _ _); (with_reducible refine wpBlk_load (g := g4) agg_rep ?_ ?_ K4 ?_ ?_); (· exact wanted0 rfl); (· exact ⟨rfl, rfl⟩); (· exact repV_size _))
  ((with_reducible refine (RP.out _).mono ?_))
  rintro e' y2 ⟨hpost, by2⟩
  replace K2 := Lib.hid (K2.out.below by2)
  replace K4 := Lib.hid (K4.out.below by2)
  replace BB := Lib.hid (bt BB.out by2)
  clear by2 RP
  cases hput : putR8 nl with
  | none =>
    rw [hput] at hpost
    obtain rfl := hpost
    have hres := HBY.out
    rw [hput, if_neg (by intro h; cases h)] at hres
    replace hres := Lib.hid hres
    clear hput
    go_wp2_with (first | ((with_reducible show wpList _ _ _ (⟨some 113, _, _, _, _, _⟩ :: _) _ _); refine wpList_build' rfl 40 _ rfl (repV (z14 0)) built_rzero ?_) | ((with_reducible show wpList _ _ _ (⟨_, .store 40 _ _, _, _, _, none⟩ :: _) _ _); (with_reducible refine wpBlk_store (g := w.heap.size) (cs := (repV (z14 0))) agg_rep ?_ ?_ K2 ?_ ?_ ?_ ?_); (· exact wanted0 rfl); (· exact ⟨rfl, rfl, rfl⟩); (· exact repV_size _); (· exact repV_size _); (· exact repV_one _)))
    refine bodyPost_ret (v := .tuple #[.agg (repV (z14 0)), .int .i64 13]) (results_ct agg_rep rfl _ _ w.heap.size _ _ rfl rfl (K2.out.setRow _) (repV_size _)) rfl ⟨?_, below_setRow BB.out (by omega) _⟩
    rw [hres.out]
  | some ps =>
    rw [hput] at hpost
    obtain ⟨A6, c6, base6, rfl, o6⟩ := hpost
    have hres := HBY.out
    rw [hput] at hres
    have hq := str_ne o6.2 HR.out.2
    have RB := Lib.hid (row_below HR.out BB.out)
    have v1 : (convert 27 9 (.slice A6 ps.length c6)).run Try.prog y2 = .ok (.string (strOfNums ps)) y2 := conv_row ps.length c6 rfl o6.row
    have v2 : (convert 27 9 (.slice B n c)).run Try.prog y2 = .ok (.string (strOfNums bs)) y2 := conv_row n c HN.out RB.out
    clear hput
    by_cases hb : ps = bs
    · rw [hb, if_pos rfl] at hres
      replace hres := Lib.hid hres
      rw [decide_eq_true hb] at hq
      generalize strOfNums ps = s1 at *
      generalize strOfNums bs = s2 at *
      generalize ps.length = np at *
      clear hb o6
      go_wp2_with (first | ((with_reducible show wpList _ _ _ (⟨_, .load 40 _, _, _, _, none⟩ :: _) _ _); (with_reducible refine wpBlk_load (g := g4) agg_rep ?_ ?_ K4 ?_ ?_); (· exact wanted0 rfl); (· exact ⟨rfl, rfl⟩); (· exact repV_size _)) | ((with_reducible show wpList _ _ _ (⟨_, .store 40 _ _, _, _, _, none⟩ :: _) _ _); (with_reducible refine wpBlk_store (g := w.heap.size) (cs := (repV nl)) agg_rep ?_ ?_ K2 ?_ ?_ ?_ ?_); (· exact wanted0 rfl); (· exact ⟨rfl, rfl, rfl⟩); (· exact repV_size _); (· exact repV_size _); (· exact repV_one _)))
      refine bodyPost_ret (v := .tuple #[.agg (repV nl), .int .i64 0]) (results_ct agg_rep rfl _ _ w.heap.size _ _ rfl rfl (K2.out.setRow _) (repV_size _)) rfl ⟨?_, below_setRow BB.out (by omega) _⟩
      rw [hres.out]
    · rw [if_neg (fun h => hb (Option.some.inj h))] at hres
      replace hres := Lib.hid hres
      rw [decide_eq_false hb] at hq
      generalize strOfNums ps = s1 at *
      generalize strOfNums bs = s2 at *
      generalize ps.length = np at *
      clear hb o6
      go_wp2_with (first | ((with_reducible show wpList _ _ _ (⟨some 113, _, _, _, _, _⟩ :: _) _ _); refine wpList_build' rfl 40 _ rfl (repV (z14 0)) built_rzero ?_) | ((with_reducible show wpList _ _ _ (⟨_, .store 40 _ _, _, _, _, none⟩ :: _) _ _); (with_reducible refine wpBlk_store (g := w.heap.size) (cs := (repV (z14 0))) agg_rep ?_ ?_ K2 ?_ ?_ ?_ ?_); (· exact wanted0 rfl); (· exact ⟨rfl, rfl, rfl⟩); (· exact repV_size _); (· exact repV_size _); (· exact repV_one _)))
      refine bodyPost_ret (v := .tuple #[.agg (repV (z14 0)), .int .i64 13]) (results_ct agg_rep rfl _ _ w.heap.size _ _ rfl rfl (K2.out.setRow _) (repV_size _)) rfl ⟨?_, below_setRow BB.out (by omega) _⟩
      rw [hres.out]
set_option maxRecDepth 100000 in
set_option maxHeartbeats 6400000 in
theorem rqt_136 (bs : List Int) (B : Option Addr) (n c : Nat) (hn : bs.length = n) (h16 : n ≤ 9) (h0 : bs.getD 0 0 = 136) (w : World) (hr : Row w B bs) :
    Calls Try.prog 19 #[.slice B n c] w (TakeRR bs w) := by
  have hby := takeR8_by hr.2
  obtain ⟨b0, e0⟩ : ∃ b, b = bs.getD 0 0 := ⟨_, rfl⟩
  obtain ⟨b1, e1⟩ : ∃ b, b = bs.getD 1 0 := ⟨_, rfl⟩
  have r1 : 0 ≤ b1 ∧ b1 ≤ 255 := by rw [e1]; exact getB hr.2 1
  obtain ⟨b2, e2⟩ : ∃ b, b = bs.getD 2 0 := ⟨_, rfl⟩
  have r2 : 0 ≤ b2 ∧ b2 ≤ 255 := by rw [e2]; exact getB hr.2 2
  have AT0 : Hid (∀ W, Below w.heap.size w W → Calls Try.prog 28 #[.slice B n c, .int .i64 0] W fun e w' => e = .returned (.int .i64 b0) ∧ W = w') := Lib.hid (fun W h => by have := at_any bs B n c hn 0 W (row_below hr h); rw [← e0] at this; exact this)
  have AT1 : Hid (∀ W, Below w.heap.size w W → Calls Try.prog 28 #[.slice B n c, .int .i64 1] W fun e w' => e = .returned (.int .i64 b1) ∧ W = w') := Lib.hid (fun W h => by have := at_any bs B n c hn 1 W (row_below hr h); rw [← e1] at this; exact this)
  have AT2 : Hid (∀ W, Below w.heap.size w W → Calls Try.prog 28 #[.slice B n c, .int .i64 2] W fun e w' => e = .returned (.int .i64 b2) ∧ W = w') := Lib.hid (fun W h => by have := at_any bs B n c hn 2 W (row_below hr h); rw [← e2] at this; exact this)
  have hdec : decR bs = [136, 0, 0, b1, 0, b2, 0, 0, 0, 0, 0, 0, 0, 0] := by
    rw [decR_136 h0, ← e1, ← e2]
  have CN : Hid (∀ W, Calls Try.prog 32 #[.agg #[.int .i64 136, .int .i64 0, .int .i64 0, .int .i64 b1, .int .i64 0, .int .i64 b2, .int .u8 0, .int .u8 0, .int .u8 0, .int .u8 0, .int .u8 0, .int .u8 0, .int .u8 0, .int .u8 0]] W fun e' w' => e' = .returned (.agg (repV (decR bs))) ∧ Below W.heap.size W w') := Lib.hid fun W => by
    rw [hdec]
    exact replies_136 0 0 b1 0 b2 0 0 0 0 0 0 0 0 W
  have hrep := isRep_decR hr.2
  have RP := Lib.hid (fun W => rq_any (decR bs) hrep W)
  have HBY := Lib.hid hby
  have HR := Lib.hid hr
  have HN := Lib.hid hn
  have k0 : b0 = 136 := by rw [e0, h0]
  rw [k0] at AT0
  clear h0 hdec hby hrep e0 e1 e2 hr hn k0
  generalize decR bs = nl at *
  obtain ⟨r1a, r1b⟩ := r1
  obtain ⟨r2a, r2b⟩ := r2
  have t16 : decide ((9 : Int) < n) = false := decide_eq_false (by omega)
  go_enter Try.func19, Try.ntmps19
  go_wp2_with fail
  ((with_reducible refine (AT0.out _ (below_alloc1 w _)).mono ?_))
  rintro e' w' ⟨rfl, rfl⟩
  go_wp2_with fail
  ((with_reducible refine (AT1.out _ (below_alloc2 w _ _)).mono ?_))
  rintro e' w' ⟨rfl, rfl⟩
  go_wp2_with fail
  ((with_reducible refine (AT2.out _ (below_alloc2 w _ _)).mono ?_))
  rintro e' w' ⟨rfl, rfl⟩
  go_wp2_with fail
  have BB := Lib.hid (below_alloc2 w (.cells #[.int .i64 0, .int .i64 0, .int .i64 0, .int .i64 0, .int .i64 0, .int .i64 0, .int .u8 0, .int .u8 0, .int .u8 0, .int .u8 0, .int .u8 0, .int .u8 0, .int .u8 0, .int .u8 0] 40) (.cells #[.int .i64 136, .int .i64 0, .int .i64 0, .int .i64 b1, .int .i64 0, .int .i64 b2, .int .u8 0, .int .u8 0, .int .u8 0, .int .u8 0, .int .u8 0, .int .u8 0, .int .u8 0, .int .u8 0] 40))
  have K2 : Hid (Blk ((w.alloc (.cells #[.int .i64 0, .int .i64 0, .int .i64 0, .int .i64 0, .int .i64 0, .int .i64 0, .int .u8 0, .int .u8 0, .int .u8 0, .int .u8 0, .int .u8 0, .int .u8 0, .int .u8 0, .int .u8 0] 40)).alloc (.cells #[.int .i64 136, .int .i64 0, .int .i64 0, .int .i64 b1, .int .i64 0, .int .i64 b2, .int .u8 0, .int .u8 0, .int .u8 0, .int .u8 0, .int .u8 0, .int .u8 0, .int .u8 0, .int .u8 0] 40)) w.heap.size (repV (z14 0)) 40) := Lib.hid ((Blk.new w #[.int .i64 0, .int .i64 0, .int .i64 0, .int .i64 0, .int .i64 0, .int .i64 0, .int .u8 0, .int .u8 0, .int .u8 0, .int .u8 0, .int .u8 0, .int .u8 0, .int .u8 0, .int .u8 0] 40).alloc _)
  have K4 := Lib.hid (Blk.new' (w.alloc (.cells #[.int .i64 0, .int .i64 0, .int .i64 0, .int .i64 0, .int .i64 0, .int .i64 0, .int .u8 0, .int .u8 0, .int .u8 0, .int .u8 0, .int .u8 0, .int .u8 0, .int .u8 0, .int .u8 0] 40)) #[.int .i64 136, .int .i64 0, .int .i64 0, .int .i64 b1, .int .i64 0, .int .i64 b2, .int .u8 0, .int .u8 0, .int .u8 0, .int .u8 0, .int .u8 0, .int .u8 0, .int .u8 0, .int .u8 0] 40 (g := w.heap.size + 1) (by simp))
  have l0 := K2.out.lt
  generalize (w.alloc (.cells #[.int .i64 0, .int .i64 0, .int .i64 0, .int .i64 0, .int .i64 0, .int .i64 0, .int .u8 0, .int .u8 0, .int .u8 0, .int .u8 0, .int .u8 0, .int .u8 0, .int .u8 0, .int .u8 0] 40)).alloc (.cells #[.int .i64 136, .int .i64 0, .int .i64 0, .int .i64 b1, .int .i64 0, .int .i64 b2, .int .u8 0, .int .u8 0, .int .u8 0, .int .u8 0, .int .u8 0, .int .u8 0, .int .u8 0, .int .u8 0] 40) = v4 at *
  generalize hg4 : w.heap.size + 1 = g4 at *
  have lg : w.heap.size < g4 := by omega
  ((with_reducible refine (CN.out _).mono ?_))
  rintro e' y0 ⟨rfl, by0⟩
  replace K2 := Lib.hid (K2.out.below by0)
  replace K4 := Lib.hid (K4.out.below by0)
  replace BB := Lib.hid (bt BB.out by0)
  clear by0 CN
  go_wp2_with ((with_reducible show wpList _ _ _ (⟨_, .store 40 _ _, _, _, _, none⟩ :: _) _ _); (with_reducible refine wpBlk_store (g := g4) (cs := (repV nl)) agg_rep ?_ ?_ K4 ?_ ?_ ?_ ?_); (· exact wanted0 rfl); (· exact ⟨rfl, rfl, rfl⟩); (· rfl); (· exact repV_size _); (· exact repV_one _); refine Marker.mk ?_)
  refine Marker.in ?_
  replace K2 := Lib.hid (K2.out.setRow_other g4 (repV nl) (by omega))
  replace K4 := Lib.hid (K4.out.setRow (repV nl))
  replace BB := Lib.hid (below_setRow (g := g4) BB.out (by omega) (repV nl))
  generalize y0.setRow g4 (repV nl) = y1 at *
  go_wp2_with ((with_reducible show wpList _ _ _ (⟨_, .load 40 _, _, _, _, none⟩ :: _) _ _); (with_reducible refine wpBlk_load (g := g4) agg_rep ?_ ?_ K4 ?_ ?_); (· exact wanted0 rfl); (· exact ⟨rfl, rfl⟩); (· exact repV_size _))
  ((with_reducible refine (RP.out _).mono ?_))
  rintro e' y2 ⟨hpost, by2⟩
  replace K2 := Lib.hid (K2.out.below by2)
  replace K4 := Lib.hid (K4.out.below by2)
  replace BB := Lib.hid (bt BB.out by2)
  clear by2 RP
  cases hput : putR8 nl with
  | none =>
    rw [hput] at hpost
    obtain rfl := hpost
    have hres := HBY.out
    rw [hput, if_neg (by intro h; cases h)] at hres
    replace hres := Lib.hid hres
    clear hput
    go_wp2_with (first | ((with_reducible show wpList _ _ _ (⟨some 113, _, _, _, _, _⟩ :: _) _ _); refine wpList_build' rfl 40 _ rfl (repV (z14 0)) built_rzero ?_) | ((with_reducible show wpList _ _ _ (⟨_, .store 40 _ _, _, _, _, none⟩ :: _) _ _); (with_reducible refine wpBlk_store (g := w.heap.size) (cs := (repV (z14 0))) agg_rep ?_ ?_ K2 ?_ ?_ ?_ ?_); (· exact wanted0 rfl); (· exact ⟨rfl, rfl, rfl⟩); (· exact repV_size _); (· exact repV_size _); (· exact repV_one _)))
    refine bodyPost_ret (v := .tuple #[.agg (repV (z14 0)), .int .i64 13]) (results_ct agg_rep rfl _ _ w.heap.size _ _ rfl rfl (K2.out.setRow _) (repV_size _)) rfl ⟨?_, below_setRow BB.out (by omega) _⟩
    rw [hres.out]
  | some ps =>
    rw [hput] at hpost
    obtain ⟨A6, c6, base6, rfl, o6⟩ := hpost
    have hres := HBY.out
    rw [hput] at hres
    have hq := str_ne o6.2 HR.out.2
    have RB := Lib.hid (row_below HR.out BB.out)
    have v1 : (convert 27 9 (.slice A6 ps.length c6)).run Try.prog y2 = .ok (.string (strOfNums ps)) y2 := conv_row ps.length c6 rfl o6.row
    have v2 : (convert 27 9 (.slice B n c)).run Try.prog y2 = .ok (.string (strOfNums bs)) y2 := conv_row n c HN.out RB.out
    clear hput
    by_cases hb : ps = bs
    · rw [hb, if_pos rfl] at hres
      replace hres := Lib.hid hres
      rw [decide_eq_true hb] at hq
      generalize strOfNums ps = s1 at *
      generalize strOfNums bs = s2 at *
      generalize ps.length = np at *
      clear hb o6
      go_wp2_with (first | ((with_reducible show wpList _ _ _ (⟨_, .load 40 _, _, _, _, none⟩ :: _) _ _); (with_reducible refine wpBlk_load (g := g4) agg_rep ?_ ?_ K4 ?_ ?_); (· exact wanted0 rfl); (· exact ⟨rfl, rfl⟩); (· exact repV_size _)) | ((with_reducible show wpList _ _ _ (⟨_, .store 40 _ _, _, _, _, none⟩ :: _) _ _); (with_reducible refine wpBlk_store (g := w.heap.size) (cs := (repV nl)) agg_rep ?_ ?_ K2 ?_ ?_ ?_ ?_); (· exact wanted0 rfl); (· exact ⟨rfl, rfl, rfl⟩); (· exact repV_size _); (· exact repV_size _); (· exact repV_one _)))
      refine bodyPost_ret (v := .tuple #[.agg (repV nl), .int .i64 0]) (results_ct agg_rep rfl _ _ w.heap.size _ _ rfl rfl (K2.out.setRow _) (repV_size _)) rfl ⟨?_, below_setRow BB.out (by omega) _⟩
      rw [hres.out]
    · rw [if_neg (fun h => hb (Option.some.inj h))] at hres
      replace hres := Lib.hid hres
      rw [decide_eq_false hb] at hq
      generalize strOfNums ps = s1 at *
      generalize strOfNums bs = s2 at *
      generalize ps.length = np at *
      clear hb o6
      go_wp2_with (first | ((with_reducible show wpList _ _ _ (⟨some 113, _, _, _, _, _⟩ :: _) _ _); refine wpList_build' rfl 40 _ rfl (repV (z14 0)) built_rzero ?_) | ((with_reducible show wpList _ _ _ (⟨_, .store 40 _ _, _, _, _, none⟩ :: _) _ _); (with_reducible refine wpBlk_store (g := w.heap.size) (cs := (repV (z14 0))) agg_rep ?_ ?_ K2 ?_ ?_ ?_ ?_); (· exact wanted0 rfl); (· exact ⟨rfl, rfl, rfl⟩); (· exact repV_size _); (· exact repV_size _); (· exact repV_one _)))
      refine bodyPost_ret (v := .tuple #[.agg (repV (z14 0)), .int .i64 13]) (results_ct agg_rep rfl _ _ w.heap.size _ _ rfl rfl (K2.out.setRow _) (repV_size _)) rfl ⟨?_, below_setRow BB.out (by omega) _⟩
      rw [hres.out]
set_option maxRecDepth 100000 in
set_option maxHeartbeats 6400000 in
theorem rqt_other (bs : List Int) (B : Option Addr) (n c : Nat) (hn : bs.length = n) (h16 : n ≤ 9) (h0 : bs.getD 0 0 < 129 ∨ 136 < bs.getD 0 0) (w : World) (hr : Row w B bs) :
    Calls Try.prog 19 #[.slice B n c] w (TakeRR bs w) := by
  have hby := takeR8_by hr.2
  obtain ⟨b0, e0⟩ : ∃ b, b = bs.getD 0 0 := ⟨_, rfl⟩
  have AT0 : Hid (∀ W, Below w.heap.size w W → Calls Try.prog 28 #[.slice B n c, .int .i64 0] W fun e w' => e = .returned (.int .i64 b0) ∧ W = w') := Lib.hid (fun W h => by have := at_any bs B n c hn 0 W (row_below hr h); rw [← e0] at this; exact this)
  have hdec : decR bs = z14 b0 := by
    unfold decR
    rw [if_neg (by omega)]
    rw [if_neg (by omega)]
    rw [if_neg (by omega)]
    rw [if_neg (by omega)]
    rw [if_neg (by omega)]
    rw [if_neg (by omega)]
    rw [if_neg (by omega)]
    rw [if_neg (by omega)]
    rw [← e0]
  have CN : Hid (∀ W, Calls Try.prog 32 #[.agg #[.int .i64 b0, .int .i64 0, .int .i64 0, .int .i64 0, .int .i64 0, .int .i64 0, .int .u8 0, .int .u8 0, .int .u8 0, .int .u8 0, .int .u8 0, .int .u8 0, .int .u8 0, .int .u8 0]] W fun e' w' => e' = .returned (.agg (repV (decR bs))) ∧ Below W.heap.size W w') := Lib.hid fun W => by
    rw [hdec]
    exact replies_other b0 (by omega) W
  have hrep := isRep_decR hr.2
  have RP := Lib.hid (fun W => rq_any (decR bs) hrep W)
  have HBY := Lib.hid hby
  have HR := Lib.hid hr
  have HN := Lib.hid hn
  have q129 : (b0 == 129) = false := by rw [e0]; exact beq_eq_false_iff_ne.2 (by omega)
  have q130 : (b0 == 130) = false := by rw [e0]; exact beq_eq_false_iff_ne.2 (by omega)
  have q131 : (b0 == 131) = false := by rw [e0]; exact beq_eq_false_iff_ne.2 (by omega)
  have q132 : (b0 == 132) = false := by rw [e0]; exact beq_eq_false_iff_ne.2 (by omega)
  have q133 : (b0 == 133) = false := by rw [e0]; exact beq_eq_false_iff_ne.2 (by omega)
  have q134 : (b0 == 134) = false := by rw [e0]; exact beq_eq_false_iff_ne.2 (by omega)
  have q135 : (b0 == 135) = false := by rw [e0]; exact beq_eq_false_iff_ne.2 (by omega)
  have q136 : (b0 == 136) = false := by rw [e0]; exact beq_eq_false_iff_ne.2 (by omega)
  clear h0 hdec hby hrep e0 hr hn
  generalize decR bs = nl at *
  have t16 : decide ((9 : Int) < n) = false := decide_eq_false (by omega)
  go_enter Try.func19, Try.ntmps19
  go_wp2_with fail
  ((with_reducible refine (AT0.out _ (below_alloc1 w _)).mono ?_))
  rintro e' w' ⟨rfl, rfl⟩
  go_wp2_with fail
  have BB := Lib.hid (below_alloc2 w (.cells #[.int .i64 0, .int .i64 0, .int .i64 0, .int .i64 0, .int .i64 0, .int .i64 0, .int .u8 0, .int .u8 0, .int .u8 0, .int .u8 0, .int .u8 0, .int .u8 0, .int .u8 0, .int .u8 0] 40) (.cells #[.int .i64 b0, .int .i64 0, .int .i64 0, .int .i64 0, .int .i64 0, .int .i64 0, .int .u8 0, .int .u8 0, .int .u8 0, .int .u8 0, .int .u8 0, .int .u8 0, .int .u8 0, .int .u8 0] 40))
  have K2 : Hid (Blk ((w.alloc (.cells #[.int .i64 0, .int .i64 0, .int .i64 0, .int .i64 0, .int .i64 0, .int .i64 0, .int .u8 0, .int .u8 0, .int .u8 0, .int .u8 0, .int .u8 0, .int .u8 0, .int .u8 0, .int .u8 0] 40)).alloc (.cells #[.int .i64 b0, .int .i64 0, .int .i64 0, .int .i64 0, .int .i64 0, .int .i64 0, .int .u8 0, .int .u8 0, .int .u8 0, .int .u8 0, .int .u8 0, .int .u8 0, .int .u8 0, .int .u8 0] 40)) w.heap.size (repV (z14 0)) 40) := Lib.hid ((Blk.new w #[.int .i64 0, .int .i64 0, .int .i64 0, .int .i64 0, .int .i64 0, .int .i64 0, .int .u8 0, .int .u8 0, .int .u8 0, .int .u8 0, .int .u8 0, .int .u8 0, .int .u8 0, .int .u8 0] 40).alloc _)
  have K4 := Lib.hid (Blk.new' (w.alloc (.cells #[.int .i64 0, .int .i64 0, .int .i64 0, .int .i64 0, .int .i64 0, .int .i64 0, .int .u8 0, .int .u8 0, .int .u8 0, .int .u8 0, .int .u8 0, .int .u8 0, .int .u8 0, .int .u8 0] 40)) #[.int .i64 b0, .int .i64 0, .int .i64 0, .int .i64 0, .int .i64 0, .int .i64 0, .int .u8 0, .int .u8 0, .int .u8 0, .int .u8 0, .int .u8 0, .int .u8 0, .int .u8 0, .int .u8 0] 40 (g := w.heap.size + 1) (by simp))
  have l0 := K2.out.lt
  generalize (w.alloc (.cells #[.int .i64 0, .int .i64 0, .int .i64 0, .int .i64 0, .int .i64 0, .int .i64 0, .int .u8 0, .int .u8 0, .int .u8 0, .int .u8 0, .int .u8 0, .int .u8 0, .int .u8 0, .int .u8 0] 40)).alloc (.cells #[.int .i64 b0, .int .i64 0, .int .i64 0, .int .i64 0, .int .i64 0, .int .i64 0, .int .u8 0, .int .u8 0, .int .u8 0, .int .u8 0, .int .u8 0, .int .u8 0, .int .u8 0, .int .u8 0] 40) = v4 at *
  generalize hg4 : w.heap.size + 1 = g4 at *
  have lg : w.heap.size < g4 := by omega
  ((with_reducible refine (CN.out _).mono ?_))
  rintro e' y0 ⟨rfl, by0⟩
  replace K2 := Lib.hid (K2.out.below by0)
  replace K4 := Lib.hid (K4.out.below by0)
  replace BB := Lib.hid (bt BB.out by0)
  clear by0 CN
  go_wp2_with ((with_reducible show wpList _ _ _ (⟨_, .store 40 _ _, _, _, _, none⟩ :: _) _ _); (with_reducible refine wpBlk_store (g := g4) (cs := (repV nl)) agg_rep ?_ ?_ K4 ?_ ?_ ?_ ?_); (· exact wanted0 rfl); (· exact ⟨rfl, rfl, rfl⟩); (· rfl); (· exact repV_size _); (· exact repV_one _); refine Marker.mk ?_)
  refine Marker.in ?_
  replace K2 := Lib.hid (K2.out.setRow_other g4 (repV nl) (by omega))
  replace K4 := Lib.hid (K4.out.setRow (repV nl))
  replace BB := Lib.hid (below_setRow (g := g4) BB.out (by omega) (repV nl))
  generalize y0.setRow g4 (repV nl) = y1 at *
  go_wp2_with ((with_reducible show wpList _ _ _ (⟨_, .load 40 _, _, _, _, none⟩ :: _) _ _); (with_reducible refine wpBlk_load (g := g4) agg_rep ?_ ?_ K4 ?_ ?_); (· exact wanted0 rfl); (· exact ⟨rfl, rfl⟩); (· exact repV_size _))
  ((with_reducible refine (RP.out _).mono ?_))
  rintro e' y2 ⟨hpost, by2⟩
  replace K2 := Lib.hid (K2.out.below by2)
  replace K4 := Lib.hid (K4.out.below by2)
  replace BB := Lib.hid (bt BB.out by2)
  clear by2 RP
  cases hput : putR8 nl with
  | none =>
    rw [hput] at hpost
    obtain rfl := hpost
    have hres := HBY.out
    rw [hput, if_neg (by intro h; cases h)] at hres
    replace hres := Lib.hid hres
    clear hput
    go_wp2_with (first | ((with_reducible show wpList _ _ _ (⟨some 113, _, _, _, _, _⟩ :: _) _ _); refine wpList_build' rfl 40 _ rfl (repV (z14 0)) built_rzero ?_) | ((with_reducible show wpList _ _ _ (⟨_, .store 40 _ _, _, _, _, none⟩ :: _) _ _); (with_reducible refine wpBlk_store (g := w.heap.size) (cs := (repV (z14 0))) agg_rep ?_ ?_ K2 ?_ ?_ ?_ ?_); (· exact wanted0 rfl); (· exact ⟨rfl, rfl, rfl⟩); (· exact repV_size _); (· exact repV_size _); (· exact repV_one _)))
    refine bodyPost_ret (v := .tuple #[.agg (repV (z14 0)), .int .i64 13]) (results_ct agg_rep rfl _ _ w.heap.size _ _ rfl rfl (K2.out.setRow _) (repV_size _)) rfl ⟨?_, below_setRow BB.out (by omega) _⟩
    rw [hres.out]
  | some ps =>
    rw [hput] at hpost
    obtain ⟨A6, c6, base6, rfl, o6⟩ := hpost
    have hres := HBY.out
    rw [hput] at hres
    have hq := str_ne o6.2 HR.out.2
    have RB := Lib.hid (row_below HR.out BB.out)
    have v1 : (convert 27 9 (.slice A6 ps.length c6)).run Try.prog y2 = .ok (.string (strOfNums ps)) y2 := conv_row ps.length c6 rfl o6.row
    have v2 : (convert 27 9 (.slice B n c)).run Try.prog y2 = .ok (.string (strOfNums bs)) y2 := conv_row n c HN.out RB.out
    clear hput
    by_cases hb : ps = bs
    · rw [hb, if_pos rfl] at hres
      replace hres := Lib.hid hres
      rw [decide_eq_true hb] at hq
      generalize strOfNums ps = s1 at *
      generalize strOfNums bs = s2 at *
      generalize ps.length = np at *
      clear hb o6
      go_wp2_with (first | ((with_reducible show wpList _ _ _ (⟨_, .load 40 _, _, _, _, none⟩ :: _) _ _); (with_reducible refine wpBlk_load (g := g4) agg_rep ?_ ?_ K4 ?_ ?_); (· exact wanted0 rfl); (· exact ⟨rfl, rfl⟩); (· exact repV_size _)) | ((with_reducible show wpList _ _ _ (⟨_, .store 40 _ _, _, _, _, none⟩ :: _) _ _); (with_reducible refine wpBlk_store (g := w.heap.size) (cs := (repV nl)) agg_rep ?_ ?_ K2 ?_ ?_ ?_ ?_); (· exact wanted0 rfl); (· exact ⟨rfl, rfl, rfl⟩); (· exact repV_size _); (· exact repV_size _); (· exact repV_one _)))
      refine bodyPost_ret (v := .tuple #[.agg (repV nl), .int .i64 0]) (results_ct agg_rep rfl _ _ w.heap.size _ _ rfl rfl (K2.out.setRow _) (repV_size _)) rfl ⟨?_, below_setRow BB.out (by omega) _⟩
      rw [hres.out]
    · rw [if_neg (fun h => hb (Option.some.inj h))] at hres
      replace hres := Lib.hid hres
      rw [decide_eq_false hb] at hq
      generalize strOfNums ps = s1 at *
      generalize strOfNums bs = s2 at *
      generalize ps.length = np at *
      clear hb o6
      go_wp2_with (first | ((with_reducible show wpList _ _ _ (⟨some 113, _, _, _, _, _⟩ :: _) _ _); refine wpList_build' rfl 40 _ rfl (repV (z14 0)) built_rzero ?_) | ((with_reducible show wpList _ _ _ (⟨_, .store 40 _ _, _, _, _, none⟩ :: _) _ _); (with_reducible refine wpBlk_store (g := w.heap.size) (cs := (repV (z14 0))) agg_rep ?_ ?_ K2 ?_ ?_ ?_ ?_); (· exact wanted0 rfl); (· exact ⟨rfl, rfl, rfl⟩); (· exact repV_size _); (· exact repV_size _); (· exact repV_one _)))
      refine bodyPost_ret (v := .tuple #[.agg (repV (z14 0)), .int .i64 13]) (results_ct agg_rep rfl _ _ w.heap.size _ _ rfl rfl (K2.out.setRow _) (repV_size _)) rfl ⟨?_, below_setRow BB.out (by omega) _⟩
      rw [hres.out]
set_option maxRecDepth 100000 in
set_option maxHeartbeats 800000 in
theorem rqt_long (bs : List Int) (B : Option Addr) (n c : Nat) (hn : bs.length = n) (h16 : 9 < n) (w : World) (hr : Row w B bs) :
    Calls Try.prog 19 #[.slice B n c] w (TakeRR bs w) := by
  have hp : Hid (takeR8 bs = none) := Lib.hid (takeR8_long hr.2 (by omega))
  have t16 : decide ((9 : Int) < n) = true := decide_eq_true (by omega)
  clear hr hn
  go_enter Try.func19, Try.ntmps19
  go_wp2_with ((with_reducible show wpList _ _ _ (⟨_, .alloc 40, _, _, _, none⟩ :: _) _ _); (with_reducible refine wpRow_alloc zeroT_repy ?_ ?_ ?_); (· exact wanted0 rfl); (· rfl); refine Marker.mk ?_)
  refine Marker.in ?_
  have K2 := Lib.hid (Blk.new w (repV (z14 0)) 40)
  have BB := Lib.hid (below_alloc1 w (.cells (repV (z14 0)) 40))
  generalize w.alloc (.cells (repV (z14 0)) 40) = w1 at *
  go_wp2_with (first | ((with_reducible show wpList _ _ _ (⟨some 11, _, _, _, _, _⟩ :: _) _ _); refine wpList_build' rfl 40 _ rfl (repV (z14 0)) built_rzero ?_) | ((with_reducible show wpList _ _ _ (⟨_, .store 40 _ _, _, _, _, none⟩ :: _) _ _); (with_reducible refine wpBlk_store (g := w.heap.size) (cs := (repV (z14 0))) agg_rep ?_ ?_ K2 ?_ ?_ ?_ ?_); (· exact wanted0 rfl); (· exact ⟨rfl, rfl, rfl⟩); (· exact repV_size _); (· exact repV_size _); (· exact repV_one _)))
  refine bodyPost_ret (v := .tuple #[.agg (repV (z14 0)), .int .i64 13]) (results_ct agg_rep rfl _ _ w.heap.size _ _ rfl rfl (K2.out.setRow _) (repV_size _)) rfl ⟨?_, below_setRow BB.out (by omega) _⟩
  rw [hp.out]
theorem rqt_any (bs : List Int) (B : Option Addr) (n c : Nat) (hn : bs.length = n) (w : World) (hr : Row w B bs) :
    Calls Try.prog 19 #[.slice B n c] w (TakeRR bs w) := by
  by_cases h16 : n ≤ 9
  · by_cases h : 129 ≤ bs.getD 0 0 ∧ bs.getD 0 0 ≤ 136
    · have hc : bs.getD 0 0 = 129 ∨ bs.getD 0 0 = 130 ∨ bs.getD 0 0 = 131 ∨ bs.getD 0 0 = 132 ∨ bs.getD 0 0 = 133 ∨ bs.getD 0 0 = 134 ∨ bs.getD 0 0 = 135 ∨ bs.getD 0 0 = 136 := by omega
      rcases hc with h | h | h | h | h | h | h | h
      · exact rqt_129 bs B n c hn h16 h w hr
      · exact rqt_130 bs B n c hn h16 h w hr
      · exact rqt_131 bs B n c hn h16 h w hr
      · exact rqt_132 bs B n c hn h16 h w hr
      · exact rqt_133 bs B n c hn h16 h w hr
      · exact rqt_134 bs B n c hn h16 h w hr
      · exact rqt_135 bs B n c hn h16 h w hr
      · exact rqt_136 bs B n c hn h16 h w hr
    · exact rqt_other bs B n c hn h16 (by omega) w hr
  · exact rqt_long bs B n c hn (by omega) w hr
end Go.Proofs.Ytakahkpogooepaa

/- The walk of MsgAll. -/
namespace Go.Proofs.Ytakahkpogooepaa
open Go.RowKit Go.WideShapes Go.ChangeShapes

theorem bytes_of_row {w : World} {v : Value} (h : IsRow .u8 w v) : IsBytes w v := by
  rcases h with rfl | ⟨x, len, cap, zs, rfl, hx, hl, hc, hz, hcell, hw⟩
  · exact ⟨none, [], 0, rfl, by simp, by simp, row_empty _ _, fun _ => rfl⟩
  · have hlen : (zs.take len).length = len := by rw [List.length_take]; omega
    refine ⟨some x, zs.take len, cap, by rw [hlen], by omega, by omega, ⟨?_, fun y hy => byte_of_wf (hw y (List.mem_of_mem_take hy))⟩, fun h => by cases h⟩
    rcases Nat.eq_zero_or_pos cap with h0 | h0
    · left
      exact List.eq_nil_of_length_eq_zero (by omega)
    · right
      obtain ⟨hb, hs⟩ := hx h0
      obtain ⟨b, off, spot⟩ := x
      simp at hs
      subst hs
      refine ⟨b, off, rfl, fun i hi => ?_⟩
      have hi' : i < len := by omega
      have := hcell i (by omega)
      rw [Addr.add_mid] at this
      rw [this]
      simp [List.getElem_take, List.getD, List.getElem?_eq_getElem (show i < zs.length by omega)]
theorem own_zero (w : World) : Own (w.alloc (.cells #[] 5)) w.heap.size (some ⟨w.heap.size, 0, none⟩) 0 [] :=
  ⟨⟨rfl, .inr ⟨w.heap.size, 0, _, rfl, Nat.le_refl _, heap_alloc_new w _, by simp, by unfold maxLen; omega, rfl, rfl⟩⟩, fun x hx => by cases hx⟩
set_option maxRecDepth 100000 in
set_option maxHeartbeats 400000 in
theorem few08 (A : Option Addr) (n c : Nat) (w : World) (h1 : n ≤ c) (h2 : c ≤ 9223372036854775807) :
    Calls Try.prog 13 #[.slice A n c] w fun e w' => e = .returned (.slice A (min n 40) c) ∧ w = w' := by
  by_cases h : n ≤ 40
  · have e : min n 40 = n := Nat.min_eq_left h
    have ei : min (n : Int) 40 = (n : Int) := by omega
    rw [e]
    clear e
    go_enter Try.func13, Try.ntmps13
    go_wp2_with fail
    go_ret
    exact ⟨rfl, rfl⟩
  · have e : min n 40 = 40 := Nat.min_eq_right (by omega)
    have ei : min (n : Int) 40 = 40 := by omega
    have hk : 40 ≤ c := by omega
    rw [e]
    clear e
    go_enter Try.func13, Try.ntmps13
    go_wp2_with fail
    go_ret
    exact ⟨rfl, rfl⟩
def codeP (o : Option (List Int)) : Int := match o with | none => 1 | some _ => 0
def codeT (o : Option (List Int)) : Int := match o with | none => 13 | some _ => 0
def bytesP (o : Option (List Int)) : List Int := o.getD []
theorem row_nil (w : World) : Row w none [] := ⟨.inl rfl, fun x hx => by cases hx⟩
def PutU (o : Option (List Int)) (w : World) (e : Ending) (w' : World) : Prop := (∃ A c, e = .returned (.tuple #[.slice A (bytesP o).length c, .int .i64 (codeP o)]) ∧ Row w' A (bytesP o)) ∧ Below w.heap.size w w'
theorem putU_of {o : Option (List Int)} {w w' : World} {e : Ending} (h : (match o with | none => e = .returned (.tuple #[.slice none 0 0, .int .i64 1]) | some bs => ∃ A c base, e = .returned (.tuple #[.slice A bs.length c, .int .i64 0]) ∧ Own w' base A c bs) ∧ Below w.heap.size w w') : PutU o w e w' := by
  obtain ⟨h, hb⟩ := h
  cases o with
  | none => exact ⟨⟨none, 0, h, row_nil _⟩, hb⟩
  | some bs =>
    obtain ⟨A, c, base, he, ho⟩ := h
    exact ⟨⟨A, c, he, ho.row⟩, hb⟩
set_option maxRecDepth 100000 in
set_option maxHeartbeats 6400000 in
theorem msgAll (l r bs : List Int) (hl : IsMsgL l) (hr : IsRepL r) (B : Option Addr) (n c : Nat) (hn : bs.length = n) (hnc : n ≤ c) (hc : c ≤ 9223372036854775807) (w : World) (hb : Row w B bs) :
    Calls Try.prog 6 #[.agg (msgV l), .agg (repV r), .slice B n c] w fun e' w' => e' = .returned (.bool true) ∧ Below w.heap.size w w' := by
  have FW := Lib.hid (fun W => few08 B n c W hnc hc)
  obtain ⟨m, hm⟩ : ∃ m, m = min n 40 := ⟨_, rfl⟩
  rw [← hm] at FW
  have hft : (bs.take m).length = m := by rw [List.length_take, hn]; omega
  have hmc : m ≤ c := by omega
  have hrow := row_take8 hb m
  clear hb hn hm
  generalize bs.take m = xs at *
  have hby := hrow.2
  have P1 := Lib.hid (fun W => (put_msg l W hl).mono fun e w' h => putU_of h)
  have P2 := Lib.hid (fun W => (rput_any l hl W).mono fun e w' h => putU_of h)
  have P3 := Lib.hid (fun W => (put_rep r W hr).mono fun e w' h => putU_of h)
  have P4 := Lib.hid (fun W => (rq_any r hr W).mono fun e w' h => putU_of h)
  obtain ⟨mt, hmt⟩ : ∃ x, x = (take8 xs).getD (z12 0) := ⟨_, rfl⟩
  obtain ⟨rt, hrt⟩ : ∃ x, x = (takeR8 xs).getD (z14 0) := ⟨_, rfl⟩
  obtain ⟨km, hkm⟩ : ∃ x, x = codeT (take8 xs) := ⟨_, rfl⟩
  obtain ⟨kr, hkr⟩ : ∃ x, x = codeT (takeR8 xs) := ⟨_, rfl⟩
  have im : IsMsgL mt := by
    rw [hmt]
    cases h : take8 xs with
    | none => exact ⟨rfl, .inl rfl⟩
    | some z => exact (put8_take hby h).2
  have ir : IsRepL rt := by
    rw [hrt]
    cases h : takeR8 xs with
    | none => exact isRep_z14 0
    | some z => exact (putR8_take hby h).2
  have tm : ∀ (w w' : World) (e : Ending), TakeR xs w e w' → e = .returned (.tuple #[.agg (msgV mt), .int .i64 km]) ∧ Below w.heap.size w w' := by
    intro w w' e h
    unfold TakeR at h
    rw [hmt, hkm]
    cases ht : take8 xs with
    | none => rw [ht] at h; exact h
    | some z => rw [ht] at h; exact h
  have tr : ∀ (w w' : World) (e : Ending), TakeRR xs w e w' → e = .returned (.tuple #[.agg (repV rt), .int .i64 kr]) ∧ Below w.heap.size w w' := by
    intro w w' e h
    unfold TakeRR at h
    rw [hrt, hkr]
    cases ht : takeR8 xs with
    | none => rw [ht] at h; exact h
    | some z => rw [ht] at h; exact h
  have T1 := Lib.hid (fun W h => (take_msg xs B m c hft hmc hc W h).mono fun e w' => tm W w' e)
  have T2 := Lib.hid (fun W h => (rtake_any xs B m c hft W h).mono fun e w' => tm W w' e)
  have T3 := Lib.hid (fun W h => (take_rep xs B m c hft hmc hc W h).mono fun e w' => tr W w' e)
  have T4 := Lib.hid (fun W h => (rqt_any xs B m c hft W h).mono fun e w' => tr W w' e)
  have HR := Lib.hid hrow
  have EM := fun W => eql_msg mt mt im im W
  rw [decide_eq_true rfl] at EM
  have ER := fun W => eql_rep rt rt ir ir W
  rw [decide_eq_true rfl] at ER
  clear hby hmt hrt hkm hkr im ir tm tr hft hrow hl hr
  unfold PutU at P1 P2 P3 P4
  generalize put8 l = o1 at *
  generalize putR8 r = o2 at *
  generalize codeP o1 = k1 at *
  generalize codeP o2 = k2 at *
  generalize bytesP o1 = p1 at *
  generalize bytesP o2 = p2 at *
  obtain ⟨n1, hn1⟩ : ∃ n, n = p1.length := ⟨_, rfl⟩
  obtain ⟨n2, hn2⟩ : ∃ n, n = p2.length := ⟨_, rfl⟩
  rw [← hn1] at P1 P2
  rw [← hn2] at P3 P4
  have HN1 := Lib.hid hn1
  have HN2 := Lib.hid hn2
  clear hn1 hn2
  go_enter Try.func6, Try.ntmps6
  go_wp2_with fail
  have KM := Lib.hid ((Blk.new w (msgV l) 24).alloc (.cells (repV r) 40))
  have KN := Lib.hid (Blk.new' (w.alloc (.cells (msgV l) 24)) (repV r) 40 (g := w.heap.size + 1) (by simp))
  have BB := Lib.hid (below_alloc2 w (.cells (msgV l) 24) (.cells (repV r) 40))
  generalize (w.alloc (.cells (msgV l) 24)).alloc (.cells (repV r) 40) = w0 at *
  generalize hgn : w.heap.size + 1 = gn at *
  ((with_reducible refine (shown08 _).mono ?_))
  rintro e w1 ⟨rfl, b1⟩
  replace KM := Lib.hid (KM.out.below b1)
  replace KN := Lib.hid (KN.out.below b1)
  replace BB := Lib.hid (bt BB.out b1)
  clear b1
  go_wp2_with fail
  ((with_reducible refine (FW.out _).mono ?_))
  rintro e w2 ⟨rfl, hw⟩
  subst hw
  clear FW
  go_wp2_with ((with_reducible show wpList _ _ _ (⟨_, .load 24 _, _, _, _, none⟩ :: _) _ _); (with_reducible refine wpBlk_load (g := w.heap.size) agg_msg ?_ ?_ KM ?_ ?_); (· exact wanted0 rfl); (· exact ⟨rfl, rfl⟩); (· exact msgV_size _))
  ((with_reducible refine (P1.out _).mono ?_))
  rintro e w3 ⟨⟨A1, cA1, rfl, rA1⟩, b3⟩
  have RA1 := Lib.hid rA1
  clear rA1
  replace KM := Lib.hid (KM.out.below b3)
  replace KN := Lib.hid (KN.out.below b3)
  replace BB := Lib.hid (bt BB.out b3)
  clear b3
  go_wp2_with ((with_reducible show wpList _ _ _ (⟨_, .load 24 _, _, _, _, none⟩ :: _) _ _); (with_reducible refine wpBlk_load (g := w.heap.size) agg_msg ?_ ?_ KM ?_ ?_); (· exact wanted0 rfl); (· exact ⟨rfl, rfl⟩); (· exact msgV_size _))
  ((with_reducible refine (P2.out _).mono ?_))
  rintro e w4 ⟨⟨A2, cA2, rfl, rA2⟩, b4⟩
  have RA2 := Lib.hid rA2
  clear rA2
  replace RA1 := Lib.hid (row_below RA1.out b4)
  replace KM := Lib.hid (KM.out.below b4)
  replace KN := Lib.hid (KN.out.below b4)
  replace BB := Lib.hid (bt BB.out b4)
  clear b4
  go_wp2_with fail
  ((with_reducible refine (T1.out _ (row_below HR.out BB.out)).mono ?_))
  rintro e w5 ⟨rfl, b5⟩
  replace RA1 := Lib.hid (row_below RA1.out b5)
  replace RA2 := Lib.hid (row_below RA2.out b5)
  replace KN := Lib.hid (KN.out.below b5)
  replace BB := Lib.hid (bt BB.out b5)
  clear b5
  have ltw5KN := KN.out.lt
  have ltw5 := BB.out.size
  go_wp2_with ((with_reducible show wpList _ _ _ (⟨_, .alloc 24, _, _, _, none⟩ :: _) _ _); (with_reducible refine wpRow_alloc zeroT_msgy ?_ ?_ ?_); (· exact wanted0 rfl); (· rfl); refine Marker.mk ?_)
  refine Marker.in ?_
  have BZ := Lib.hid (below_alloc1 w5 (.cells (msgV (z12 0)) 24))
  have bel := below_alloc1 w5 (.cells (msgV (z12 0)) 24)
  replace KN := Lib.hid (KN.out.below bel)
  replace BB := Lib.hid (bt BB.out bel)
  have K13 := Lib.hid (Blk.new w5 (msgV (z12 0)) 24)
  clear bel
  generalize w5.alloc (.cells (msgV (z12 0)) 24) = w6 at *
  generalize hg : w5.heap.size = g13 at *
  go_wp2_with ((with_reducible show wpList _ _ _ (⟨_, .store 24 _ _, _, _, _, none⟩ :: _) _ _); (with_reducible refine wpBlk_store (g := g13) (cs := (msgV mt)) agg_msg ?_ ?_ K13 ?_ ?_ ?_ ?_); (· exact wanted0 rfl); (· exact ⟨rfl, rfl, rfl⟩); (· exact msgV_size _); (· exact msgV_size _); (· exact msgV_one _); refine Marker.mk ?_)
  refine Marker.in ?_
  replace BZ := Lib.hid (below_setRow (g := g13) BZ.out (Nat.le_refl _) (msgV mt))
  replace KN := Lib.hid (KN.out.setRow_other g13 (msgV mt) (by omega))
  replace K13 := Lib.hid (K13.out.setRow (msgV mt))
  replace BB := Lib.hid (below_setRow (g := g13) BB.out (by omega) (msgV mt))
  generalize w6.setRow g13 (msgV mt) = w7 at *
  replace RA1 := Lib.hid (row_below RA1.out (by rw [hg]; exact BZ.out))
  replace RA2 := Lib.hid (row_below RA2.out (by rw [hg]; exact BZ.out))
  clear BZ hg
  clear ltw5KN
  have lK13 := K13.out.lt
  go_wp2_with fail
  ((with_reducible refine (T2.out _ (row_below HR.out BB.out)).mono ?_))
  rintro e w8 ⟨rfl, b8⟩
  replace RA1 := Lib.hid (row_below RA1.out b8)
  replace RA2 := Lib.hid (row_below RA2.out b8)
  replace KN := Lib.hid (KN.out.below b8)
  replace K13 := Lib.hid (K13.out.below b8)
  replace BB := Lib.hid (bt BB.out b8)
  clear b8
  have ltw8KN := KN.out.lt
  have ltw8K13 := K13.out.lt
  have ltw8 := BB.out.size
  go_wp2_with ((with_reducible show wpList _ _ _ (⟨_, .alloc 24, _, _, _, none⟩ :: _) _ _); (with_reducible refine wpRow_alloc zeroT_msgy ?_ ?_ ?_); (· exact wanted0 rfl); (· rfl); refine Marker.mk ?_)
  refine Marker.in ?_
  have BZ := Lib.hid (below_alloc1 w8 (.cells (msgV (z12 0)) 24))
  have bel := below_alloc1 w8 (.cells (msgV (z12 0)) 24)
  replace KN := Lib.hid (KN.out.below bel)
  replace K13 := Lib.hid (K13.out.below bel)
  replace BB := Lib.hid (bt BB.out bel)
  have K15 := Lib.hid (Blk.new w8 (msgV (z12 0)) 24)
  clear bel
  generalize w8.alloc (.cells (msgV (z12 0)) 24) = w9 at *
  generalize hg : w8.heap.size = g15 at *
  go_wp2_with ((with_reducible show wpList _ _ _ (⟨_, .store 24 _ _, _, _, _, none⟩ :: _) _ _); (with_reducible refine wpBlk_store (g := g15) (cs := (msgV mt)) agg_msg ?_ ?_ K15 ?_ ?_ ?_ ?_); (· exact wanted0 rfl); (· exact ⟨rfl, rfl, rfl⟩); (· exact msgV_size _); (· exact msgV_size _); (· exact msgV_one _); refine Marker.mk ?_)
  refine Marker.in ?_
  replace BZ := Lib.hid (below_setRow (g := g15) BZ.out (Nat.le_refl _) (msgV mt))
  replace KN := Lib.hid (KN.out.setRow_other g15 (msgV mt) (by omega))
  replace K13 := Lib.hid (K13.out.setRow_other g15 (msgV mt) (by omega))
  replace K15 := Lib.hid (K15.out.setRow (msgV mt))
  replace BB := Lib.hid (below_setRow (g := g15) BB.out (by omega) (msgV mt))
  generalize w9.setRow g15 (msgV mt) = w10 at *
  replace RA1 := Lib.hid (row_below RA1.out (by rw [hg]; exact BZ.out))
  replace RA2 := Lib.hid (row_below RA2.out (by rw [hg]; exact BZ.out))
  clear BZ hg
  clear ltw8KN
  clear ltw8K13
  have lK15 := K15.out.lt
  go_wp2_with ((with_reducible show wpList _ _ _ (⟨_, .load 40 _, _, _, _, none⟩ :: _) _ _); (with_reducible refine wpBlk_load (g := gn) agg_rep ?_ ?_ KN ?_ ?_); (· exact wanted0 rfl); (· exact ⟨rfl, rfl⟩); (· exact repV_size _))
  ((with_reducible refine (P3.out _).mono ?_))
  rintro e w11 ⟨⟨A3, cA3, rfl, rA3⟩, b11⟩
  have RA3 := Lib.hid rA3
  clear rA3
  replace RA1 := Lib.hid (row_below RA1.out b11)
  replace RA2 := Lib.hid (row_below RA2.out b11)
  replace KN := Lib.hid (KN.out.below b11)
  replace K13 := Lib.hid (K13.out.below b11)
  replace K15 := Lib.hid (K15.out.below b11)
  replace BB := Lib.hid (bt BB.out b11)
  clear b11
  go_wp2_with ((with_reducible show wpList _ _ _ (⟨_, .load 40 _, _, _, _, none⟩ :: _) _ _); (with_reducible refine wpBlk_load (g := gn) agg_rep ?_ ?_ KN ?_ ?_); (· exact wanted0 rfl); (· exact ⟨rfl, rfl⟩); (· exact repV_size _))
  ((with_reducible refine (P4.out _).mono ?_))
  rintro e w12 ⟨⟨A4, cA4, rfl, rA4⟩, b12⟩
  have RA4 := Lib.hid rA4
  clear rA4
  replace RA1 := Lib.hid (row_below RA1.out b12)
  replace RA2 := Lib.hid (row_below RA2.out b12)
  replace RA3 := Lib.hid (row_below RA3.out b12)
  replace KN := Lib.hid (KN.out.below b12)
  replace K13 := Lib.hid (K13.out.below b12)
  replace K15 := Lib.hid (K15.out.below b12)
  replace BB := Lib.hid (bt BB.out b12)
  clear b12
  go_wp2_with fail
  ((with_reducible refine (T3.out _ (row_below HR.out BB.out)).mono ?_))
  rintro e w13 ⟨rfl, b13⟩
  replace RA1 := Lib.hid (row_below RA1.out b13)
  replace RA2 := Lib.hid (row_below RA2.out b13)
  replace RA3 := Lib.hid (row_below RA3.out b13)
  replace RA4 := Lib.hid (row_below RA4.out b13)
  replace K13 := Lib.hid (K13.out.below b13)
  replace K15 := Lib.hid (K15.out.below b13)
  replace BB := Lib.hid (bt BB.out b13)
  clear b13
  have ltw13K13 := K13.out.lt
  have ltw13K15 := K15.out.lt
  have ltw13 := BB.out.size
  go_wp2_with ((with_reducible show wpList _ _ _ (⟨_, .alloc 40, _, _, _, none⟩ :: _) _ _); (with_reducible refine wpRow_alloc zeroT_repy ?_ ?_ ?_); (· exact wanted0 rfl); (· rfl); refine Marker.mk ?_)
  refine Marker.in ?_
  have BZ := Lib.hid (below_alloc1 w13 (.cells (repV (z14 0)) 40))
  have bel := below_alloc1 w13 (.cells (repV (z14 0)) 40)
  replace K13 := Lib.hid (K13.out.below bel)
  replace K15 := Lib.hid (K15.out.below bel)
  replace BB := Lib.hid (bt BB.out bel)
  have K21 := Lib.hid (Blk.new w13 (repV (z14 0)) 40)
  clear bel
  generalize w13.alloc (.cells (repV (z14 0)) 40) = w14 at *
  generalize hg : w13.heap.size = g21 at *
  go_wp2_with ((with_reducible show wpList _ _ _ (⟨_, .store 40 _ _, _, _, _, none⟩ :: _) _ _); (with_reducible refine wpBlk_store (g := g21) (cs := (repV rt)) agg_rep ?_ ?_ K21 ?_ ?_ ?_ ?_); (· exact wanted0 rfl); (· exact ⟨rfl, rfl, rfl⟩); (· exact repV_size _); (· exact repV_size _); (· exact repV_one _); refine Marker.mk ?_)
  refine Marker.in ?_
  replace BZ := Lib.hid (below_setRow (g := g21) BZ.out (Nat.le_refl _) (repV rt))
  replace K13 := Lib.hid (K13.out.setRow_other g21 (repV rt) (by omega))
  replace K15 := Lib.hid (K15.out.setRow_other g21 (repV rt) (by omega))
  replace K21 := Lib.hid (K21.out.setRow (repV rt))
  replace BB := Lib.hid (below_setRow (g := g21) BB.out (by omega) (repV rt))
  generalize w14.setRow g21 (repV rt) = w15 at *
  replace RA1 := Lib.hid (row_below RA1.out (by rw [hg]; exact BZ.out))
  replace RA2 := Lib.hid (row_below RA2.out (by rw [hg]; exact BZ.out))
  replace RA3 := Lib.hid (row_below RA3.out (by rw [hg]; exact BZ.out))
  replace RA4 := Lib.hid (row_below RA4.out (by rw [hg]; exact BZ.out))
  clear BZ hg
  clear ltw13K13
  clear ltw13K15
  have lK21 := K21.out.lt
  go_wp2_with fail
  ((with_reducible refine (T4.out _ (row_below HR.out BB.out)).mono ?_))
  rintro e w16 ⟨rfl, b16⟩
  replace RA1 := Lib.hid (row_below RA1.out b16)
  replace RA2 := Lib.hid (row_below RA2.out b16)
  replace RA3 := Lib.hid (row_below RA3.out b16)
  replace RA4 := Lib.hid (row_below RA4.out b16)
  replace K13 := Lib.hid (K13.out.below b16)
  replace K15 := Lib.hid (K15.out.below b16)
  replace K21 := Lib.hid (K21.out.below b16)
  replace BB := Lib.hid (bt BB.out b16)
  clear b16
  have ltw16K13 := K13.out.lt
  have ltw16K15 := K15.out.lt
  have ltw16K21 := K21.out.lt
  have ltw16 := BB.out.size
  go_wp2_with ((with_reducible show wpList _ _ _ (⟨_, .alloc 40, _, _, _, none⟩ :: _) _ _); (with_reducible refine wpRow_alloc zeroT_repy ?_ ?_ ?_); (· exact wanted0 rfl); (· rfl); refine Marker.mk ?_)
  refine Marker.in ?_
  have BZ := Lib.hid (below_alloc1 w16 (.cells (repV (z14 0)) 40))
  have bel := below_alloc1 w16 (.cells (repV (z14 0)) 40)
  replace K13 := Lib.hid (K13.out.below bel)
  replace K15 := Lib.hid (K15.out.below bel)
  replace K21 := Lib.hid (K21.out.below bel)
  replace BB := Lib.hid (bt BB.out bel)
  have K23 := Lib.hid (Blk.new w16 (repV (z14 0)) 40)
  clear bel
  generalize w16.alloc (.cells (repV (z14 0)) 40) = w17 at *
  generalize hg : w16.heap.size = g23 at *
  go_wp2_with ((with_reducible show wpList _ _ _ (⟨_, .store 40 _ _, _, _, _, none⟩ :: _) _ _); (with_reducible refine wpBlk_store (g := g23) (cs := (repV rt)) agg_rep ?_ ?_ K23 ?_ ?_ ?_ ?_); (· exact wanted0 rfl); (· exact ⟨rfl, rfl, rfl⟩); (· exact repV_size _); (· exact repV_size _); (· exact repV_one _); refine Marker.mk ?_)
  refine Marker.in ?_
  replace BZ := Lib.hid (below_setRow (g := g23) BZ.out (Nat.le_refl _) (repV rt))
  replace K13 := Lib.hid (K13.out.setRow_other g23 (repV rt) (by omega))
  replace K15 := Lib.hid (K15.out.setRow_other g23 (repV rt) (by omega))
  replace K21 := Lib.hid (K21.out.setRow_other g23 (repV rt) (by omega))
  replace K23 := Lib.hid (K23.out.setRow (repV rt))
  replace BB := Lib.hid (below_setRow (g := g23) BB.out (by omega) (repV rt))
  generalize w17.setRow g23 (repV rt) = w18 at *
  replace RA1 := Lib.hid (row_below RA1.out (by rw [hg]; exact BZ.out))
  replace RA2 := Lib.hid (row_below RA2.out (by rw [hg]; exact BZ.out))
  replace RA3 := Lib.hid (row_below RA3.out (by rw [hg]; exact BZ.out))
  replace RA4 := Lib.hid (row_below RA4.out (by rw [hg]; exact BZ.out))
  clear BZ hg
  clear ltw16K13
  clear ltw16K15
  clear ltw16K21
  have lK23 := K23.out.lt
  have vA1 : (convert 27 9 (.slice A1 n1 cA1)).run Try.prog w18 = .ok (.string (strOfNums p1)) w18 := conv_row n1 cA1 HN1.out.symm RA1.out
  have vA2 : (convert 27 9 (.slice A2 n1 cA2)).run Try.prog w18 = .ok (.string (strOfNums p1)) w18 := conv_row n1 cA2 HN1.out.symm RA2.out
  have vA3 : (convert 27 9 (.slice A3 n2 cA3)).run Try.prog w18 = .ok (.string (strOfNums p2)) w18 := conv_row n2 cA3 HN2.out.symm RA3.out
  have vA4 : (convert 27 9 (.slice A4 n2 cA4)).run Try.prog w18 = .ok (.string (strOfNums p2)) w18 := conv_row n2 cA4 HN2.out.symm RA4.out
  generalize strOfNums p1 = s1 at *
  generalize strOfNums p2 = s2 at *
  go_wp2_with (first | ((with_reducible show wpList _ _ _ (⟨_, .load 24 _, _, _, _, some _⟩ :: _) _ _); (with_reducible refine wpBlk_load (g := g13) agg_msg ?_ ?_ K13 ?_ ?_); (· exact wantedY rfl rfl rfl); (· exact ⟨rfl, rfl⟩); (· exact msgV_size _)) | ((with_reducible show wpList _ _ _ (⟨_, .load 24 _, _, _, _, some _⟩ :: _) _ _); (with_reducible refine wpBlk_load (g := g15) agg_msg ?_ ?_ K15 ?_ ?_); (· exact wantedY rfl rfl rfl); (· exact ⟨rfl, rfl⟩); (· exact msgV_size _)) | ((with_reducible show wpList _ _ _ (⟨_, .load 40 _, _, _, _, some _⟩ :: _) _ _); (with_reducible refine wpBlk_load (g := g21) agg_rep ?_ ?_ K21 ?_ ?_); (· exact wantedY rfl rfl rfl); (· exact ⟨rfl, rfl⟩); (· exact repV_size _)) | ((with_reducible show wpList _ _ _ (⟨_, .load 40 _, _, _, _, some _⟩ :: _) _ _); (with_reducible refine wpBlk_load (g := g23) agg_rep ?_ ?_ K23 ?_ ?_); (· exact wantedY rfl rfl rfl); (· exact ⟨rfl, rfl⟩); (· exact repV_size _)))
  go_ret
  exact ⟨rfl, BB.out⟩
theorem walk_MsgAll (v0 v1 v2 : Value) (w : World) (q0 : ∃ base, Value.okWide Try.prog w .any base 24 v0) (q1 : ∃ base, Value.okWide Try.prog w .any base 40 v1) (q2 : IsRow .u8 w v2) :
    Calls Try.prog 6 #[v0, v1, v2] w fun e w' => e = .returned (.bool true) ∧ Below w.heap.size w w' := by
  obtain ⟨base, q0⟩ := q0
  obtain ⟨base1, q1⟩ := q1
  obtain ⟨B, xs, c, rfl, h1, h2, h3, -⟩ := bytes_of_row q2
  obtain ⟨l, hl, rfl⟩ := msg_of _ _ _ q0
  obtain ⟨l2, hl2, rfl⟩ := rep_of _ _ _ q1
  exact msgAll l l2 xs hl hl2 B _ c rfl h1 h2 w h3
end Go.Proofs.Ytakahkpogooepaa
