/- The walk of LimitAxes. -/
import Derived.Test.YtcgaodencjcgnaaLimW
import Derived.Test.YtcgaodencjcgnaaRowK
namespace Go.Proofs.Ytcgaodencjcgnaa
open Go.RowKit Go.WideShapes Go.ChangeShapes

theorem flat_points (v : Value) (w : World) (base : Nat) (h : Value.okWide Try.prog w .any base 37 v) : ∃ (n0 : Int) (n1 : Int) (n2 : Int) (n3 : Int) (n4 : Int) (n5 : Int) (n6 : Int) (n7 : Int) (n8 : Int) (n9 : Int) (n10 : Int) (n11 : Int) (n12 : Int) (n13 : Int) (n14 : Int) (n15 : Int) (n16 : Int) (n17 : Int) (n18 : Int) (n19 : Int) (n20 : Int) (n21 : Int) (n22 : Int) (n23 : Int), v = .agg #[.int .i64 n0, .int .i64 n1, .int .i64 n2, .int .i64 n3, .int .i64 n4, .int .i64 n5, .int .i64 n6, .int .i64 n7, .int .i64 n8, .int .i64 n9, .int .i64 n10, .int .i64 n11, .int .i64 n12, .int .i64 n13, .int .i64 n14, .int .i64 n15, .int .i64 n16, .int .i64 n17, .int .i64 n18, .int .i64 n19, .int .i64 n20, .int .i64 n21, .int .i64 n22, .int .i64 n23] ∧ (-9223372036854775808 ≤ n0 ∧ n0 ≤ 9223372036854775807) ∧ (-9223372036854775808 ≤ n1 ∧ n1 ≤ 9223372036854775807) ∧ (-9223372036854775808 ≤ n2 ∧ n2 ≤ 9223372036854775807) ∧ (-9223372036854775808 ≤ n3 ∧ n3 ≤ 9223372036854775807) ∧ (-9223372036854775808 ≤ n4 ∧ n4 ≤ 9223372036854775807) ∧ (-9223372036854775808 ≤ n5 ∧ n5 ≤ 9223372036854775807) ∧ (-9223372036854775808 ≤ n6 ∧ n6 ≤ 9223372036854775807) ∧ (-9223372036854775808 ≤ n7 ∧ n7 ≤ 9223372036854775807) ∧ (-9223372036854775808 ≤ n8 ∧ n8 ≤ 9223372036854775807) ∧ (-9223372036854775808 ≤ n9 ∧ n9 ≤ 9223372036854775807) ∧ (-9223372036854775808 ≤ n10 ∧ n10 ≤ 9223372036854775807) ∧ (-9223372036854775808 ≤ n11 ∧ n11 ≤ 9223372036854775807) ∧ (-9223372036854775808 ≤ n12 ∧ n12 ≤ 9223372036854775807) ∧ (-9223372036854775808 ≤ n13 ∧ n13 ≤ 9223372036854775807) ∧ (-9223372036854775808 ≤ n14 ∧ n14 ≤ 9223372036854775807) ∧ (-9223372036854775808 ≤ n15 ∧ n15 ≤ 9223372036854775807) ∧ (-9223372036854775808 ≤ n16 ∧ n16 ≤ 9223372036854775807) ∧ (-9223372036854775808 ≤ n17 ∧ n17 ≤ 9223372036854775807) ∧ (-9223372036854775808 ≤ n18 ∧ n18 ≤ 9223372036854775807) ∧ (-9223372036854775808 ≤ n19 ∧ n19 ≤ 9223372036854775807) ∧ (-9223372036854775808 ≤ n20 ∧ n20 ≤ 9223372036854775807) ∧ (-9223372036854775808 ≤ n21 ∧ n21 ≤ 9223372036854775807) ∧ (-9223372036854775808 ≤ n22 ∧ n22 ≤ 9223372036854775807) ∧ (-9223372036854775808 ≤ n23 ∧ n23 ≤ 9223372036854775807) := by
  obtain ⟨cs, rfl, hs, hc⟩ := flat (ts := [3, 3, 3, 3, 3, 3, 3, 3, 3, 3, 3, 3, 3, 3, 3, 3, 3, 3, 3, 3, 3, 3, 3, 3]) (.inr ⟨_, _, Try.underlying37⟩) (by kernel_rfl) (by kernel_rfl) h
  obtain ⟨l⟩ := cs
  match l, hs with
  | [x0, x1, x2, x3, x4, x5, x6, x7, x8, x9, x10, x11, x12, x13, x14, x15, x16, x17, x18, x19, x20, x21, x22, x23], _ =>
    obtain ⟨n0, rfl, a0, b0⟩ := opn_i64 Try.underlying3 (hc 0 _ x0 rfl rfl)
    obtain ⟨n1, rfl, a1, b1⟩ := opn_i64 Try.underlying3 (hc 1 _ x1 rfl rfl)
    obtain ⟨n2, rfl, a2, b2⟩ := opn_i64 Try.underlying3 (hc 2 _ x2 rfl rfl)
    obtain ⟨n3, rfl, a3, b3⟩ := opn_i64 Try.underlying3 (hc 3 _ x3 rfl rfl)
    obtain ⟨n4, rfl, a4, b4⟩ := opn_i64 Try.underlying3 (hc 4 _ x4 rfl rfl)
    obtain ⟨n5, rfl, a5, b5⟩ := opn_i64 Try.underlying3 (hc 5 _ x5 rfl rfl)
    obtain ⟨n6, rfl, a6, b6⟩ := opn_i64 Try.underlying3 (hc 6 _ x6 rfl rfl)
    obtain ⟨n7, rfl, a7, b7⟩ := opn_i64 Try.underlying3 (hc 7 _ x7 rfl rfl)
    obtain ⟨n8, rfl, a8, b8⟩ := opn_i64 Try.underlying3 (hc 8 _ x8 rfl rfl)
    obtain ⟨n9, rfl, a9, b9⟩ := opn_i64 Try.underlying3 (hc 9 _ x9 rfl rfl)
    obtain ⟨n10, rfl, a10, b10⟩ := opn_i64 Try.underlying3 (hc 10 _ x10 rfl rfl)
    obtain ⟨n11, rfl, a11, b11⟩ := opn_i64 Try.underlying3 (hc 11 _ x11 rfl rfl)
    obtain ⟨n12, rfl, a12, b12⟩ := opn_i64 Try.underlying3 (hc 12 _ x12 rfl rfl)
    obtain ⟨n13, rfl, a13, b13⟩ := opn_i64 Try.underlying3 (hc 13 _ x13 rfl rfl)
    obtain ⟨n14, rfl, a14, b14⟩ := opn_i64 Try.underlying3 (hc 14 _ x14 rfl rfl)
    obtain ⟨n15, rfl, a15, b15⟩ := opn_i64 Try.underlying3 (hc 15 _ x15 rfl rfl)
    obtain ⟨n16, rfl, a16, b16⟩ := opn_i64 Try.underlying3 (hc 16 _ x16 rfl rfl)
    obtain ⟨n17, rfl, a17, b17⟩ := opn_i64 Try.underlying3 (hc 17 _ x17 rfl rfl)
    obtain ⟨n18, rfl, a18, b18⟩ := opn_i64 Try.underlying3 (hc 18 _ x18 rfl rfl)
    obtain ⟨n19, rfl, a19, b19⟩ := opn_i64 Try.underlying3 (hc 19 _ x19 rfl rfl)
    obtain ⟨n20, rfl, a20, b20⟩ := opn_i64 Try.underlying3 (hc 20 _ x20 rfl rfl)
    obtain ⟨n21, rfl, a21, b21⟩ := opn_i64 Try.underlying3 (hc 21 _ x21 rfl rfl)
    obtain ⟨n22, rfl, a22, b22⟩ := opn_i64 Try.underlying3 (hc 22 _ x22 rfl rfl)
    obtain ⟨n23, rfl, a23, b23⟩ := opn_i64 Try.underlying3 (hc 23 _ x23 rfl rfl)
    exact ⟨n0, n1, n2, n3, n4, n5, n6, n7, n8, n9, n10, n11, n12, n13, n14, n15, n16, n17, n18, n19, n20, n21, n22, n23, rfl, ⟨a0, b0⟩, ⟨a1, b1⟩, ⟨a2, b2⟩, ⟨a3, b3⟩, ⟨a4, b4⟩, ⟨a5, b5⟩, ⟨a6, b6⟩, ⟨a7, b7⟩, ⟨a8, b8⟩, ⟨a9, b9⟩, ⟨a10, b10⟩, ⟨a11, b11⟩, ⟨a12, b12⟩, ⟨a13, b13⟩, ⟨a14, b14⟩, ⟨a15, b15⟩, ⟨a16, b16⟩, ⟨a17, b17⟩, ⟨a18, b18⟩, ⟨a19, b19⟩, ⟨a20, b20⟩, ⟨a21, b21⟩, ⟨a22, b22⟩, ⟨a23, b23⟩⟩

theorem zeroT_pt : ZeroT Try.prog 36 #[.int .i64 0, .int .i64 0, .int .i64 0, .int .i64 0, .int .i64 0, .int .i64 0, .int .i64 0, .int .i64 0, .int .i64 0, .int .i64 0, .int .i64 0, .int .i64 0] := by
  intro ev o w ho
  unfold execOp
  simp only [ho]
  simp [go_sem]
theorem step_ex (f : Nat → Value) (c a0 a1 a2 a3 n0 n1 n2 n3 ru so se r : Int) (w : World) (hr : f 54 = .int .i64 r) (ir : InI r) (ia0 : InI a0) (ia1 : InI a1) (ia2 : InI a2) (ia3 : InI a3) (in0 : InI n0) (in1 : InI n1) (in2 : InI n2) (in3 : InI n3) :
    Calls Try.prog 12 #[.agg (mkc 56 f), .agg #[.int .i64 c, .int .i64 a0, .int .i64 a1, .int .i64 a2, .int .i64 a3, .int .i64 n0, .int .i64 n1, .int .i64 n2, .int .i64 n3, .int .i64 ru, .int .i64 so, .int .i64 se]] w fun e w' => ∃ q, e = .returned (.agg #[.int .i64 c, .int .i64 a0, .int .i64 a1, .int .i64 a2, .int .i64 a3, .int .i64 (toward n0 a0 r), .int .i64 (toward n1 a1 r), .int .i64 (toward n2 a2 r), .int .i64 (toward n3 a3 r), .int .i64 q, .int .i64 so, .int .i64 se]) ∧ Below w.heap.size w w' :=
  (step_any f c a0 a1 a2 a3 n0 n1 n2 n3 ru so se r w hr ir ia0 ia1 ia2 ia3 in0 in1 in2 in3 _ rfl).mono fun _ _ ⟨he, hb⟩ => ⟨_, he, hb⟩
theorem run_eq_self (a b c d : Int) (W : World) : (binOp .eql 29 (.agg #[.int .i64 a, .int .i64 b, .int .i64 c, .int .i64 d]) (.agg #[.int .i64 a, .int .i64 b, .int .i64 c, .int .i64 d])).run Try.prog W = .ok (.bool true) W := by
  have := run_eq_four a b c d a b c d 9998 W
  simp [go_sem, this]

set_option maxRecDepth 100000 in
set_option maxHeartbeats 1600000 in
theorem limAxes_0 (f : Nat → Value) (n0 n1 n2 n3 n4 n5 n6 n7 n8 n9 n10 n11 n12 n13 n14 n15 n16 n17 n18 n19 n20 n21 n22 n23 ax r : Int) (w : World) (hf : f 54 = .int .i64 r) (ir : InI r) (x0 : 0 ≤ ax) (x1 : ax ≤ 255) (hk : ax % 4 = 0) (i0 : InI n0) (i1 : InI n1) (i2 : InI n2) (i3 : InI n3) (i4 : InI n4) (i5 : InI n5) (i6 : InI n6) (i7 : InI n7) (i8 : InI n8) (i9 : InI n9) (i10 : InI n10) (i11 : InI n11) (i12 : InI n12) (i13 : InI n13) (i14 : InI n14) (i15 : InI n15) (i16 : InI n16) (i17 : InI n17) (i18 : InI n18) (i19 : InI n19) (i20 : InI n20) (i21 : InI n21) (i22 : InI n22) (i23 : InI n23) :
    Calls Try.prog 5 #[.agg (mkc 56 f), .agg #[.int .i64 n0, .int .i64 n1, .int .i64 n2, .int .i64 n3, .int .i64 n4, .int .i64 n5, .int .i64 n6, .int .i64 n7, .int .i64 n8, .int .i64 n9, .int .i64 n10, .int .i64 n11, .int .i64 n12, .int .i64 n13, .int .i64 n14, .int .i64 n15, .int .i64 n16, .int .i64 n17, .int .i64 n18, .int .i64 n19, .int .i64 n20, .int .i64 n21, .int .i64 n22, .int .i64 n23], .int .u8 ax] w fun e w' => e = .returned (.bool true) ∧ Below w.heap.size w w' := by
  have C1 := Lib.hid (step_ex f n0 n1 n2 n3 n4 n5 n6 n7 n8 n9 n10 n11 r · hf ir i1 i2 i3 i4 i5 i6 i7 i8)
  have C2 := Lib.hid (step_ex f n0 n13 n2 n3 n4 n17 n6 n7 n8 n9 n10 n11 r · hf ir i13 i2 i3 i4 i17 i6 i7 i8)
  have C3 := Lib.hid (step_ex f n12 n13 n14 n15 n16 n17 n18 n19 n20 n21 n22 n23 r · hf ir i13 i14 i15 i16 i17 i18 i19 i20)
  clear hf ir i0 i1 i2 i3 i4 i5 i6 i7 i8 i9 i10 i11 i12 i13 i14 i15 i16 i17 i18 i19 i20 i21 i22 i23
  generalize toward n5 n1 r = t0 at *
  generalize toward n17 n13 r = s0 at *
  generalize toward n6 n2 r = t1 at *
  generalize toward n18 n14 r = s1 at *
  generalize toward n7 n3 r = t2 at *
  generalize toward n19 n15 r = s2 at *
  generalize toward n8 n4 r = t3 at *
  generalize toward n20 n16 r = s3 at *
  go_enter Try.func5, Try.ntmps5
  go_wp2_with fail
  have KF := Lib.hid ((Blk.new w (mkc 56 f) 32).alloc (.cells #[.int .i64 n0, .int .i64 n1, .int .i64 n2, .int .i64 n3, .int .i64 n4, .int .i64 n5, .int .i64 n6, .int .i64 n7, .int .i64 n8, .int .i64 n9, .int .i64 n10, .int .i64 n11, .int .i64 n12, .int .i64 n13, .int .i64 n14, .int .i64 n15, .int .i64 n16, .int .i64 n17, .int .i64 n18, .int .i64 n19, .int .i64 n20, .int .i64 n21, .int .i64 n22, .int .i64 n23] 37))
  have KL := Lib.hid (Blk.new' (w.alloc (.cells (mkc 56 f) 32)) #[.int .i64 n0, .int .i64 n1, .int .i64 n2, .int .i64 n3, .int .i64 n4, .int .i64 n5, .int .i64 n6, .int .i64 n7, .int .i64 n8, .int .i64 n9, .int .i64 n10, .int .i64 n11, .int .i64 n12, .int .i64 n13, .int .i64 n14, .int .i64 n15, .int .i64 n16, .int .i64 n17, .int .i64 n18, .int .i64 n19, .int .i64 n20, .int .i64 n21, .int .i64 n22, .int .i64 n23] 37 (g := w.heap.size + 1) (by simp))
  have BB := Lib.hid (below_alloc2 w (.cells (mkc 56 f) 32) (.cells #[.int .i64 n0, .int .i64 n1, .int .i64 n2, .int .i64 n3, .int .i64 n4, .int .i64 n5, .int .i64 n6, .int .i64 n7, .int .i64 n8, .int .i64 n9, .int .i64 n10, .int .i64 n11, .int .i64 n12, .int .i64 n13, .int .i64 n14, .int .i64 n15, .int .i64 n16, .int .i64 n17, .int .i64 n18, .int .i64 n19, .int .i64 n20, .int .i64 n21, .int .i64 n22, .int .i64 n23] 37))
  generalize (w.alloc (.cells (mkc 56 f) 32)).alloc (.cells #[.int .i64 n0, .int .i64 n1, .int .i64 n2, .int .i64 n3, .int .i64 n4, .int .i64 n5, .int .i64 n6, .int .i64 n7, .int .i64 n8, .int .i64 n9, .int .i64 n10, .int .i64 n11, .int .i64 n12, .int .i64 n13, .int .i64 n14, .int .i64 n15, .int .i64 n16, .int .i64 n17, .int .i64 n18, .int .i64 n19, .int .i64 n20, .int .i64 n21, .int .i64 n22, .int .i64 n23] 37) = w0 at *
  ((with_reducible refine (shown21 _).mono ?_))
  rintro e w1 ⟨rfl, b1⟩
  replace KF := Lib.hid (KF.out.below b1)
  replace KL := Lib.hid (KL.out.below b1)
  replace BB := Lib.hid (bt BB.out b1)
  have l1 := KL.out.lt
  clear b1
  go_wp2_with (first | ((with_reducible show wpList _ _ _ (⟨_, .load 36 _, _, _, _, none⟩ :: _) _ _); (with_reducible refine wpBlk_mid (g := w.heap.size + 1) (off := 0) (cs := #[.int .i64 n0, .int .i64 n1, .int .i64 n2, .int .i64 n3, .int .i64 n4, .int .i64 n5, .int .i64 n6, .int .i64 n7, .int .i64 n8, .int .i64 n9, .int .i64 n10, .int .i64 n11]) agg_point ?_ ?_ KL ?_ ?_ ?_); (· exact wanted0 rfl); (· exact ⟨rfl, rfl⟩); (· rfl); (· rfl)) | ((with_reducible show wpList _ _ _ (⟨_, .alloc 36, _, _, _, none⟩ :: _) _ _); (with_reducible refine wpRow_alloc zeroT_pt ?_ ?_ ?_); (· exact wanted0 rfl); (· rfl); refine Marker.mk ?_))
  refine Marker.in ?_
  have bel := below_alloc1 w1 (.cells #[.int .i64 0, .int .i64 0, .int .i64 0, .int .i64 0, .int .i64 0, .int .i64 0, .int .i64 0, .int .i64 0, .int .i64 0, .int .i64 0, .int .i64 0, .int .i64 0] 36)
  replace KF := Lib.hid (KF.out.below bel)
  replace KL := Lib.hid (KL.out.below bel)
  replace BB := Lib.hid (bt BB.out bel)
  have KA := Lib.hid (Blk.new w1 #[.int .i64 0, .int .i64 0, .int .i64 0, .int .i64 0, .int .i64 0, .int .i64 0, .int .i64 0, .int .i64 0, .int .i64 0, .int .i64 0, .int .i64 0, .int .i64 0] 36)
  clear bel
  generalize w1.alloc (.cells #[.int .i64 0, .int .i64 0, .int .i64 0, .int .i64 0, .int .i64 0, .int .i64 0, .int .i64 0, .int .i64 0, .int .i64 0, .int .i64 0, .int .i64 0, .int .i64 0] 36) = w2 at *
  generalize w1.heap.size = g9 at *
  go_wp2_with ((with_reducible show wpList _ _ _ (⟨_, .store 36 _ _, _, _, _, none⟩ :: _) _ _); (with_reducible refine wpBlk_store (g := g9) (cs := #[.int .i64 n0, .int .i64 n1, .int .i64 n2, .int .i64 n3, .int .i64 n4, .int .i64 n5, .int .i64 n6, .int .i64 n7, .int .i64 n8, .int .i64 n9, .int .i64 n10, .int .i64 n11]) agg_point ?_ ?_ KA ?_ ?_ ?_ ?_); (· exact wanted0 rfl); (· exact ⟨rfl, rfl, rfl⟩); (· rfl); (· rfl); (· (simp [Value.oneCell']; done)); refine Marker.mk ?_)
  refine Marker.in ?_
  replace KF := Lib.hid (KF.out.setRow_other g9 #[.int .i64 n0, .int .i64 n1, .int .i64 n2, .int .i64 n3, .int .i64 n4, .int .i64 n5, .int .i64 n6, .int .i64 n7, .int .i64 n8, .int .i64 n9, .int .i64 n10, .int .i64 n11] (by omega))
  replace KL := Lib.hid (KL.out.setRow_other g9 #[.int .i64 n0, .int .i64 n1, .int .i64 n2, .int .i64 n3, .int .i64 n4, .int .i64 n5, .int .i64 n6, .int .i64 n7, .int .i64 n8, .int .i64 n9, .int .i64 n10, .int .i64 n11] (by omega))
  replace KA := Lib.hid (KA.out.setRow #[.int .i64 n0, .int .i64 n1, .int .i64 n2, .int .i64 n3, .int .i64 n4, .int .i64 n5, .int .i64 n6, .int .i64 n7, .int .i64 n8, .int .i64 n9, .int .i64 n10, .int .i64 n11])
  replace BB := Lib.hid (below_setRow (g := g9) BB.out (by omega) #[.int .i64 n0, .int .i64 n1, .int .i64 n2, .int .i64 n3, .int .i64 n4, .int .i64 n5, .int .i64 n6, .int .i64 n7, .int .i64 n8, .int .i64 n9, .int .i64 n10, .int .i64 n11])
  generalize w2.setRow g9 #[.int .i64 n0, .int .i64 n1, .int .i64 n2, .int .i64 n3, .int .i64 n4, .int .i64 n5, .int .i64 n6, .int .i64 n7, .int .i64 n8, .int .i64 n9, .int .i64 n10, .int .i64 n11] = w3 at *
  have l3 := KA.out.lt
  go_wp2_with (first | ((with_reducible show wpList _ _ _ (⟨_, .load 36 _, _, _, _, none⟩ :: _) _ _); (with_reducible refine wpBlk_load (g := g9) agg_point ?_ ?_ KA ?_ ?_); (· exact wanted0 rfl); (· exact ⟨rfl, rfl⟩); (· rfl)) | ((with_reducible show wpList _ _ _ (⟨_, .alloc 36, _, _, _, none⟩ :: _) _ _); (with_reducible refine wpRow_alloc zeroT_pt ?_ ?_ ?_); (· exact wanted0 rfl); (· rfl); refine Marker.mk ?_))
  refine Marker.in ?_
  have bel := below_alloc1 w3 (.cells #[.int .i64 0, .int .i64 0, .int .i64 0, .int .i64 0, .int .i64 0, .int .i64 0, .int .i64 0, .int .i64 0, .int .i64 0, .int .i64 0, .int .i64 0, .int .i64 0] 36)
  replace KF := Lib.hid (KF.out.below bel)
  replace KL := Lib.hid (KL.out.below bel)
  replace KA := Lib.hid (KA.out.below bel)
  replace BB := Lib.hid (bt BB.out bel)
  have KB := Lib.hid (Blk.new w3 #[.int .i64 0, .int .i64 0, .int .i64 0, .int .i64 0, .int .i64 0, .int .i64 0, .int .i64 0, .int .i64 0, .int .i64 0, .int .i64 0, .int .i64 0, .int .i64 0] 36)
  clear bel
  generalize w3.alloc (.cells #[.int .i64 0, .int .i64 0, .int .i64 0, .int .i64 0, .int .i64 0, .int .i64 0, .int .i64 0, .int .i64 0, .int .i64 0, .int .i64 0, .int .i64 0, .int .i64 0] 36) = w4 at *
  generalize w3.heap.size = g10 at *
  go_wp2_with ((with_reducible show wpList _ _ _ (⟨_, .store 36 _ _, _, _, _, none⟩ :: _) _ _); (with_reducible refine wpBlk_store (g := g10) (cs := #[.int .i64 n0, .int .i64 n1, .int .i64 n2, .int .i64 n3, .int .i64 n4, .int .i64 n5, .int .i64 n6, .int .i64 n7, .int .i64 n8, .int .i64 n9, .int .i64 n10, .int .i64 n11]) agg_point ?_ ?_ KB ?_ ?_ ?_ ?_); (· exact wanted0 rfl); (· exact ⟨rfl, rfl, rfl⟩); (· rfl); (· rfl); (· (simp [Value.oneCell']; done)); refine Marker.mk ?_)
  refine Marker.in ?_
  replace KF := Lib.hid (KF.out.setRow_other g10 #[.int .i64 n0, .int .i64 n1, .int .i64 n2, .int .i64 n3, .int .i64 n4, .int .i64 n5, .int .i64 n6, .int .i64 n7, .int .i64 n8, .int .i64 n9, .int .i64 n10, .int .i64 n11] (by omega))
  replace KL := Lib.hid (KL.out.setRow_other g10 #[.int .i64 n0, .int .i64 n1, .int .i64 n2, .int .i64 n3, .int .i64 n4, .int .i64 n5, .int .i64 n6, .int .i64 n7, .int .i64 n8, .int .i64 n9, .int .i64 n10, .int .i64 n11] (by omega))
  replace KA := Lib.hid (KA.out.setRow_other g10 #[.int .i64 n0, .int .i64 n1, .int .i64 n2, .int .i64 n3, .int .i64 n4, .int .i64 n5, .int .i64 n6, .int .i64 n7, .int .i64 n8, .int .i64 n9, .int .i64 n10, .int .i64 n11] (by omega))
  replace KB := Lib.hid (KB.out.setRow #[.int .i64 n0, .int .i64 n1, .int .i64 n2, .int .i64 n3, .int .i64 n4, .int .i64 n5, .int .i64 n6, .int .i64 n7, .int .i64 n8, .int .i64 n9, .int .i64 n10, .int .i64 n11])
  replace BB := Lib.hid (below_setRow (g := g10) BB.out (by omega) #[.int .i64 n0, .int .i64 n1, .int .i64 n2, .int .i64 n3, .int .i64 n4, .int .i64 n5, .int .i64 n6, .int .i64 n7, .int .i64 n8, .int .i64 n9, .int .i64 n10, .int .i64 n11])
  generalize w4.setRow g10 #[.int .i64 n0, .int .i64 n1, .int .i64 n2, .int .i64 n3, .int .i64 n4, .int .i64 n5, .int .i64 n6, .int .i64 n7, .int .i64 n8, .int .i64 n9, .int .i64 n10, .int .i64 n11] = w5 at *
  have l5 := KB.out.lt
  have cl := fun j => KL.out.cell j
  have cb := fun j => KB.out.cell j
  have fb := fun j => KB.out.frozen j
  go_wp2_with ((with_reducible show wpList _ _ _ (⟨_, .load 32 _, _, _, _, none⟩ :: _) _ _); refine Marker.mk ?_)
  refine Marker.in ?_
  clear cl cb fb
  replace KF := Lib.hid ((KF.out.other g10 1 (.int .i64 n13) (by omega)).other g10 5 (.int .i64 n17) (by omega))
  replace KL := Lib.hid ((KL.out.other g10 1 (.int .i64 n13) (by omega)).other g10 5 (.int .i64 n17) (by omega))
  replace KA := Lib.hid ((KA.out.other g10 1 (.int .i64 n13) (by omega)).other g10 5 (.int .i64 n17) (by omega))
  replace KB := Lib.hid (show Blk _ g10 #[.int .i64 n0, .int .i64 n13, .int .i64 n2, .int .i64 n3, .int .i64 n4, .int .i64 n17, .int .i64 n6, .int .i64 n7, .int .i64 n8, .int .i64 n9, .int .i64 n10, .int .i64 n11] 36 from (KB.out.set 1 (.int .i64 n13)).set 5 (.int .i64 n17))
  replace BB := Lib.hid ((BB.out.setCell (p := ⟨g10, 1, none⟩) (by simp; omega) (.int .i64 n13)).setCell (p := ⟨g10, 5, none⟩) (by simp; omega) (.int .i64 n17))
  generalize (w5.setCell ⟨g10, 1, none⟩ (.int .i64 n13)).setCell ⟨g10, 5, none⟩ (.int .i64 n17) = w6 at *
  go_wp2_with (first | ((with_reducible show wpList _ _ _ (⟨_, .load 32 _, _, _, _, none⟩ :: _) _ _); (with_reducible refine wpBlk_load (g := w.heap.size) agg_pol ?_ ?_ KF ?_ ?_); (· exact wanted0 rfl); (· exact ⟨rfl, rfl⟩); (· exact mkc_size _ _)) | ((with_reducible show wpList _ _ _ (⟨_, .load 36 _, _, _, _, none⟩ :: _) _ _); (with_reducible refine wpBlk_load (g := g9) agg_point ?_ ?_ KA ?_ ?_); (· exact wanted0 rfl); (· exact ⟨rfl, rfl⟩); (· rfl)))
  ((with_reducible refine (C1.out _).mono ?_))
  rintro e w7 ⟨q1, rfl, b6⟩
  replace KF := Lib.hid (KF.out.below b6)
  replace KL := Lib.hid (KL.out.below b6)
  replace KA := Lib.hid (KA.out.below b6)
  replace KB := Lib.hid (KB.out.below b6)
  replace BB := Lib.hid (bt BB.out b6)
  have lw7 := KB.out.lt
  clear b6
  go_wp2_with ((with_reducible show wpList _ _ _ (⟨_, .alloc 36, _, _, _, none⟩ :: _) _ _); (with_reducible refine wpRow_alloc zeroT_pt ?_ ?_ ?_); (· exact wanted0 rfl); (· rfl); refine Marker.mk ?_)
  refine Marker.in ?_
  have bel := below_alloc1 w7 (.cells #[.int .i64 0, .int .i64 0, .int .i64 0, .int .i64 0, .int .i64 0, .int .i64 0, .int .i64 0, .int .i64 0, .int .i64 0, .int .i64 0, .int .i64 0, .int .i64 0] 36)
  replace KF := Lib.hid (KF.out.below bel)
  replace KL := Lib.hid (KL.out.below bel)
  replace KA := Lib.hid (KA.out.below bel)
  replace KB := Lib.hid (KB.out.below bel)
  replace BB := Lib.hid (bt BB.out bel)
  have KR1 := Lib.hid (Blk.new w7 #[.int .i64 0, .int .i64 0, .int .i64 0, .int .i64 0, .int .i64 0, .int .i64 0, .int .i64 0, .int .i64 0, .int .i64 0, .int .i64 0, .int .i64 0, .int .i64 0] 36)
  clear bel
  generalize w7.alloc (.cells #[.int .i64 0, .int .i64 0, .int .i64 0, .int .i64 0, .int .i64 0, .int .i64 0, .int .i64 0, .int .i64 0, .int .i64 0, .int .i64 0, .int .i64 0, .int .i64 0] 36) = w7a at *
  generalize w7.heap.size = g11 at *
  go_wp2_with ((with_reducible show wpList _ _ _ (⟨_, .store 36 _ _, _, _, _, none⟩ :: _) _ _); (with_reducible refine wpBlk_store (g := g11) (cs := #[.int .i64 n0, .int .i64 n1, .int .i64 n2, .int .i64 n3, .int .i64 n4, .int .i64 t0, .int .i64 t1, .int .i64 t2, .int .i64 t3, .int .i64 q1, .int .i64 n10, .int .i64 n11]) agg_point ?_ ?_ KR1 ?_ ?_ ?_ ?_); (· exact wanted0 rfl); (· exact ⟨rfl, rfl, rfl⟩); (· rfl); (· rfl); (· (simp [Value.oneCell']; done)); refine Marker.mk ?_)
  refine Marker.in ?_
  replace KF := Lib.hid (KF.out.setRow_other g11 #[.int .i64 n0, .int .i64 n1, .int .i64 n2, .int .i64 n3, .int .i64 n4, .int .i64 t0, .int .i64 t1, .int .i64 t2, .int .i64 t3, .int .i64 q1, .int .i64 n10, .int .i64 n11] (by omega))
  replace KL := Lib.hid (KL.out.setRow_other g11 #[.int .i64 n0, .int .i64 n1, .int .i64 n2, .int .i64 n3, .int .i64 n4, .int .i64 t0, .int .i64 t1, .int .i64 t2, .int .i64 t3, .int .i64 q1, .int .i64 n10, .int .i64 n11] (by omega))
  replace KA := Lib.hid (KA.out.setRow_other g11 #[.int .i64 n0, .int .i64 n1, .int .i64 n2, .int .i64 n3, .int .i64 n4, .int .i64 t0, .int .i64 t1, .int .i64 t2, .int .i64 t3, .int .i64 q1, .int .i64 n10, .int .i64 n11] (by omega))
  replace KB := Lib.hid (KB.out.setRow_other g11 #[.int .i64 n0, .int .i64 n1, .int .i64 n2, .int .i64 n3, .int .i64 n4, .int .i64 t0, .int .i64 t1, .int .i64 t2, .int .i64 t3, .int .i64 q1, .int .i64 n10, .int .i64 n11] (by omega))
  replace KR1 := Lib.hid (KR1.out.setRow #[.int .i64 n0, .int .i64 n1, .int .i64 n2, .int .i64 n3, .int .i64 n4, .int .i64 t0, .int .i64 t1, .int .i64 t2, .int .i64 t3, .int .i64 q1, .int .i64 n10, .int .i64 n11])
  replace BB := Lib.hid (below_setRow (g := g11) BB.out (by omega) #[.int .i64 n0, .int .i64 n1, .int .i64 n2, .int .i64 n3, .int .i64 n4, .int .i64 t0, .int .i64 t1, .int .i64 t2, .int .i64 t3, .int .i64 q1, .int .i64 n10, .int .i64 n11])
  generalize w7a.setRow g11 #[.int .i64 n0, .int .i64 n1, .int .i64 n2, .int .i64 n3, .int .i64 n4, .int .i64 t0, .int .i64 t1, .int .i64 t2, .int .i64 t3, .int .i64 q1, .int .i64 n10, .int .i64 n11] = w7b at *
  go_wp2_with (first | ((with_reducible show wpList _ _ _ (⟨_, .load 32 _, _, _, _, none⟩ :: _) _ _); (with_reducible refine wpBlk_load (g := w.heap.size) agg_pol ?_ ?_ KF ?_ ?_); (· exact wanted0 rfl); (· exact ⟨rfl, rfl⟩); (· exact mkc_size _ _)) | ((with_reducible show wpList _ _ _ (⟨_, .load 36 _, _, _, _, none⟩ :: _) _ _); (with_reducible refine wpBlk_load (g := g10) agg_point ?_ ?_ KB ?_ ?_); (· exact wanted0 rfl); (· exact ⟨rfl, rfl⟩); (· rfl)))
  ((with_reducible refine (C2.out _).mono ?_))
  rintro e w8 ⟨q2, rfl, b6⟩
  replace KF := Lib.hid (KF.out.below b6)
  replace KL := Lib.hid (KL.out.below b6)
  replace KA := Lib.hid (KA.out.below b6)
  replace KB := Lib.hid (KB.out.below b6)
  replace KR1 := Lib.hid (KR1.out.below b6)
  replace BB := Lib.hid (bt BB.out b6)
  have lw8 := KB.out.lt
  have mw8 := KR1.out.lt
  clear b6
  go_wp2_with ((with_reducible show wpList _ _ _ (⟨_, .alloc 36, _, _, _, none⟩ :: _) _ _); (with_reducible refine wpRow_alloc zeroT_pt ?_ ?_ ?_); (· exact wanted0 rfl); (· rfl); refine Marker.mk ?_)
  refine Marker.in ?_
  have bel := below_alloc1 w8 (.cells #[.int .i64 0, .int .i64 0, .int .i64 0, .int .i64 0, .int .i64 0, .int .i64 0, .int .i64 0, .int .i64 0, .int .i64 0, .int .i64 0, .int .i64 0, .int .i64 0] 36)
  replace KF := Lib.hid (KF.out.below bel)
  replace KL := Lib.hid (KL.out.below bel)
  replace KA := Lib.hid (KA.out.below bel)
  replace KB := Lib.hid (KB.out.below bel)
  replace KR1 := Lib.hid (KR1.out.below bel)
  replace BB := Lib.hid (bt BB.out bel)
  have KR2 := Lib.hid (Blk.new w8 #[.int .i64 0, .int .i64 0, .int .i64 0, .int .i64 0, .int .i64 0, .int .i64 0, .int .i64 0, .int .i64 0, .int .i64 0, .int .i64 0, .int .i64 0, .int .i64 0] 36)
  clear bel
  generalize w8.alloc (.cells #[.int .i64 0, .int .i64 0, .int .i64 0, .int .i64 0, .int .i64 0, .int .i64 0, .int .i64 0, .int .i64 0, .int .i64 0, .int .i64 0, .int .i64 0, .int .i64 0] 36) = w8a at *
  generalize w8.heap.size = g12 at *
  go_wp2_with ((with_reducible show wpList _ _ _ (⟨_, .store 36 _ _, _, _, _, none⟩ :: _) _ _); (with_reducible refine wpBlk_store (g := g12) (cs := #[.int .i64 n0, .int .i64 n13, .int .i64 n2, .int .i64 n3, .int .i64 n4, .int .i64 s0, .int .i64 t1, .int .i64 t2, .int .i64 t3, .int .i64 q2, .int .i64 n10, .int .i64 n11]) agg_point ?_ ?_ KR2 ?_ ?_ ?_ ?_); (· exact wanted0 rfl); (· exact ⟨rfl, rfl, rfl⟩); (· rfl); (· rfl); (· (simp [Value.oneCell']; done)); refine Marker.mk ?_)
  refine Marker.in ?_
  replace KF := Lib.hid (KF.out.setRow_other g12 #[.int .i64 n0, .int .i64 n13, .int .i64 n2, .int .i64 n3, .int .i64 n4, .int .i64 s0, .int .i64 t1, .int .i64 t2, .int .i64 t3, .int .i64 q2, .int .i64 n10, .int .i64 n11] (by omega))
  replace KL := Lib.hid (KL.out.setRow_other g12 #[.int .i64 n0, .int .i64 n13, .int .i64 n2, .int .i64 n3, .int .i64 n4, .int .i64 s0, .int .i64 t1, .int .i64 t2, .int .i64 t3, .int .i64 q2, .int .i64 n10, .int .i64 n11] (by omega))
  replace KA := Lib.hid (KA.out.setRow_other g12 #[.int .i64 n0, .int .i64 n13, .int .i64 n2, .int .i64 n3, .int .i64 n4, .int .i64 s0, .int .i64 t1, .int .i64 t2, .int .i64 t3, .int .i64 q2, .int .i64 n10, .int .i64 n11] (by omega))
  replace KB := Lib.hid (KB.out.setRow_other g12 #[.int .i64 n0, .int .i64 n13, .int .i64 n2, .int .i64 n3, .int .i64 n4, .int .i64 s0, .int .i64 t1, .int .i64 t2, .int .i64 t3, .int .i64 q2, .int .i64 n10, .int .i64 n11] (by omega))
  replace KR1 := Lib.hid (KR1.out.setRow_other g12 #[.int .i64 n0, .int .i64 n13, .int .i64 n2, .int .i64 n3, .int .i64 n4, .int .i64 s0, .int .i64 t1, .int .i64 t2, .int .i64 t3, .int .i64 q2, .int .i64 n10, .int .i64 n11] (by omega))
  replace KR2 := Lib.hid (KR2.out.setRow #[.int .i64 n0, .int .i64 n13, .int .i64 n2, .int .i64 n3, .int .i64 n4, .int .i64 s0, .int .i64 t1, .int .i64 t2, .int .i64 t3, .int .i64 q2, .int .i64 n10, .int .i64 n11])
  replace BB := Lib.hid (below_setRow (g := g12) BB.out (by omega) #[.int .i64 n0, .int .i64 n13, .int .i64 n2, .int .i64 n3, .int .i64 n4, .int .i64 s0, .int .i64 t1, .int .i64 t2, .int .i64 t3, .int .i64 q2, .int .i64 n10, .int .i64 n11])
  generalize w8a.setRow g12 #[.int .i64 n0, .int .i64 n13, .int .i64 n2, .int .i64 n3, .int .i64 n4, .int .i64 s0, .int .i64 t1, .int .i64 t2, .int .i64 t3, .int .i64 q2, .int .i64 n10, .int .i64 n11] = w8b at *
  go_wp2_with (first | ((with_reducible show wpList _ _ _ (⟨_, .load 32 _, _, _, _, none⟩ :: _) _ _); (with_reducible refine wpBlk_load (g := w.heap.size) agg_pol ?_ ?_ KF ?_ ?_); (· exact wanted0 rfl); (· exact ⟨rfl, rfl⟩); (· exact mkc_size _ _)) | ((with_reducible show wpList _ _ _ (⟨_, .load 36 _, _, _, _, none⟩ :: _) _ _); (with_reducible refine wpBlk_mid (g := w.heap.size + 1) (off := 12) (cs := #[.int .i64 n12, .int .i64 n13, .int .i64 n14, .int .i64 n15, .int .i64 n16, .int .i64 n17, .int .i64 n18, .int .i64 n19, .int .i64 n20, .int .i64 n21, .int .i64 n22, .int .i64 n23]) agg_point ?_ ?_ KL ?_ ?_ ?_); (· exact wanted0 rfl); (· exact ⟨rfl, rfl⟩); (· rfl); (· rfl)))
  ((with_reducible refine (C3.out _).mono ?_))
  rintro e w9 ⟨q3, rfl, b6⟩
  replace KF := Lib.hid (KF.out.below b6)
  replace KL := Lib.hid (KL.out.below b6)
  replace KA := Lib.hid (KA.out.below b6)
  replace KB := Lib.hid (KB.out.below b6)
  replace KR1 := Lib.hid (KR1.out.below b6)
  replace KR2 := Lib.hid (KR2.out.below b6)
  replace BB := Lib.hid (bt BB.out b6)
  have lw9 := KB.out.lt
  have mw9 := KR2.out.lt
  clear b6
  go_wp2_with ((with_reducible show wpList _ _ _ (⟨_, .alloc 36, _, _, _, none⟩ :: _) _ _); (with_reducible refine wpRow_alloc zeroT_pt ?_ ?_ ?_); (· exact wanted0 rfl); (· rfl); refine Marker.mk ?_)
  refine Marker.in ?_
  have bel := below_alloc1 w9 (.cells #[.int .i64 0, .int .i64 0, .int .i64 0, .int .i64 0, .int .i64 0, .int .i64 0, .int .i64 0, .int .i64 0, .int .i64 0, .int .i64 0, .int .i64 0, .int .i64 0] 36)
  replace KF := Lib.hid (KF.out.below bel)
  replace KL := Lib.hid (KL.out.below bel)
  replace KA := Lib.hid (KA.out.below bel)
  replace KB := Lib.hid (KB.out.below bel)
  replace KR1 := Lib.hid (KR1.out.below bel)
  replace KR2 := Lib.hid (KR2.out.below bel)
  replace BB := Lib.hid (bt BB.out bel)
  have KR3 := Lib.hid (Blk.new w9 #[.int .i64 0, .int .i64 0, .int .i64 0, .int .i64 0, .int .i64 0, .int .i64 0, .int .i64 0, .int .i64 0, .int .i64 0, .int .i64 0, .int .i64 0, .int .i64 0] 36)
  clear bel
  generalize w9.alloc (.cells #[.int .i64 0, .int .i64 0, .int .i64 0, .int .i64 0, .int .i64 0, .int .i64 0, .int .i64 0, .int .i64 0, .int .i64 0, .int .i64 0, .int .i64 0, .int .i64 0] 36) = w9a at *
  generalize w9.heap.size = g13 at *
  go_wp2_with ((with_reducible show wpList _ _ _ (⟨_, .store 36 _ _, _, _, _, none⟩ :: _) _ _); (with_reducible refine wpBlk_store (g := g13) (cs := #[.int .i64 n12, .int .i64 n13, .int .i64 n14, .int .i64 n15, .int .i64 n16, .int .i64 s0, .int .i64 s1, .int .i64 s2, .int .i64 s3, .int .i64 q3, .int .i64 n22, .int .i64 n23]) agg_point ?_ ?_ KR3 ?_ ?_ ?_ ?_); (· exact wanted0 rfl); (· exact ⟨rfl, rfl, rfl⟩); (· rfl); (· rfl); (· (simp [Value.oneCell']; done)); refine Marker.mk ?_)
  refine Marker.in ?_
  replace KF := Lib.hid (KF.out.setRow_other g13 #[.int .i64 n12, .int .i64 n13, .int .i64 n14, .int .i64 n15, .int .i64 n16, .int .i64 s0, .int .i64 s1, .int .i64 s2, .int .i64 s3, .int .i64 q3, .int .i64 n22, .int .i64 n23] (by omega))
  replace KL := Lib.hid (KL.out.setRow_other g13 #[.int .i64 n12, .int .i64 n13, .int .i64 n14, .int .i64 n15, .int .i64 n16, .int .i64 s0, .int .i64 s1, .int .i64 s2, .int .i64 s3, .int .i64 q3, .int .i64 n22, .int .i64 n23] (by omega))
  replace KA := Lib.hid (KA.out.setRow_other g13 #[.int .i64 n12, .int .i64 n13, .int .i64 n14, .int .i64 n15, .int .i64 n16, .int .i64 s0, .int .i64 s1, .int .i64 s2, .int .i64 s3, .int .i64 q3, .int .i64 n22, .int .i64 n23] (by omega))
  replace KB := Lib.hid (KB.out.setRow_other g13 #[.int .i64 n12, .int .i64 n13, .int .i64 n14, .int .i64 n15, .int .i64 n16, .int .i64 s0, .int .i64 s1, .int .i64 s2, .int .i64 s3, .int .i64 q3, .int .i64 n22, .int .i64 n23] (by omega))
  replace KR1 := Lib.hid (KR1.out.setRow_other g13 #[.int .i64 n12, .int .i64 n13, .int .i64 n14, .int .i64 n15, .int .i64 n16, .int .i64 s0, .int .i64 s1, .int .i64 s2, .int .i64 s3, .int .i64 q3, .int .i64 n22, .int .i64 n23] (by omega))
  replace KR2 := Lib.hid (KR2.out.setRow_other g13 #[.int .i64 n12, .int .i64 n13, .int .i64 n14, .int .i64 n15, .int .i64 n16, .int .i64 s0, .int .i64 s1, .int .i64 s2, .int .i64 s3, .int .i64 q3, .int .i64 n22, .int .i64 n23] (by omega))
  replace KR3 := Lib.hid (KR3.out.setRow #[.int .i64 n12, .int .i64 n13, .int .i64 n14, .int .i64 n15, .int .i64 n16, .int .i64 s0, .int .i64 s1, .int .i64 s2, .int .i64 s3, .int .i64 q3, .int .i64 n22, .int .i64 n23])
  replace BB := Lib.hid (below_setRow (g := g13) BB.out (by omega) #[.int .i64 n12, .int .i64 n13, .int .i64 n14, .int .i64 n15, .int .i64 n16, .int .i64 s0, .int .i64 s1, .int .i64 s2, .int .i64 s3, .int .i64 q3, .int .i64 n22, .int .i64 n23])
  generalize w9a.setRow g13 #[.int .i64 n12, .int .i64 n13, .int .i64 n14, .int .i64 n15, .int .i64 n16, .int .i64 s0, .int .i64 s1, .int .i64 s2, .int .i64 s3, .int .i64 q3, .int .i64 n22, .int .i64 n23] = w9b at *
  have c1 := fun j => KR1.out.cell j
  have c2 := fun j => KR2.out.cell j
  have c3 := fun j => KR3.out.cell j
  have ca := fun j => KA.out.cell j
  have cb := fun j => KB.out.cell j
  have EA := fun W => (run_eq_self n1 n2 n3 n4 W)
  have EB := fun W => (run_eq_self n13 n2 n3 n4 W)
  go_wp2_with fail
  refine wp_loop_rounds 5 ?_
  rw [rounds_succ]
  go_wp2_with fail
  go_quiet (fail)
  go_wp2_with fail
  rw [rounds_succ]
  go_wp2_with fail
  go_quiet (fail)
  go_wp2_with fail
  rw [rounds_succ]
  go_wp2_with fail
  go_quiet (fail)
  go_wp2_with fail
  rw [rounds_succ]
  go_wp2_with fail
  go_quiet (fail)
  go_wp2_with fail
  rw [rounds_succ]
  go_wp2_with fail
  go_quiet (fail)
  go_wp2_with fail
  go_ret
  exact ⟨rfl, below_drewN (below_drewN BB.out _) _⟩

set_option maxRecDepth 100000 in
set_option maxHeartbeats 1600000 in
theorem limAxes_1 (f : Nat → Value) (n0 n1 n2 n3 n4 n5 n6 n7 n8 n9 n10 n11 n12 n13 n14 n15 n16 n17 n18 n19 n20 n21 n22 n23 ax r : Int) (w : World) (hf : f 54 = .int .i64 r) (ir : InI r) (x0 : 0 ≤ ax) (x1 : ax ≤ 255) (hk : ax % 4 = 1) (i0 : InI n0) (i1 : InI n1) (i2 : InI n2) (i3 : InI n3) (i4 : InI n4) (i5 : InI n5) (i6 : InI n6) (i7 : InI n7) (i8 : InI n8) (i9 : InI n9) (i10 : InI n10) (i11 : InI n11) (i12 : InI n12) (i13 : InI n13) (i14 : InI n14) (i15 : InI n15) (i16 : InI n16) (i17 : InI n17) (i18 : InI n18) (i19 : InI n19) (i20 : InI n20) (i21 : InI n21) (i22 : InI n22) (i23 : InI n23) :
    Calls Try.prog 5 #[.agg (mkc 56 f), .agg #[.int .i64 n0, .int .i64 n1, .int .i64 n2, .int .i64 n3, .int .i64 n4, .int .i64 n5, .int .i64 n6, .int .i64 n7, .int .i64 n8, .int .i64 n9, .int .i64 n10, .int .i64 n11, .int .i64 n12, .int .i64 n13, .int .i64 n14, .int .i64 n15, .int .i64 n16, .int .i64 n17, .int .i64 n18, .int .i64 n19, .int .i64 n20, .int .i64 n21, .int .i64 n22, .int .i64 n23], .int .u8 ax] w fun e w' => e = .returned (.bool true) ∧ Below w.heap.size w w' := by
  have C1 := Lib.hid (step_ex f n0 n1 n2 n3 n4 n5 n6 n7 n8 n9 n10 n11 r · hf ir i1 i2 i3 i4 i5 i6 i7 i8)
  have C2 := Lib.hid (step_ex f n0 n1 n14 n3 n4 n5 n18 n7 n8 n9 n10 n11 r · hf ir i1 i14 i3 i4 i5 i18 i7 i8)
  have C3 := Lib.hid (step_ex f n12 n13 n14 n15 n16 n17 n18 n19 n20 n21 n22 n23 r · hf ir i13 i14 i15 i16 i17 i18 i19 i20)
  clear hf ir i0 i1 i2 i3 i4 i5 i6 i7 i8 i9 i10 i11 i12 i13 i14 i15 i16 i17 i18 i19 i20 i21 i22 i23
  generalize toward n5 n1 r = t0 at *
  generalize toward n17 n13 r = s0 at *
  generalize toward n6 n2 r = t1 at *
  generalize toward n18 n14 r = s1 at *
  generalize toward n7 n3 r = t2 at *
  generalize toward n19 n15 r = s2 at *
  generalize toward n8 n4 r = t3 at *
  generalize toward n20 n16 r = s3 at *
  go_enter Try.func5, Try.ntmps5
  go_wp2_with fail
  have KF := Lib.hid ((Blk.new w (mkc 56 f) 32).alloc (.cells #[.int .i64 n0, .int .i64 n1, .int .i64 n2, .int .i64 n3, .int .i64 n4, .int .i64 n5, .int .i64 n6, .int .i64 n7, .int .i64 n8, .int .i64 n9, .int .i64 n10, .int .i64 n11, .int .i64 n12, .int .i64 n13, .int .i64 n14, .int .i64 n15, .int .i64 n16, .int .i64 n17, .int .i64 n18, .int .i64 n19, .int .i64 n20, .int .i64 n21, .int .i64 n22, .int .i64 n23] 37))
  have KL := Lib.hid (Blk.new' (w.alloc (.cells (mkc 56 f) 32)) #[.int .i64 n0, .int .i64 n1, .int .i64 n2, .int .i64 n3, .int .i64 n4, .int .i64 n5, .int .i64 n6, .int .i64 n7, .int .i64 n8, .int .i64 n9, .int .i64 n10, .int .i64 n11, .int .i64 n12, .int .i64 n13, .int .i64 n14, .int .i64 n15, .int .i64 n16, .int .i64 n17, .int .i64 n18, .int .i64 n19, .int .i64 n20, .int .i64 n21, .int .i64 n22, .int .i64 n23] 37 (g := w.heap.size + 1) (by simp))
  have BB := Lib.hid (below_alloc2 w (.cells (mkc 56 f) 32) (.cells #[.int .i64 n0, .int .i64 n1, .int .i64 n2, .int .i64 n3, .int .i64 n4, .int .i64 n5, .int .i64 n6, .int .i64 n7, .int .i64 n8, .int .i64 n9, .int .i64 n10, .int .i64 n11, .int .i64 n12, .int .i64 n13, .int .i64 n14, .int .i64 n15, .int .i64 n16, .int .i64 n17, .int .i64 n18, .int .i64 n19, .int .i64 n20, .int .i64 n21, .int .i64 n22, .int .i64 n23] 37))
  generalize (w.alloc (.cells (mkc 56 f) 32)).alloc (.cells #[.int .i64 n0, .int .i64 n1, .int .i64 n2, .int .i64 n3, .int .i64 n4, .int .i64 n5, .int .i64 n6, .int .i64 n7, .int .i64 n8, .int .i64 n9, .int .i64 n10, .int .i64 n11, .int .i64 n12, .int .i64 n13, .int .i64 n14, .int .i64 n15, .int .i64 n16, .int .i64 n17, .int .i64 n18, .int .i64 n19, .int .i64 n20, .int .i64 n21, .int .i64 n22, .int .i64 n23] 37) = w0 at *
  ((with_reducible refine (shown21 _).mono ?_))
  rintro e w1 ⟨rfl, b1⟩
  replace KF := Lib.hid (KF.out.below b1)
  replace KL := Lib.hid (KL.out.below b1)
  replace BB := Lib.hid (bt BB.out b1)
  have l1 := KL.out.lt
  clear b1
  go_wp2_with (first | ((with_reducible show wpList _ _ _ (⟨_, .load 36 _, _, _, _, none⟩ :: _) _ _); (with_reducible refine wpBlk_mid (g := w.heap.size + 1) (off := 0) (cs := #[.int .i64 n0, .int .i64 n1, .int .i64 n2, .int .i64 n3, .int .i64 n4, .int .i64 n5, .int .i64 n6, .int .i64 n7, .int .i64 n8, .int .i64 n9, .int .i64 n10, .int .i64 n11]) agg_point ?_ ?_ KL ?_ ?_ ?_); (· exact wanted0 rfl); (· exact ⟨rfl, rfl⟩); (· rfl); (· rfl)) | ((with_reducible show wpList _ _ _ (⟨_, .alloc 36, _, _, _, none⟩ :: _) _ _); (with_reducible refine wpRow_alloc zeroT_pt ?_ ?_ ?_); (· exact wanted0 rfl); (· rfl); refine Marker.mk ?_))
  refine Marker.in ?_
  have bel := below_alloc1 w1 (.cells #[.int .i64 0, .int .i64 0, .int .i64 0, .int .i64 0, .int .i64 0, .int .i64 0, .int .i64 0, .int .i64 0, .int .i64 0, .int .i64 0, .int .i64 0, .int .i64 0] 36)
  replace KF := Lib.hid (KF.out.below bel)
  replace KL := Lib.hid (KL.out.below bel)
  replace BB := Lib.hid (bt BB.out bel)
  have KA := Lib.hid (Blk.new w1 #[.int .i64 0, .int .i64 0, .int .i64 0, .int .i64 0, .int .i64 0, .int .i64 0, .int .i64 0, .int .i64 0, .int .i64 0, .int .i64 0, .int .i64 0, .int .i64 0] 36)
  clear bel
  generalize w1.alloc (.cells #[.int .i64 0, .int .i64 0, .int .i64 0, .int .i64 0, .int .i64 0, .int .i64 0, .int .i64 0, .int .i64 0, .int .i64 0, .int .i64 0, .int .i64 0, .int .i64 0] 36) = w2 at *
  generalize w1.heap.size = g9 at *
  go_wp2_with ((with_reducible show wpList _ _ _ (⟨_, .store 36 _ _, _, _, _, none⟩ :: _) _ _); (with_reducible refine wpBlk_store (g := g9) (cs := #[.int .i64 n0, .int .i64 n1, .int .i64 n2, .int .i64 n3, .int .i64 n4, .int .i64 n5, .int .i64 n6, .int .i64 n7, .int .i64 n8, .int .i64 n9, .int .i64 n10, .int .i64 n11]) agg_point ?_ ?_ KA ?_ ?_ ?_ ?_); (· exact wanted0 rfl); (· exact ⟨rfl, rfl, rfl⟩); (· rfl); (· rfl); (· (simp [Value.oneCell']; done)); refine Marker.mk ?_)
  refine Marker.in ?_
  replace KF := Lib.hid (KF.out.setRow_other g9 #[.int .i64 n0, .int .i64 n1, .int .i64 n2, .int .i64 n3, .int .i64 n4, .int .i64 n5, .int .i64 n6, .int .i64 n7, .int .i64 n8, .int .i64 n9, .int .i64 n10, .int .i64 n11] (by omega))
  replace KL := Lib.hid (KL.out.setRow_other g9 #[.int .i64 n0, .int .i64 n1, .int .i64 n2, .int .i64 n3, .int .i64 n4, .int .i64 n5, .int .i64 n6, .int .i64 n7, .int .i64 n8, .int .i64 n9, .int .i64 n10, .int .i64 n11] (by omega))
  replace KA := Lib.hid (KA.out.setRow #[.int .i64 n0, .int .i64 n1, .int .i64 n2, .int .i64 n3, .int .i64 n4, .int .i64 n5, .int .i64 n6, .int .i64 n7, .int .i64 n8, .int .i64 n9, .int .i64 n10, .int .i64 n11])
  replace BB := Lib.hid (below_setRow (g := g9) BB.out (by omega) #[.int .i64 n0, .int .i64 n1, .int .i64 n2, .int .i64 n3, .int .i64 n4, .int .i64 n5, .int .i64 n6, .int .i64 n7, .int .i64 n8, .int .i64 n9, .int .i64 n10, .int .i64 n11])
  generalize w2.setRow g9 #[.int .i64 n0, .int .i64 n1, .int .i64 n2, .int .i64 n3, .int .i64 n4, .int .i64 n5, .int .i64 n6, .int .i64 n7, .int .i64 n8, .int .i64 n9, .int .i64 n10, .int .i64 n11] = w3 at *
  have l3 := KA.out.lt
  go_wp2_with (first | ((with_reducible show wpList _ _ _ (⟨_, .load 36 _, _, _, _, none⟩ :: _) _ _); (with_reducible refine wpBlk_load (g := g9) agg_point ?_ ?_ KA ?_ ?_); (· exact wanted0 rfl); (· exact ⟨rfl, rfl⟩); (· rfl)) | ((with_reducible show wpList _ _ _ (⟨_, .alloc 36, _, _, _, none⟩ :: _) _ _); (with_reducible refine wpRow_alloc zeroT_pt ?_ ?_ ?_); (· exact wanted0 rfl); (· rfl); refine Marker.mk ?_))
  refine Marker.in ?_
  have bel := below_alloc1 w3 (.cells #[.int .i64 0, .int .i64 0, .int .i64 0, .int .i64 0, .int .i64 0, .int .i64 0, .int .i64 0, .int .i64 0, .int .i64 0, .int .i64 0, .int .i64 0, .int .i64 0] 36)
  replace KF := Lib.hid (KF.out.below bel)
  replace KL := Lib.hid (KL.out.below bel)
  replace KA := Lib.hid (KA.out.below bel)
  replace BB := Lib.hid (bt BB.out bel)
  have KB := Lib.hid (Blk.new w3 #[.int .i64 0, .int .i64 0, .int .i64 0, .int .i64 0, .int .i64 0, .int .i64 0, .int .i64 0, .int .i64 0, .int .i64 0, .int .i64 0, .int .i64 0, .int .i64 0] 36)
  clear bel
  generalize w3.alloc (.cells #[.int .i64 0, .int .i64 0, .int .i64 0, .int .i64 0, .int .i64 0, .int .i64 0, .int .i64 0, .int .i64 0, .int .i64 0, .int .i64 0, .int .i64 0, .int .i64 0] 36) = w4 at *
  generalize w3.heap.size = g10 at *
  go_wp2_with ((with_reducible show wpList _ _ _ (⟨_, .store 36 _ _, _, _, _, none⟩ :: _) _ _); (with_reducible refine wpBlk_store (g := g10) (cs := #[.int .i64 n0, .int .i64 n1, .int .i64 n2, .int .i64 n3, .int .i64 n4, .int .i64 n5, .int .i64 n6, .int .i64 n7, .int .i64 n8, .int .i64 n9, .int .i64 n10, .int .i64 n11]) agg_point ?_ ?_ KB ?_ ?_ ?_ ?_); (· exact wanted0 rfl); (· exact ⟨rfl, rfl, rfl⟩); (· rfl); (· rfl); (· (simp [Value.oneCell']; done)); refine Marker.mk ?_)
  refine Marker.in ?_
  replace KF := Lib.hid (KF.out.setRow_other g10 #[.int .i64 n0, .int .i64 n1, .int .i64 n2, .int .i64 n3, .int .i64 n4, .int .i64 n5, .int .i64 n6, .int .i64 n7, .int .i64 n8, .int .i64 n9, .int .i64 n10, .int .i64 n11] (by omega))
  replace KL := Lib.hid (KL.out.setRow_other g10 #[.int .i64 n0, .int .i64 n1, .int .i64 n2, .int .i64 n3, .int .i64 n4, .int .i64 n5, .int .i64 n6, .int .i64 n7, .int .i64 n8, .int .i64 n9, .int .i64 n10, .int .i64 n11] (by omega))
  replace KA := Lib.hid (KA.out.setRow_other g10 #[.int .i64 n0, .int .i64 n1, .int .i64 n2, .int .i64 n3, .int .i64 n4, .int .i64 n5, .int .i64 n6, .int .i64 n7, .int .i64 n8, .int .i64 n9, .int .i64 n10, .int .i64 n11] (by omega))
  replace KB := Lib.hid (KB.out.setRow #[.int .i64 n0, .int .i64 n1, .int .i64 n2, .int .i64 n3, .int .i64 n4, .int .i64 n5, .int .i64 n6, .int .i64 n7, .int .i64 n8, .int .i64 n9, .int .i64 n10, .int .i64 n11])
  replace BB := Lib.hid (below_setRow (g := g10) BB.out (by omega) #[.int .i64 n0, .int .i64 n1, .int .i64 n2, .int .i64 n3, .int .i64 n4, .int .i64 n5, .int .i64 n6, .int .i64 n7, .int .i64 n8, .int .i64 n9, .int .i64 n10, .int .i64 n11])
  generalize w4.setRow g10 #[.int .i64 n0, .int .i64 n1, .int .i64 n2, .int .i64 n3, .int .i64 n4, .int .i64 n5, .int .i64 n6, .int .i64 n7, .int .i64 n8, .int .i64 n9, .int .i64 n10, .int .i64 n11] = w5 at *
  have l5 := KB.out.lt
  have cl := fun j => KL.out.cell j
  have cb := fun j => KB.out.cell j
  have fb := fun j => KB.out.frozen j
  go_wp2_with ((with_reducible show wpList _ _ _ (⟨_, .load 32 _, _, _, _, none⟩ :: _) _ _); refine Marker.mk ?_)
  refine Marker.in ?_
  clear cl cb fb
  replace KF := Lib.hid ((KF.out.other g10 2 (.int .i64 n14) (by omega)).other g10 6 (.int .i64 n18) (by omega))
  replace KL := Lib.hid ((KL.out.other g10 2 (.int .i64 n14) (by omega)).other g10 6 (.int .i64 n18) (by omega))
  replace KA := Lib.hid ((KA.out.other g10 2 (.int .i64 n14) (by omega)).other g10 6 (.int .i64 n18) (by omega))
  replace KB := Lib.hid (show Blk _ g10 #[.int .i64 n0, .int .i64 n1, .int .i64 n14, .int .i64 n3, .int .i64 n4, .int .i64 n5, .int .i64 n18, .int .i64 n7, .int .i64 n8, .int .i64 n9, .int .i64 n10, .int .i64 n11] 36 from (KB.out.set 2 (.int .i64 n14)).set 6 (.int .i64 n18))
  replace BB := Lib.hid ((BB.out.setCell (p := ⟨g10, 2, none⟩) (by simp; omega) (.int .i64 n14)).setCell (p := ⟨g10, 6, none⟩) (by simp; omega) (.int .i64 n18))
  generalize (w5.setCell ⟨g10, 2, none⟩ (.int .i64 n14)).setCell ⟨g10, 6, none⟩ (.int .i64 n18) = w6 at *
  go_wp2_with (first | ((with_reducible show wpList _ _ _ (⟨_, .load 32 _, _, _, _, none⟩ :: _) _ _); (with_reducible refine wpBlk_load (g := w.heap.size) agg_pol ?_ ?_ KF ?_ ?_); (· exact wanted0 rfl); (· exact ⟨rfl, rfl⟩); (· exact mkc_size _ _)) | ((with_reducible show wpList _ _ _ (⟨_, .load 36 _, _, _, _, none⟩ :: _) _ _); (with_reducible refine wpBlk_load (g := g9) agg_point ?_ ?_ KA ?_ ?_); (· exact wanted0 rfl); (· exact ⟨rfl, rfl⟩); (· rfl)))
  ((with_reducible refine (C1.out _).mono ?_))
  rintro e w7 ⟨q1, rfl, b6⟩
  replace KF := Lib.hid (KF.out.below b6)
  replace KL := Lib.hid (KL.out.below b6)
  replace KA := Lib.hid (KA.out.below b6)
  replace KB := Lib.hid (KB.out.below b6)
  replace BB := Lib.hid (bt BB.out b6)
  have lw7 := KB.out.lt
  clear b6
  go_wp2_with ((with_reducible show wpList _ _ _ (⟨_, .alloc 36, _, _, _, none⟩ :: _) _ _); (with_reducible refine wpRow_alloc zeroT_pt ?_ ?_ ?_); (· exact wanted0 rfl); (· rfl); refine Marker.mk ?_)
  refine Marker.in ?_
  have bel := below_alloc1 w7 (.cells #[.int .i64 0, .int .i64 0, .int .i64 0, .int .i64 0, .int .i64 0, .int .i64 0, .int .i64 0, .int .i64 0, .int .i64 0, .int .i64 0, .int .i64 0, .int .i64 0] 36)
  replace KF := Lib.hid (KF.out.below bel)
  replace KL := Lib.hid (KL.out.below bel)
  replace KA := Lib.hid (KA.out.below bel)
  replace KB := Lib.hid (KB.out.below bel)
  replace BB := Lib.hid (bt BB.out bel)
  have KR1 := Lib.hid (Blk.new w7 #[.int .i64 0, .int .i64 0, .int .i64 0, .int .i64 0, .int .i64 0, .int .i64 0, .int .i64 0, .int .i64 0, .int .i64 0, .int .i64 0, .int .i64 0, .int .i64 0] 36)
  clear bel
  generalize w7.alloc (.cells #[.int .i64 0, .int .i64 0, .int .i64 0, .int .i64 0, .int .i64 0, .int .i64 0, .int .i64 0, .int .i64 0, .int .i64 0, .int .i64 0, .int .i64 0, .int .i64 0] 36) = w7a at *
  generalize w7.heap.size = g11 at *
  go_wp2_with ((with_reducible show wpList _ _ _ (⟨_, .store 36 _ _, _, _, _, none⟩ :: _) _ _); (with_reducible refine wpBlk_store (g := g11) (cs := #[.int .i64 n0, .int .i64 n1, .int .i64 n2, .int .i64 n3, .int .i64 n4, .int .i64 t0, .int .i64 t1, .int .i64 t2, .int .i64 t3, .int .i64 q1, .int .i64 n10, .int .i64 n11]) agg_point ?_ ?_ KR1 ?_ ?_ ?_ ?_); (· exact wanted0 rfl); (· exact ⟨rfl, rfl, rfl⟩); (· rfl); (· rfl); (· (simp [Value.oneCell']; done)); refine Marker.mk ?_)
  refine Marker.in ?_
  replace KF := Lib.hid (KF.out.setRow_other g11 #[.int .i64 n0, .int .i64 n1, .int .i64 n2, .int .i64 n3, .int .i64 n4, .int .i64 t0, .int .i64 t1, .int .i64 t2, .int .i64 t3, .int .i64 q1, .int .i64 n10, .int .i64 n11] (by omega))
  replace KL := Lib.hid (KL.out.setRow_other g11 #[.int .i64 n0, .int .i64 n1, .int .i64 n2, .int .i64 n3, .int .i64 n4, .int .i64 t0, .int .i64 t1, .int .i64 t2, .int .i64 t3, .int .i64 q1, .int .i64 n10, .int .i64 n11] (by omega))
  replace KA := Lib.hid (KA.out.setRow_other g11 #[.int .i64 n0, .int .i64 n1, .int .i64 n2, .int .i64 n3, .int .i64 n4, .int .i64 t0, .int .i64 t1, .int .i64 t2, .int .i64 t3, .int .i64 q1, .int .i64 n10, .int .i64 n11] (by omega))
  replace KB := Lib.hid (KB.out.setRow_other g11 #[.int .i64 n0, .int .i64 n1, .int .i64 n2, .int .i64 n3, .int .i64 n4, .int .i64 t0, .int .i64 t1, .int .i64 t2, .int .i64 t3, .int .i64 q1, .int .i64 n10, .int .i64 n11] (by omega))
  replace KR1 := Lib.hid (KR1.out.setRow #[.int .i64 n0, .int .i64 n1, .int .i64 n2, .int .i64 n3, .int .i64 n4, .int .i64 t0, .int .i64 t1, .int .i64 t2, .int .i64 t3, .int .i64 q1, .int .i64 n10, .int .i64 n11])
  replace BB := Lib.hid (below_setRow (g := g11) BB.out (by omega) #[.int .i64 n0, .int .i64 n1, .int .i64 n2, .int .i64 n3, .int .i64 n4, .int .i64 t0, .int .i64 t1, .int .i64 t2, .int .i64 t3, .int .i64 q1, .int .i64 n10, .int .i64 n11])
  generalize w7a.setRow g11 #[.int .i64 n0, .int .i64 n1, .int .i64 n2, .int .i64 n3, .int .i64 n4, .int .i64 t0, .int .i64 t1, .int .i64 t2, .int .i64 t3, .int .i64 q1, .int .i64 n10, .int .i64 n11] = w7b at *
  go_wp2_with (first | ((with_reducible show wpList _ _ _ (⟨_, .load 32 _, _, _, _, none⟩ :: _) _ _); (with_reducible refine wpBlk_load (g := w.heap.size) agg_pol ?_ ?_ KF ?_ ?_); (· exact wanted0 rfl); (· exact ⟨rfl, rfl⟩); (· exact mkc_size _ _)) | ((with_reducible show wpList _ _ _ (⟨_, .load 36 _, _, _, _, none⟩ :: _) _ _); (with_reducible refine wpBlk_load (g := g10) agg_point ?_ ?_ KB ?_ ?_); (· exact wanted0 rfl); (· exact ⟨rfl, rfl⟩); (· rfl)))
  ((with_reducible refine (C2.out _).mono ?_))
  rintro e w8 ⟨q2, rfl, b6⟩
  replace KF := Lib.hid (KF.out.below b6)
  replace KL := Lib.hid (KL.out.below b6)
  replace KA := Lib.hid (KA.out.below b6)
  replace KB := Lib.hid (KB.out.below b6)
  replace KR1 := Lib.hid (KR1.out.below b6)
  replace BB := Lib.hid (bt BB.out b6)
  have lw8 := KB.out.lt
  have mw8 := KR1.out.lt
  clear b6
  go_wp2_with ((with_reducible show wpList _ _ _ (⟨_, .alloc 36, _, _, _, none⟩ :: _) _ _); (with_reducible refine wpRow_alloc zeroT_pt ?_ ?_ ?_); (· exact wanted0 rfl); (· rfl); refine Marker.mk ?_)
  refine Marker.in ?_
  have bel := below_alloc1 w8 (.cells #[.int .i64 0, .int .i64 0, .int .i64 0, .int .i64 0, .int .i64 0, .int .i64 0, .int .i64 0, .int .i64 0, .int .i64 0, .int .i64 0, .int .i64 0, .int .i64 0] 36)
  replace KF := Lib.hid (KF.out.below bel)
  replace KL := Lib.hid (KL.out.below bel)
  replace KA := Lib.hid (KA.out.below bel)
  replace KB := Lib.hid (KB.out.below bel)
  replace KR1 := Lib.hid (KR1.out.below bel)
  replace BB := Lib.hid (bt BB.out bel)
  have KR2 := Lib.hid (Blk.new w8 #[.int .i64 0, .int .i64 0, .int .i64 0, .int .i64 0, .int .i64 0, .int .i64 0, .int .i64 0, .int .i64 0, .int .i64 0, .int .i64 0, .int .i64 0, .int .i64 0] 36)
  clear bel
  generalize w8.alloc (.cells #[.int .i64 0, .int .i64 0, .int .i64 0, .int .i64 0, .int .i64 0, .int .i64 0, .int .i64 0, .int .i64 0, .int .i64 0, .int .i64 0, .int .i64 0, .int .i64 0] 36) = w8a at *
  generalize w8.heap.size = g12 at *
  go_wp2_with ((with_reducible show wpList _ _ _ (⟨_, .store 36 _ _, _, _, _, none⟩ :: _) _ _); (with_reducible refine wpBlk_store (g := g12) (cs := #[.int .i64 n0, .int .i64 n1, .int .i64 n14, .int .i64 n3, .int .i64 n4, .int .i64 t0, .int .i64 s1, .int .i64 t2, .int .i64 t3, .int .i64 q2, .int .i64 n10, .int .i64 n11]) agg_point ?_ ?_ KR2 ?_ ?_ ?_ ?_); (· exact wanted0 rfl); (· exact ⟨rfl, rfl, rfl⟩); (· rfl); (· rfl); (· (simp [Value.oneCell']; done)); refine Marker.mk ?_)
  refine Marker.in ?_
  replace KF := Lib.hid (KF.out.setRow_other g12 #[.int .i64 n0, .int .i64 n1, .int .i64 n14, .int .i64 n3, .int .i64 n4, .int .i64 t0, .int .i64 s1, .int .i64 t2, .int .i64 t3, .int .i64 q2, .int .i64 n10, .int .i64 n11] (by omega))
  replace KL := Lib.hid (KL.out.setRow_other g12 #[.int .i64 n0, .int .i64 n1, .int .i64 n14, .int .i64 n3, .int .i64 n4, .int .i64 t0, .int .i64 s1, .int .i64 t2, .int .i64 t3, .int .i64 q2, .int .i64 n10, .int .i64 n11] (by omega))
  replace KA := Lib.hid (KA.out.setRow_other g12 #[.int .i64 n0, .int .i64 n1, .int .i64 n14, .int .i64 n3, .int .i64 n4, .int .i64 t0, .int .i64 s1, .int .i64 t2, .int .i64 t3, .int .i64 q2, .int .i64 n10, .int .i64 n11] (by omega))
  replace KB := Lib.hid (KB.out.setRow_other g12 #[.int .i64 n0, .int .i64 n1, .int .i64 n14, .int .i64 n3, .int .i64 n4, .int .i64 t0, .int .i64 s1, .int .i64 t2, .int .i64 t3, .int .i64 q2, .int .i64 n10, .int .i64 n11] (by omega))
  replace KR1 := Lib.hid (KR1.out.setRow_other g12 #[.int .i64 n0, .int .i64 n1, .int .i64 n14, .int .i64 n3, .int .i64 n4, .int .i64 t0, .int .i64 s1, .int .i64 t2, .int .i64 t3, .int .i64 q2, .int .i64 n10, .int .i64 n11] (by omega))
  replace KR2 := Lib.hid (KR2.out.setRow #[.int .i64 n0, .int .i64 n1, .int .i64 n14, .int .i64 n3, .int .i64 n4, .int .i64 t0, .int .i64 s1, .int .i64 t2, .int .i64 t3, .int .i64 q2, .int .i64 n10, .int .i64 n11])
  replace BB := Lib.hid (below_setRow (g := g12) BB.out (by omega) #[.int .i64 n0, .int .i64 n1, .int .i64 n14, .int .i64 n3, .int .i64 n4, .int .i64 t0, .int .i64 s1, .int .i64 t2, .int .i64 t3, .int .i64 q2, .int .i64 n10, .int .i64 n11])
  generalize w8a.setRow g12 #[.int .i64 n0, .int .i64 n1, .int .i64 n14, .int .i64 n3, .int .i64 n4, .int .i64 t0, .int .i64 s1, .int .i64 t2, .int .i64 t3, .int .i64 q2, .int .i64 n10, .int .i64 n11] = w8b at *
  go_wp2_with (first | ((with_reducible show wpList _ _ _ (⟨_, .load 32 _, _, _, _, none⟩ :: _) _ _); (with_reducible refine wpBlk_load (g := w.heap.size) agg_pol ?_ ?_ KF ?_ ?_); (· exact wanted0 rfl); (· exact ⟨rfl, rfl⟩); (· exact mkc_size _ _)) | ((with_reducible show wpList _ _ _ (⟨_, .load 36 _, _, _, _, none⟩ :: _) _ _); (with_reducible refine wpBlk_mid (g := w.heap.size + 1) (off := 12) (cs := #[.int .i64 n12, .int .i64 n13, .int .i64 n14, .int .i64 n15, .int .i64 n16, .int .i64 n17, .int .i64 n18, .int .i64 n19, .int .i64 n20, .int .i64 n21, .int .i64 n22, .int .i64 n23]) agg_point ?_ ?_ KL ?_ ?_ ?_); (· exact wanted0 rfl); (· exact ⟨rfl, rfl⟩); (· rfl); (· rfl)))
  ((with_reducible refine (C3.out _).mono ?_))
  rintro e w9 ⟨q3, rfl, b6⟩
  replace KF := Lib.hid (KF.out.below b6)
  replace KL := Lib.hid (KL.out.below b6)
  replace KA := Lib.hid (KA.out.below b6)
  replace KB := Lib.hid (KB.out.below b6)
  replace KR1 := Lib.hid (KR1.out.below b6)
  replace KR2 := Lib.hid (KR2.out.below b6)
  replace BB := Lib.hid (bt BB.out b6)
  have lw9 := KB.out.lt
  have mw9 := KR2.out.lt
  clear b6
  go_wp2_with ((with_reducible show wpList _ _ _ (⟨_, .alloc 36, _, _, _, none⟩ :: _) _ _); (with_reducible refine wpRow_alloc zeroT_pt ?_ ?_ ?_); (· exact wanted0 rfl); (· rfl); refine Marker.mk ?_)
  refine Marker.in ?_
  have bel := below_alloc1 w9 (.cells #[.int .i64 0, .int .i64 0, .int .i64 0, .int .i64 0, .int .i64 0, .int .i64 0, .int .i64 0, .int .i64 0, .int .i64 0, .int .i64 0, .int .i64 0, .int .i64 0] 36)
  replace KF := Lib.hid (KF.out.below bel)
  replace KL := Lib.hid (KL.out.below bel)
  replace KA := Lib.hid (KA.out.below bel)
  replace KB := Lib.hid (KB.out.below bel)
  replace KR1 := Lib.hid (KR1.out.below bel)
  replace KR2 := Lib.hid (KR2.out.below bel)
  replace BB := Lib.hid (bt BB.out bel)
  have KR3 := Lib.hid (Blk.new w9 #[.int .i64 0, .int .i64 0, .int .i64 0, .int .i64 0, .int .i64 0, .int .i64 0, .int .i64 0, .int .i64 0, .int .i64 0, .int .i64 0, .int .i64 0, .int .i64 0] 36)
  clear bel
  generalize w9.alloc (.cells #[.int .i64 0, .int .i64 0, .int .i64 0, .int .i64 0, .int .i64 0, .int .i64 0, .int .i64 0, .int .i64 0, .int .i64 0, .int .i64 0, .int .i64 0, .int .i64 0] 36) = w9a at *
  generalize w9.heap.size = g13 at *
  go_wp2_with ((with_reducible show wpList _ _ _ (⟨_, .store 36 _ _, _, _, _, none⟩ :: _) _ _); (with_reducible refine wpBlk_store (g := g13) (cs := #[.int .i64 n12, .int .i64 n13, .int .i64 n14, .int .i64 n15, .int .i64 n16, .int .i64 s0, .int .i64 s1, .int .i64 s2, .int .i64 s3, .int .i64 q3, .int .i64 n22, .int .i64 n23]) agg_point ?_ ?_ KR3 ?_ ?_ ?_ ?_); (· exact wanted0 rfl); (· exact ⟨rfl, rfl, rfl⟩); (· rfl); (· rfl); (· (simp [Value.oneCell']; done)); refine Marker.mk ?_)
  refine Marker.in ?_
  replace KF := Lib.hid (KF.out.setRow_other g13 #[.int .i64 n12, .int .i64 n13, .int .i64 n14, .int .i64 n15, .int .i64 n16, .int .i64 s0, .int .i64 s1, .int .i64 s2, .int .i64 s3, .int .i64 q3, .int .i64 n22, .int .i64 n23] (by omega))
  replace KL := Lib.hid (KL.out.setRow_other g13 #[.int .i64 n12, .int .i64 n13, .int .i64 n14, .int .i64 n15, .int .i64 n16, .int .i64 s0, .int .i64 s1, .int .i64 s2, .int .i64 s3, .int .i64 q3, .int .i64 n22, .int .i64 n23] (by omega))
  replace KA := Lib.hid (KA.out.setRow_other g13 #[.int .i64 n12, .int .i64 n13, .int .i64 n14, .int .i64 n15, .int .i64 n16, .int .i64 s0, .int .i64 s1, .int .i64 s2, .int .i64 s3, .int .i64 q3, .int .i64 n22, .int .i64 n23] (by omega))
  replace KB := Lib.hid (KB.out.setRow_other g13 #[.int .i64 n12, .int .i64 n13, .int .i64 n14, .int .i64 n15, .int .i64 n16, .int .i64 s0, .int .i64 s1, .int .i64 s2, .int .i64 s3, .int .i64 q3, .int .i64 n22, .int .i64 n23] (by omega))
  replace KR1 := Lib.hid (KR1.out.setRow_other g13 #[.int .i64 n12, .int .i64 n13, .int .i64 n14, .int .i64 n15, .int .i64 n16, .int .i64 s0, .int .i64 s1, .int .i64 s2, .int .i64 s3, .int .i64 q3, .int .i64 n22, .int .i64 n23] (by omega))
  replace KR2 := Lib.hid (KR2.out.setRow_other g13 #[.int .i64 n12, .int .i64 n13, .int .i64 n14, .int .i64 n15, .int .i64 n16, .int .i64 s0, .int .i64 s1, .int .i64 s2, .int .i64 s3, .int .i64 q3, .int .i64 n22, .int .i64 n23] (by omega))
  replace KR3 := Lib.hid (KR3.out.setRow #[.int .i64 n12, .int .i64 n13, .int .i64 n14, .int .i64 n15, .int .i64 n16, .int .i64 s0, .int .i64 s1, .int .i64 s2, .int .i64 s3, .int .i64 q3, .int .i64 n22, .int .i64 n23])
  replace BB := Lib.hid (below_setRow (g := g13) BB.out (by omega) #[.int .i64 n12, .int .i64 n13, .int .i64 n14, .int .i64 n15, .int .i64 n16, .int .i64 s0, .int .i64 s1, .int .i64 s2, .int .i64 s3, .int .i64 q3, .int .i64 n22, .int .i64 n23])
  generalize w9a.setRow g13 #[.int .i64 n12, .int .i64 n13, .int .i64 n14, .int .i64 n15, .int .i64 n16, .int .i64 s0, .int .i64 s1, .int .i64 s2, .int .i64 s3, .int .i64 q3, .int .i64 n22, .int .i64 n23] = w9b at *
  have c1 := fun j => KR1.out.cell j
  have c2 := fun j => KR2.out.cell j
  have c3 := fun j => KR3.out.cell j
  have ca := fun j => KA.out.cell j
  have cb := fun j => KB.out.cell j
  have EA := fun W => (run_eq_self n1 n2 n3 n4 W)
  have EB := fun W => (run_eq_self n1 n14 n3 n4 W)
  go_wp2_with fail
  refine wp_loop_rounds 5 ?_
  rw [rounds_succ]
  go_wp2_with fail
  go_quiet (fail)
  go_wp2_with fail
  rw [rounds_succ]
  go_wp2_with fail
  go_quiet (fail)
  go_wp2_with fail
  rw [rounds_succ]
  go_wp2_with fail
  go_quiet (fail)
  go_wp2_with fail
  rw [rounds_succ]
  go_wp2_with fail
  go_quiet (fail)
  go_wp2_with fail
  rw [rounds_succ]
  go_wp2_with fail
  go_quiet (fail)
  go_wp2_with fail
  go_ret
  exact ⟨rfl, below_drewN (below_drewN BB.out _) _⟩

set_option maxRecDepth 100000 in
set_option maxHeartbeats 1600000 in
theorem limAxes_2 (f : Nat → Value) (n0 n1 n2 n3 n4 n5 n6 n7 n8 n9 n10 n11 n12 n13 n14 n15 n16 n17 n18 n19 n20 n21 n22 n23 ax r : Int) (w : World) (hf : f 54 = .int .i64 r) (ir : InI r) (x0 : 0 ≤ ax) (x1 : ax ≤ 255) (hk : ax % 4 = 2) (i0 : InI n0) (i1 : InI n1) (i2 : InI n2) (i3 : InI n3) (i4 : InI n4) (i5 : InI n5) (i6 : InI n6) (i7 : InI n7) (i8 : InI n8) (i9 : InI n9) (i10 : InI n10) (i11 : InI n11) (i12 : InI n12) (i13 : InI n13) (i14 : InI n14) (i15 : InI n15) (i16 : InI n16) (i17 : InI n17) (i18 : InI n18) (i19 : InI n19) (i20 : InI n20) (i21 : InI n21) (i22 : InI n22) (i23 : InI n23) :
    Calls Try.prog 5 #[.agg (mkc 56 f), .agg #[.int .i64 n0, .int .i64 n1, .int .i64 n2, .int .i64 n3, .int .i64 n4, .int .i64 n5, .int .i64 n6, .int .i64 n7, .int .i64 n8, .int .i64 n9, .int .i64 n10, .int .i64 n11, .int .i64 n12, .int .i64 n13, .int .i64 n14, .int .i64 n15, .int .i64 n16, .int .i64 n17, .int .i64 n18, .int .i64 n19, .int .i64 n20, .int .i64 n21, .int .i64 n22, .int .i64 n23], .int .u8 ax] w fun e w' => e = .returned (.bool true) ∧ Below w.heap.size w w' := by
  have C1 := Lib.hid (step_ex f n0 n1 n2 n3 n4 n5 n6 n7 n8 n9 n10 n11 r · hf ir i1 i2 i3 i4 i5 i6 i7 i8)
  have C2 := Lib.hid (step_ex f n0 n1 n2 n15 n4 n5 n6 n19 n8 n9 n10 n11 r · hf ir i1 i2 i15 i4 i5 i6 i19 i8)
  have C3 := Lib.hid (step_ex f n12 n13 n14 n15 n16 n17 n18 n19 n20 n21 n22 n23 r · hf ir i13 i14 i15 i16 i17 i18 i19 i20)
  clear hf ir i0 i1 i2 i3 i4 i5 i6 i7 i8 i9 i10 i11 i12 i13 i14 i15 i16 i17 i18 i19 i20 i21 i22 i23
  generalize toward n5 n1 r = t0 at *
  generalize toward n17 n13 r = s0 at *
  generalize toward n6 n2 r = t1 at *
  generalize toward n18 n14 r = s1 at *
  generalize toward n7 n3 r = t2 at *
  generalize toward n19 n15 r = s2 at *
  generalize toward n8 n4 r = t3 at *
  generalize toward n20 n16 r = s3 at *
  go_enter Try.func5, Try.ntmps5
  go_wp2_with fail
  have KF := Lib.hid ((Blk.new w (mkc 56 f) 32).alloc (.cells #[.int .i64 n0, .int .i64 n1, .int .i64 n2, .int .i64 n3, .int .i64 n4, .int .i64 n5, .int .i64 n6, .int .i64 n7, .int .i64 n8, .int .i64 n9, .int .i64 n10, .int .i64 n11, .int .i64 n12, .int .i64 n13, .int .i64 n14, .int .i64 n15, .int .i64 n16, .int .i64 n17, .int .i64 n18, .int .i64 n19, .int .i64 n20, .int .i64 n21, .int .i64 n22, .int .i64 n23] 37))
  have KL := Lib.hid (Blk.new' (w.alloc (.cells (mkc 56 f) 32)) #[.int .i64 n0, .int .i64 n1, .int .i64 n2, .int .i64 n3, .int .i64 n4, .int .i64 n5, .int .i64 n6, .int .i64 n7, .int .i64 n8, .int .i64 n9, .int .i64 n10, .int .i64 n11, .int .i64 n12, .int .i64 n13, .int .i64 n14, .int .i64 n15, .int .i64 n16, .int .i64 n17, .int .i64 n18, .int .i64 n19, .int .i64 n20, .int .i64 n21, .int .i64 n22, .int .i64 n23] 37 (g := w.heap.size + 1) (by simp))
  have BB := Lib.hid (below_alloc2 w (.cells (mkc 56 f) 32) (.cells #[.int .i64 n0, .int .i64 n1, .int .i64 n2, .int .i64 n3, .int .i64 n4, .int .i64 n5, .int .i64 n6, .int .i64 n7, .int .i64 n8, .int .i64 n9, .int .i64 n10, .int .i64 n11, .int .i64 n12, .int .i64 n13, .int .i64 n14, .int .i64 n15, .int .i64 n16, .int .i64 n17, .int .i64 n18, .int .i64 n19, .int .i64 n20, .int .i64 n21, .int .i64 n22, .int .i64 n23] 37))
  generalize (w.alloc (.cells (mkc 56 f) 32)).alloc (.cells #[.int .i64 n0, .int .i64 n1, .int .i64 n2, .int .i64 n3, .int .i64 n4, .int .i64 n5, .int .i64 n6, .int .i64 n7, .int .i64 n8, .int .i64 n9, .int .i64 n10, .int .i64 n11, .int .i64 n12, .int .i64 n13, .int .i64 n14, .int .i64 n15, .int .i64 n16, .int .i64 n17, .int .i64 n18, .int .i64 n19, .int .i64 n20, .int .i64 n21, .int .i64 n22, .int .i64 n23] 37) = w0 at *
  ((with_reducible refine (shown21 _).mono ?_))
  rintro e w1 ⟨rfl, b1⟩
  replace KF := Lib.hid (KF.out.below b1)
  replace KL := Lib.hid (KL.out.below b1)
  replace BB := Lib.hid (bt BB.out b1)
  have l1 := KL.out.lt
  clear b1
  go_wp2_with (first | ((with_reducible show wpList _ _ _ (⟨_, .load 36 _, _, _, _, none⟩ :: _) _ _); (with_reducible refine wpBlk_mid (g := w.heap.size + 1) (off := 0) (cs := #[.int .i64 n0, .int .i64 n1, .int .i64 n2, .int .i64 n3, .int .i64 n4, .int .i64 n5, .int .i64 n6, .int .i64 n7, .int .i64 n8, .int .i64 n9, .int .i64 n10, .int .i64 n11]) agg_point ?_ ?_ KL ?_ ?_ ?_); (· exact wanted0 rfl); (· exact ⟨rfl, rfl⟩); (· rfl); (· rfl)) | ((with_reducible show wpList _ _ _ (⟨_, .alloc 36, _, _, _, none⟩ :: _) _ _); (with_reducible refine wpRow_alloc zeroT_pt ?_ ?_ ?_); (· exact wanted0 rfl); (· rfl); refine Marker.mk ?_))
  refine Marker.in ?_
  have bel := below_alloc1 w1 (.cells #[.int .i64 0, .int .i64 0, .int .i64 0, .int .i64 0, .int .i64 0, .int .i64 0, .int .i64 0, .int .i64 0, .int .i64 0, .int .i64 0, .int .i64 0, .int .i64 0] 36)
  replace KF := Lib.hid (KF.out.below bel)
  replace KL := Lib.hid (KL.out.below bel)
  replace BB := Lib.hid (bt BB.out bel)
  have KA := Lib.hid (Blk.new w1 #[.int .i64 0, .int .i64 0, .int .i64 0, .int .i64 0, .int .i64 0, .int .i64 0, .int .i64 0, .int .i64 0, .int .i64 0, .int .i64 0, .int .i64 0, .int .i64 0] 36)
  clear bel
  generalize w1.alloc (.cells #[.int .i64 0, .int .i64 0, .int .i64 0, .int .i64 0, .int .i64 0, .int .i64 0, .int .i64 0, .int .i64 0, .int .i64 0, .int .i64 0, .int .i64 0, .int .i64 0] 36) = w2 at *
  generalize w1.heap.size = g9 at *
  go_wp2_with ((with_reducible show wpList _ _ _ (⟨_, .store 36 _ _, _, _, _, none⟩ :: _) _ _); (with_reducible refine wpBlk_store (g := g9) (cs := #[.int .i64 n0, .int .i64 n1, .int .i64 n2, .int .i64 n3, .int .i64 n4, .int .i64 n5, .int .i64 n6, .int .i64 n7, .int .i64 n8, .int .i64 n9, .int .i64 n10, .int .i64 n11]) agg_point ?_ ?_ KA ?_ ?_ ?_ ?_); (· exact wanted0 rfl); (· exact ⟨rfl, rfl, rfl⟩); (· rfl); (· rfl); (· (simp [Value.oneCell']; done)); refine Marker.mk ?_)
  refine Marker.in ?_
  replace KF := Lib.hid (KF.out.setRow_other g9 #[.int .i64 n0, .int .i64 n1, .int .i64 n2, .int .i64 n3, .int .i64 n4, .int .i64 n5, .int .i64 n6, .int .i64 n7, .int .i64 n8, .int .i64 n9, .int .i64 n10, .int .i64 n11] (by omega))
  replace KL := Lib.hid (KL.out.setRow_other g9 #[.int .i64 n0, .int .i64 n1, .int .i64 n2, .int .i64 n3, .int .i64 n4, .int .i64 n5, .int .i64 n6, .int .i64 n7, .int .i64 n8, .int .i64 n9, .int .i64 n10, .int .i64 n11] (by omega))
  replace KA := Lib.hid (KA.out.setRow #[.int .i64 n0, .int .i64 n1, .int .i64 n2, .int .i64 n3, .int .i64 n4, .int .i64 n5, .int .i64 n6, .int .i64 n7, .int .i64 n8, .int .i64 n9, .int .i64 n10, .int .i64 n11])
  replace BB := Lib.hid (below_setRow (g := g9) BB.out (by omega) #[.int .i64 n0, .int .i64 n1, .int .i64 n2, .int .i64 n3, .int .i64 n4, .int .i64 n5, .int .i64 n6, .int .i64 n7, .int .i64 n8, .int .i64 n9, .int .i64 n10, .int .i64 n11])
  generalize w2.setRow g9 #[.int .i64 n0, .int .i64 n1, .int .i64 n2, .int .i64 n3, .int .i64 n4, .int .i64 n5, .int .i64 n6, .int .i64 n7, .int .i64 n8, .int .i64 n9, .int .i64 n10, .int .i64 n11] = w3 at *
  have l3 := KA.out.lt
  go_wp2_with (first | ((with_reducible show wpList _ _ _ (⟨_, .load 36 _, _, _, _, none⟩ :: _) _ _); (with_reducible refine wpBlk_load (g := g9) agg_point ?_ ?_ KA ?_ ?_); (· exact wanted0 rfl); (· exact ⟨rfl, rfl⟩); (· rfl)) | ((with_reducible show wpList _ _ _ (⟨_, .alloc 36, _, _, _, none⟩ :: _) _ _); (with_reducible refine wpRow_alloc zeroT_pt ?_ ?_ ?_); (· exact wanted0 rfl); (· rfl); refine Marker.mk ?_))
  refine Marker.in ?_
  have bel := below_alloc1 w3 (.cells #[.int .i64 0, .int .i64 0, .int .i64 0, .int .i64 0, .int .i64 0, .int .i64 0, .int .i64 0, .int .i64 0, .int .i64 0, .int .i64 0, .int .i64 0, .int .i64 0] 36)
  replace KF := Lib.hid (KF.out.below bel)
  replace KL := Lib.hid (KL.out.below bel)
  replace KA := Lib.hid (KA.out.below bel)
  replace BB := Lib.hid (bt BB.out bel)
  have KB := Lib.hid (Blk.new w3 #[.int .i64 0, .int .i64 0, .int .i64 0, .int .i64 0, .int .i64 0, .int .i64 0, .int .i64 0, .int .i64 0, .int .i64 0, .int .i64 0, .int .i64 0, .int .i64 0] 36)
  clear bel
  generalize w3.alloc (.cells #[.int .i64 0, .int .i64 0, .int .i64 0, .int .i64 0, .int .i64 0, .int .i64 0, .int .i64 0, .int .i64 0, .int .i64 0, .int .i64 0, .int .i64 0, .int .i64 0] 36) = w4 at *
  generalize w3.heap.size = g10 at *
  go_wp2_with ((with_reducible show wpList _ _ _ (⟨_, .store 36 _ _, _, _, _, none⟩ :: _) _ _); (with_reducible refine wpBlk_store (g := g10) (cs := #[.int .i64 n0, .int .i64 n1, .int .i64 n2, .int .i64 n3, .int .i64 n4, .int .i64 n5, .int .i64 n6, .int .i64 n7, .int .i64 n8, .int .i64 n9, .int .i64 n10, .int .i64 n11]) agg_point ?_ ?_ KB ?_ ?_ ?_ ?_); (· exact wanted0 rfl); (· exact ⟨rfl, rfl, rfl⟩); (· rfl); (· rfl); (· (simp [Value.oneCell']; done)); refine Marker.mk ?_)
  refine Marker.in ?_
  replace KF := Lib.hid (KF.out.setRow_other g10 #[.int .i64 n0, .int .i64 n1, .int .i64 n2, .int .i64 n3, .int .i64 n4, .int .i64 n5, .int .i64 n6, .int .i64 n7, .int .i64 n8, .int .i64 n9, .int .i64 n10, .int .i64 n11] (by omega))
  replace KL := Lib.hid (KL.out.setRow_other g10 #[.int .i64 n0, .int .i64 n1, .int .i64 n2, .int .i64 n3, .int .i64 n4, .int .i64 n5, .int .i64 n6, .int .i64 n7, .int .i64 n8, .int .i64 n9, .int .i64 n10, .int .i64 n11] (by omega))
  replace KA := Lib.hid (KA.out.setRow_other g10 #[.int .i64 n0, .int .i64 n1, .int .i64 n2, .int .i64 n3, .int .i64 n4, .int .i64 n5, .int .i64 n6, .int .i64 n7, .int .i64 n8, .int .i64 n9, .int .i64 n10, .int .i64 n11] (by omega))
  replace KB := Lib.hid (KB.out.setRow #[.int .i64 n0, .int .i64 n1, .int .i64 n2, .int .i64 n3, .int .i64 n4, .int .i64 n5, .int .i64 n6, .int .i64 n7, .int .i64 n8, .int .i64 n9, .int .i64 n10, .int .i64 n11])
  replace BB := Lib.hid (below_setRow (g := g10) BB.out (by omega) #[.int .i64 n0, .int .i64 n1, .int .i64 n2, .int .i64 n3, .int .i64 n4, .int .i64 n5, .int .i64 n6, .int .i64 n7, .int .i64 n8, .int .i64 n9, .int .i64 n10, .int .i64 n11])
  generalize w4.setRow g10 #[.int .i64 n0, .int .i64 n1, .int .i64 n2, .int .i64 n3, .int .i64 n4, .int .i64 n5, .int .i64 n6, .int .i64 n7, .int .i64 n8, .int .i64 n9, .int .i64 n10, .int .i64 n11] = w5 at *
  have l5 := KB.out.lt
  have cl := fun j => KL.out.cell j
  have cb := fun j => KB.out.cell j
  have fb := fun j => KB.out.frozen j
  go_wp2_with ((with_reducible show wpList _ _ _ (⟨_, .load 32 _, _, _, _, none⟩ :: _) _ _); refine Marker.mk ?_)
  refine Marker.in ?_
  clear cl cb fb
  replace KF := Lib.hid ((KF.out.other g10 3 (.int .i64 n15) (by omega)).other g10 7 (.int .i64 n19) (by omega))
  replace KL := Lib.hid ((KL.out.other g10 3 (.int .i64 n15) (by omega)).other g10 7 (.int .i64 n19) (by omega))
  replace KA := Lib.hid ((KA.out.other g10 3 (.int .i64 n15) (by omega)).other g10 7 (.int .i64 n19) (by omega))
  replace KB := Lib.hid (show Blk _ g10 #[.int .i64 n0, .int .i64 n1, .int .i64 n2, .int .i64 n15, .int .i64 n4, .int .i64 n5, .int .i64 n6, .int .i64 n19, .int .i64 n8, .int .i64 n9, .int .i64 n10, .int .i64 n11] 36 from (KB.out.set 3 (.int .i64 n15)).set 7 (.int .i64 n19))
  replace BB := Lib.hid ((BB.out.setCell (p := ⟨g10, 3, none⟩) (by simp; omega) (.int .i64 n15)).setCell (p := ⟨g10, 7, none⟩) (by simp; omega) (.int .i64 n19))
  generalize (w5.setCell ⟨g10, 3, none⟩ (.int .i64 n15)).setCell ⟨g10, 7, none⟩ (.int .i64 n19) = w6 at *
  go_wp2_with (first | ((with_reducible show wpList _ _ _ (⟨_, .load 32 _, _, _, _, none⟩ :: _) _ _); (with_reducible refine wpBlk_load (g := w.heap.size) agg_pol ?_ ?_ KF ?_ ?_); (· exact wanted0 rfl); (· exact ⟨rfl, rfl⟩); (· exact mkc_size _ _)) | ((with_reducible show wpList _ _ _ (⟨_, .load 36 _, _, _, _, none⟩ :: _) _ _); (with_reducible refine wpBlk_load (g := g9) agg_point ?_ ?_ KA ?_ ?_); (· exact wanted0 rfl); (· exact ⟨rfl, rfl⟩); (· rfl)))
  ((with_reducible refine (C1.out _).mono ?_))
  rintro e w7 ⟨q1, rfl, b6⟩
  replace KF := Lib.hid (KF.out.below b6)
  replace KL := Lib.hid (KL.out.below b6)
  replace KA := Lib.hid (KA.out.below b6)
  replace KB := Lib.hid (KB.out.below b6)
  replace BB := Lib.hid (bt BB.out b6)
  have lw7 := KB.out.lt
  clear b6
  go_wp2_with ((with_reducible show wpList _ _ _ (⟨_, .alloc 36, _, _, _, none⟩ :: _) _ _); (with_reducible refine wpRow_alloc zeroT_pt ?_ ?_ ?_); (· exact wanted0 rfl); (· rfl); refine Marker.mk ?_)
  refine Marker.in ?_
  have bel := below_alloc1 w7 (.cells #[.int .i64 0, .int .i64 0, .int .i64 0, .int .i64 0, .int .i64 0, .int .i64 0, .int .i64 0, .int .i64 0, .int .i64 0, .int .i64 0, .int .i64 0, .int .i64 0] 36)
  replace KF := Lib.hid (KF.out.below bel)
  replace KL := Lib.hid (KL.out.below bel)
  replace KA := Lib.hid (KA.out.below bel)
  replace KB := Lib.hid (KB.out.below bel)
  replace BB := Lib.hid (bt BB.out bel)
  have KR1 := Lib.hid (Blk.new w7 #[.int .i64 0, .int .i64 0, .int .i64 0, .int .i64 0, .int .i64 0, .int .i64 0, .int .i64 0, .int .i64 0, .int .i64 0, .int .i64 0, .int .i64 0, .int .i64 0] 36)
  clear bel
  generalize w7.alloc (.cells #[.int .i64 0, .int .i64 0, .int .i64 0, .int .i64 0, .int .i64 0, .int .i64 0, .int .i64 0, .int .i64 0, .int .i64 0, .int .i64 0, .int .i64 0, .int .i64 0] 36) = w7a at *
  generalize w7.heap.size = g11 at *
  go_wp2_with ((with_reducible show wpList _ _ _ (⟨_, .store 36 _ _, _, _, _, none⟩ :: _) _ _); (with_reducible refine wpBlk_store (g := g11) (cs := #[.int .i64 n0, .int .i64 n1, .int .i64 n2, .int .i64 n3, .int .i64 n4, .int .i64 t0, .int .i64 t1, .int .i64 t2, .int .i64 t3, .int .i64 q1, .int .i64 n10, .int .i64 n11]) agg_point ?_ ?_ KR1 ?_ ?_ ?_ ?_); (· exact wanted0 rfl); (· exact ⟨rfl, rfl, rfl⟩); (· rfl); (· rfl); (· (simp [Value.oneCell']; done)); refine Marker.mk ?_)
  refine Marker.in ?_
  replace KF := Lib.hid (KF.out.setRow_other g11 #[.int .i64 n0, .int .i64 n1, .int .i64 n2, .int .i64 n3, .int .i64 n4, .int .i64 t0, .int .i64 t1, .int .i64 t2, .int .i64 t3, .int .i64 q1, .int .i64 n10, .int .i64 n11] (by omega))
  replace KL := Lib.hid (KL.out.setRow_other g11 #[.int .i64 n0, .int .i64 n1, .int .i64 n2, .int .i64 n3, .int .i64 n4, .int .i64 t0, .int .i64 t1, .int .i64 t2, .int .i64 t3, .int .i64 q1, .int .i64 n10, .int .i64 n11] (by omega))
  replace KA := Lib.hid (KA.out.setRow_other g11 #[.int .i64 n0, .int .i64 n1, .int .i64 n2, .int .i64 n3, .int .i64 n4, .int .i64 t0, .int .i64 t1, .int .i64 t2, .int .i64 t3, .int .i64 q1, .int .i64 n10, .int .i64 n11] (by omega))
  replace KB := Lib.hid (KB.out.setRow_other g11 #[.int .i64 n0, .int .i64 n1, .int .i64 n2, .int .i64 n3, .int .i64 n4, .int .i64 t0, .int .i64 t1, .int .i64 t2, .int .i64 t3, .int .i64 q1, .int .i64 n10, .int .i64 n11] (by omega))
  replace KR1 := Lib.hid (KR1.out.setRow #[.int .i64 n0, .int .i64 n1, .int .i64 n2, .int .i64 n3, .int .i64 n4, .int .i64 t0, .int .i64 t1, .int .i64 t2, .int .i64 t3, .int .i64 q1, .int .i64 n10, .int .i64 n11])
  replace BB := Lib.hid (below_setRow (g := g11) BB.out (by omega) #[.int .i64 n0, .int .i64 n1, .int .i64 n2, .int .i64 n3, .int .i64 n4, .int .i64 t0, .int .i64 t1, .int .i64 t2, .int .i64 t3, .int .i64 q1, .int .i64 n10, .int .i64 n11])
  generalize w7a.setRow g11 #[.int .i64 n0, .int .i64 n1, .int .i64 n2, .int .i64 n3, .int .i64 n4, .int .i64 t0, .int .i64 t1, .int .i64 t2, .int .i64 t3, .int .i64 q1, .int .i64 n10, .int .i64 n11] = w7b at *
  go_wp2_with (first | ((with_reducible show wpList _ _ _ (⟨_, .load 32 _, _, _, _, none⟩ :: _) _ _); (with_reducible refine wpBlk_load (g := w.heap.size) agg_pol ?_ ?_ KF ?_ ?_); (· exact wanted0 rfl); (· exact ⟨rfl, rfl⟩); (· exact mkc_size _ _)) | ((with_reducible show wpList _ _ _ (⟨_, .load 36 _, _, _, _, none⟩ :: _) _ _); (with_reducible refine wpBlk_load (g := g10) agg_point ?_ ?_ KB ?_ ?_); (· exact wanted0 rfl); (· exact ⟨rfl, rfl⟩); (· rfl)))
  ((with_reducible refine (C2.out _).mono ?_))
  rintro e w8 ⟨q2, rfl, b6⟩
  replace KF := Lib.hid (KF.out.below b6)
  replace KL := Lib.hid (KL.out.below b6)
  replace KA := Lib.hid (KA.out.below b6)
  replace KB := Lib.hid (KB.out.below b6)
  replace KR1 := Lib.hid (KR1.out.below b6)
  replace BB := Lib.hid (bt BB.out b6)
  have lw8 := KB.out.lt
  have mw8 := KR1.out.lt
  clear b6
  go_wp2_with ((with_reducible show wpList _ _ _ (⟨_, .alloc 36, _, _, _, none⟩ :: _) _ _); (with_reducible refine wpRow_alloc zeroT_pt ?_ ?_ ?_); (· exact wanted0 rfl); (· rfl); refine Marker.mk ?_)
  refine Marker.in ?_
  have bel := below_alloc1 w8 (.cells #[.int .i64 0, .int .i64 0, .int .i64 0, .int .i64 0, .int .i64 0, .int .i64 0, .int .i64 0, .int .i64 0, .int .i64 0, .int .i64 0, .int .i64 0, .int .i64 0] 36)
  replace KF := Lib.hid (KF.out.below bel)
  replace KL := Lib.hid (KL.out.below bel)
  replace KA := Lib.hid (KA.out.below bel)
  replace KB := Lib.hid (KB.out.below bel)
  replace KR1 := Lib.hid (KR1.out.below bel)
  replace BB := Lib.hid (bt BB.out bel)
  have KR2 := Lib.hid (Blk.new w8 #[.int .i64 0, .int .i64 0, .int .i64 0, .int .i64 0, .int .i64 0, .int .i64 0, .int .i64 0, .int .i64 0, .int .i64 0, .int .i64 0, .int .i64 0, .int .i64 0] 36)
  clear bel
  generalize w8.alloc (.cells #[.int .i64 0, .int .i64 0, .int .i64 0, .int .i64 0, .int .i64 0, .int .i64 0, .int .i64 0, .int .i64 0, .int .i64 0, .int .i64 0, .int .i64 0, .int .i64 0] 36) = w8a at *
  generalize w8.heap.size = g12 at *
  go_wp2_with ((with_reducible show wpList _ _ _ (⟨_, .store 36 _ _, _, _, _, none⟩ :: _) _ _); (with_reducible refine wpBlk_store (g := g12) (cs := #[.int .i64 n0, .int .i64 n1, .int .i64 n2, .int .i64 n15, .int .i64 n4, .int .i64 t0, .int .i64 t1, .int .i64 s2, .int .i64 t3, .int .i64 q2, .int .i64 n10, .int .i64 n11]) agg_point ?_ ?_ KR2 ?_ ?_ ?_ ?_); (· exact wanted0 rfl); (· exact ⟨rfl, rfl, rfl⟩); (· rfl); (· rfl); (· (simp [Value.oneCell']; done)); refine Marker.mk ?_)
  refine Marker.in ?_
  replace KF := Lib.hid (KF.out.setRow_other g12 #[.int .i64 n0, .int .i64 n1, .int .i64 n2, .int .i64 n15, .int .i64 n4, .int .i64 t0, .int .i64 t1, .int .i64 s2, .int .i64 t3, .int .i64 q2, .int .i64 n10, .int .i64 n11] (by omega))
  replace KL := Lib.hid (KL.out.setRow_other g12 #[.int .i64 n0, .int .i64 n1, .int .i64 n2, .int .i64 n15, .int .i64 n4, .int .i64 t0, .int .i64 t1, .int .i64 s2, .int .i64 t3, .int .i64 q2, .int .i64 n10, .int .i64 n11] (by omega))
  replace KA := Lib.hid (KA.out.setRow_other g12 #[.int .i64 n0, .int .i64 n1, .int .i64 n2, .int .i64 n15, .int .i64 n4, .int .i64 t0, .int .i64 t1, .int .i64 s2, .int .i64 t3, .int .i64 q2, .int .i64 n10, .int .i64 n11] (by omega))
  replace KB := Lib.hid (KB.out.setRow_other g12 #[.int .i64 n0, .int .i64 n1, .int .i64 n2, .int .i64 n15, .int .i64 n4, .int .i64 t0, .int .i64 t1, .int .i64 s2, .int .i64 t3, .int .i64 q2, .int .i64 n10, .int .i64 n11] (by omega))
  replace KR1 := Lib.hid (KR1.out.setRow_other g12 #[.int .i64 n0, .int .i64 n1, .int .i64 n2, .int .i64 n15, .int .i64 n4, .int .i64 t0, .int .i64 t1, .int .i64 s2, .int .i64 t3, .int .i64 q2, .int .i64 n10, .int .i64 n11] (by omega))
  replace KR2 := Lib.hid (KR2.out.setRow #[.int .i64 n0, .int .i64 n1, .int .i64 n2, .int .i64 n15, .int .i64 n4, .int .i64 t0, .int .i64 t1, .int .i64 s2, .int .i64 t3, .int .i64 q2, .int .i64 n10, .int .i64 n11])
  replace BB := Lib.hid (below_setRow (g := g12) BB.out (by omega) #[.int .i64 n0, .int .i64 n1, .int .i64 n2, .int .i64 n15, .int .i64 n4, .int .i64 t0, .int .i64 t1, .int .i64 s2, .int .i64 t3, .int .i64 q2, .int .i64 n10, .int .i64 n11])
  generalize w8a.setRow g12 #[.int .i64 n0, .int .i64 n1, .int .i64 n2, .int .i64 n15, .int .i64 n4, .int .i64 t0, .int .i64 t1, .int .i64 s2, .int .i64 t3, .int .i64 q2, .int .i64 n10, .int .i64 n11] = w8b at *
  go_wp2_with (first | ((with_reducible show wpList _ _ _ (⟨_, .load 32 _, _, _, _, none⟩ :: _) _ _); (with_reducible refine wpBlk_load (g := w.heap.size) agg_pol ?_ ?_ KF ?_ ?_); (· exact wanted0 rfl); (· exact ⟨rfl, rfl⟩); (· exact mkc_size _ _)) | ((with_reducible show wpList _ _ _ (⟨_, .load 36 _, _, _, _, none⟩ :: _) _ _); (with_reducible refine wpBlk_mid (g := w.heap.size + 1) (off := 12) (cs := #[.int .i64 n12, .int .i64 n13, .int .i64 n14, .int .i64 n15, .int .i64 n16, .int .i64 n17, .int .i64 n18, .int .i64 n19, .int .i64 n20, .int .i64 n21, .int .i64 n22, .int .i64 n23]) agg_point ?_ ?_ KL ?_ ?_ ?_); (· exact wanted0 rfl); (· exact ⟨rfl, rfl⟩); (· rfl); (· rfl)))
  ((with_reducible refine (C3.out _).mono ?_))
  rintro e w9 ⟨q3, rfl, b6⟩
  replace KF := Lib.hid (KF.out.below b6)
  replace KL := Lib.hid (KL.out.below b6)
  replace KA := Lib.hid (KA.out.below b6)
  replace KB := Lib.hid (KB.out.below b6)
  replace KR1 := Lib.hid (KR1.out.below b6)
  replace KR2 := Lib.hid (KR2.out.below b6)
  replace BB := Lib.hid (bt BB.out b6)
  have lw9 := KB.out.lt
  have mw9 := KR2.out.lt
  clear b6
  go_wp2_with ((with_reducible show wpList _ _ _ (⟨_, .alloc 36, _, _, _, none⟩ :: _) _ _); (with_reducible refine wpRow_alloc zeroT_pt ?_ ?_ ?_); (· exact wanted0 rfl); (· rfl); refine Marker.mk ?_)
  refine Marker.in ?_
  have bel := below_alloc1 w9 (.cells #[.int .i64 0, .int .i64 0, .int .i64 0, .int .i64 0, .int .i64 0, .int .i64 0, .int .i64 0, .int .i64 0, .int .i64 0, .int .i64 0, .int .i64 0, .int .i64 0] 36)
  replace KF := Lib.hid (KF.out.below bel)
  replace KL := Lib.hid (KL.out.below bel)
  replace KA := Lib.hid (KA.out.below bel)
  replace KB := Lib.hid (KB.out.below bel)
  replace KR1 := Lib.hid (KR1.out.below bel)
  replace KR2 := Lib.hid (KR2.out.below bel)
  replace BB := Lib.hid (bt BB.out bel)
  have KR3 := Lib.hid (Blk.new w9 #[.int .i64 0, .int .i64 0, .int .i64 0, .int .i64 0, .int .i64 0, .int .i64 0, .int .i64 0, .int .i64 0, .int .i64 0, .int .i64 0, .int .i64 0, .int .i64 0] 36)
  clear bel
  generalize w9.alloc (.cells #[.int .i64 0, .int .i64 0, .int .i64 0, .int .i64 0, .int .i64 0, .int .i64 0, .int .i64 0, .int .i64 0, .int .i64 0, .int .i64 0, .int .i64 0, .int .i64 0] 36) = w9a at *
  generalize w9.heap.size = g13 at *
  go_wp2_with ((with_reducible show wpList _ _ _ (⟨_, .store 36 _ _, _, _, _, none⟩ :: _) _ _); (with_reducible refine wpBlk_store (g := g13) (cs := #[.int .i64 n12, .int .i64 n13, .int .i64 n14, .int .i64 n15, .int .i64 n16, .int .i64 s0, .int .i64 s1, .int .i64 s2, .int .i64 s3, .int .i64 q3, .int .i64 n22, .int .i64 n23]) agg_point ?_ ?_ KR3 ?_ ?_ ?_ ?_); (· exact wanted0 rfl); (· exact ⟨rfl, rfl, rfl⟩); (· rfl); (· rfl); (· (simp [Value.oneCell']; done)); refine Marker.mk ?_)
  refine Marker.in ?_
  replace KF := Lib.hid (KF.out.setRow_other g13 #[.int .i64 n12, .int .i64 n13, .int .i64 n14, .int .i64 n15, .int .i64 n16, .int .i64 s0, .int .i64 s1, .int .i64 s2, .int .i64 s3, .int .i64 q3, .int .i64 n22, .int .i64 n23] (by omega))
  replace KL := Lib.hid (KL.out.setRow_other g13 #[.int .i64 n12, .int .i64 n13, .int .i64 n14, .int .i64 n15, .int .i64 n16, .int .i64 s0, .int .i64 s1, .int .i64 s2, .int .i64 s3, .int .i64 q3, .int .i64 n22, .int .i64 n23] (by omega))
  replace KA := Lib.hid (KA.out.setRow_other g13 #[.int .i64 n12, .int .i64 n13, .int .i64 n14, .int .i64 n15, .int .i64 n16, .int .i64 s0, .int .i64 s1, .int .i64 s2, .int .i64 s3, .int .i64 q3, .int .i64 n22, .int .i64 n23] (by omega))
  replace KB := Lib.hid (KB.out.setRow_other g13 #[.int .i64 n12, .int .i64 n13, .int .i64 n14, .int .i64 n15, .int .i64 n16, .int .i64 s0, .int .i64 s1, .int .i64 s2, .int .i64 s3, .int .i64 q3, .int .i64 n22, .int .i64 n23] (by omega))
  replace KR1 := Lib.hid (KR1.out.setRow_other g13 #[.int .i64 n12, .int .i64 n13, .int .i64 n14, .int .i64 n15, .int .i64 n16, .int .i64 s0, .int .i64 s1, .int .i64 s2, .int .i64 s3, .int .i64 q3, .int .i64 n22, .int .i64 n23] (by omega))
  replace KR2 := Lib.hid (KR2.out.setRow_other g13 #[.int .i64 n12, .int .i64 n13, .int .i64 n14, .int .i64 n15, .int .i64 n16, .int .i64 s0, .int .i64 s1, .int .i64 s2, .int .i64 s3, .int .i64 q3, .int .i64 n22, .int .i64 n23] (by omega))
  replace KR3 := Lib.hid (KR3.out.setRow #[.int .i64 n12, .int .i64 n13, .int .i64 n14, .int .i64 n15, .int .i64 n16, .int .i64 s0, .int .i64 s1, .int .i64 s2, .int .i64 s3, .int .i64 q3, .int .i64 n22, .int .i64 n23])
  replace BB := Lib.hid (below_setRow (g := g13) BB.out (by omega) #[.int .i64 n12, .int .i64 n13, .int .i64 n14, .int .i64 n15, .int .i64 n16, .int .i64 s0, .int .i64 s1, .int .i64 s2, .int .i64 s3, .int .i64 q3, .int .i64 n22, .int .i64 n23])
  generalize w9a.setRow g13 #[.int .i64 n12, .int .i64 n13, .int .i64 n14, .int .i64 n15, .int .i64 n16, .int .i64 s0, .int .i64 s1, .int .i64 s2, .int .i64 s3, .int .i64 q3, .int .i64 n22, .int .i64 n23] = w9b at *
  have c1 := fun j => KR1.out.cell j
  have c2 := fun j => KR2.out.cell j
  have c3 := fun j => KR3.out.cell j
  have ca := fun j => KA.out.cell j
  have cb := fun j => KB.out.cell j
  have EA := fun W => (run_eq_self n1 n2 n3 n4 W)
  have EB := fun W => (run_eq_self n1 n2 n15 n4 W)
  go_wp2_with fail
  refine wp_loop_rounds 5 ?_
  rw [rounds_succ]
  go_wp2_with fail
  go_quiet (fail)
  go_wp2_with fail
  rw [rounds_succ]
  go_wp2_with fail
  go_quiet (fail)
  go_wp2_with fail
  rw [rounds_succ]
  go_wp2_with fail
  go_quiet (fail)
  go_wp2_with fail
  rw [rounds_succ]
  go_wp2_with fail
  go_quiet (fail)
  go_wp2_with fail
  rw [rounds_succ]
  go_wp2_with fail
  go_quiet (fail)
  go_wp2_with fail
  go_ret
  exact ⟨rfl, below_drewN (below_drewN BB.out _) _⟩

set_option maxRecDepth 100000 in
set_option maxHeartbeats 1600000 in
theorem limAxes_3 (f : Nat → Value) (n0 n1 n2 n3 n4 n5 n6 n7 n8 n9 n10 n11 n12 n13 n14 n15 n16 n17 n18 n19 n20 n21 n22 n23 ax r : Int) (w : World) (hf : f 54 = .int .i64 r) (ir : InI r) (x0 : 0 ≤ ax) (x1 : ax ≤ 255) (hk : ax % 4 = 3) (i0 : InI n0) (i1 : InI n1) (i2 : InI n2) (i3 : InI n3) (i4 : InI n4) (i5 : InI n5) (i6 : InI n6) (i7 : InI n7) (i8 : InI n8) (i9 : InI n9) (i10 : InI n10) (i11 : InI n11) (i12 : InI n12) (i13 : InI n13) (i14 : InI n14) (i15 : InI n15) (i16 : InI n16) (i17 : InI n17) (i18 : InI n18) (i19 : InI n19) (i20 : InI n20) (i21 : InI n21) (i22 : InI n22) (i23 : InI n23) :
    Calls Try.prog 5 #[.agg (mkc 56 f), .agg #[.int .i64 n0, .int .i64 n1, .int .i64 n2, .int .i64 n3, .int .i64 n4, .int .i64 n5, .int .i64 n6, .int .i64 n7, .int .i64 n8, .int .i64 n9, .int .i64 n10, .int .i64 n11, .int .i64 n12, .int .i64 n13, .int .i64 n14, .int .i64 n15, .int .i64 n16, .int .i64 n17, .int .i64 n18, .int .i64 n19, .int .i64 n20, .int .i64 n21, .int .i64 n22, .int .i64 n23], .int .u8 ax] w fun e w' => e = .returned (.bool true) ∧ Below w.heap.size w w' := by
  have C1 := Lib.hid (step_ex f n0 n1 n2 n3 n4 n5 n6 n7 n8 n9 n10 n11 r · hf ir i1 i2 i3 i4 i5 i6 i7 i8)
  have C2 := Lib.hid (step_ex f n0 n1 n2 n3 n16 n5 n6 n7 n20 n9 n10 n11 r · hf ir i1 i2 i3 i16 i5 i6 i7 i20)
  have C3 := Lib.hid (step_ex f n12 n13 n14 n15 n16 n17 n18 n19 n20 n21 n22 n23 r · hf ir i13 i14 i15 i16 i17 i18 i19 i20)
  clear hf ir i0 i1 i2 i3 i4 i5 i6 i7 i8 i9 i10 i11 i12 i13 i14 i15 i16 i17 i18 i19 i20 i21 i22 i23
  generalize toward n5 n1 r = t0 at *
  generalize toward n17 n13 r = s0 at *
  generalize toward n6 n2 r = t1 at *
  generalize toward n18 n14 r = s1 at *
  generalize toward n7 n3 r = t2 at *
  generalize toward n19 n15 r = s2 at *
  generalize toward n8 n4 r = t3 at *
  generalize toward n20 n16 r = s3 at *
  go_enter Try.func5, Try.ntmps5
  go_wp2_with fail
  have KF := Lib.hid ((Blk.new w (mkc 56 f) 32).alloc (.cells #[.int .i64 n0, .int .i64 n1, .int .i64 n2, .int .i64 n3, .int .i64 n4, .int .i64 n5, .int .i64 n6, .int .i64 n7, .int .i64 n8, .int .i64 n9, .int .i64 n10, .int .i64 n11, .int .i64 n12, .int .i64 n13, .int .i64 n14, .int .i64 n15, .int .i64 n16, .int .i64 n17, .int .i64 n18, .int .i64 n19, .int .i64 n20, .int .i64 n21, .int .i64 n22, .int .i64 n23] 37))
  have KL := Lib.hid (Blk.new' (w.alloc (.cells (mkc 56 f) 32)) #[.int .i64 n0, .int .i64 n1, .int .i64 n2, .int .i64 n3, .int .i64 n4, .int .i64 n5, .int .i64 n6, .int .i64 n7, .int .i64 n8, .int .i64 n9, .int .i64 n10, .int .i64 n11, .int .i64 n12, .int .i64 n13, .int .i64 n14, .int .i64 n15, .int .i64 n16, .int .i64 n17, .int .i64 n18, .int .i64 n19, .int .i64 n20, .int .i64 n21, .int .i64 n22, .int .i64 n23] 37 (g := w.heap.size + 1) (by simp))
  have BB := Lib.hid (below_alloc2 w (.cells (mkc 56 f) 32) (.cells #[.int .i64 n0, .int .i64 n1, .int .i64 n2, .int .i64 n3, .int .i64 n4, .int .i64 n5, .int .i64 n6, .int .i64 n7, .int .i64 n8, .int .i64 n9, .int .i64 n10, .int .i64 n11, .int .i64 n12, .int .i64 n13, .int .i64 n14, .int .i64 n15, .int .i64 n16, .int .i64 n17, .int .i64 n18, .int .i64 n19, .int .i64 n20, .int .i64 n21, .int .i64 n22, .int .i64 n23] 37))
  generalize (w.alloc (.cells (mkc 56 f) 32)).alloc (.cells #[.int .i64 n0, .int .i64 n1, .int .i64 n2, .int .i64 n3, .int .i64 n4, .int .i64 n5, .int .i64 n6, .int .i64 n7, .int .i64 n8, .int .i64 n9, .int .i64 n10, .int .i64 n11, .int .i64 n12, .int .i64 n13, .int .i64 n14, .int .i64 n15, .int .i64 n16, .int .i64 n17, .int .i64 n18, .int .i64 n19, .int .i64 n20, .int .i64 n21, .int .i64 n22, .int .i64 n23] 37) = w0 at *
  ((with_reducible refine (shown21 _).mono ?_))
  rintro e w1 ⟨rfl, b1⟩
  replace KF := Lib.hid (KF.out.below b1)
  replace KL := Lib.hid (KL.out.below b1)
  replace BB := Lib.hid (bt BB.out b1)
  have l1 := KL.out.lt
  clear b1
  go_wp2_with (first | ((with_reducible show wpList _ _ _ (⟨_, .load 36 _, _, _, _, none⟩ :: _) _ _); (with_reducible refine wpBlk_mid (g := w.heap.size + 1) (off := 0) (cs := #[.int .i64 n0, .int .i64 n1, .int .i64 n2, .int .i64 n3, .int .i64 n4, .int .i64 n5, .int .i64 n6, .int .i64 n7, .int .i64 n8, .int .i64 n9, .int .i64 n10, .int .i64 n11]) agg_point ?_ ?_ KL ?_ ?_ ?_); (· exact wanted0 rfl); (· exact ⟨rfl, rfl⟩); (· rfl); (· rfl)) | ((with_reducible show wpList _ _ _ (⟨_, .alloc 36, _, _, _, none⟩ :: _) _ _); (with_reducible refine wpRow_alloc zeroT_pt ?_ ?_ ?_); (· exact wanted0 rfl); (· rfl); refine Marker.mk ?_))
  refine Marker.in ?_
  have bel := below_alloc1 w1 (.cells #[.int .i64 0, .int .i64 0, .int .i64 0, .int .i64 0, .int .i64 0, .int .i64 0, .int .i64 0, .int .i64 0, .int .i64 0, .int .i64 0, .int .i64 0, .int .i64 0] 36)
  replace KF := Lib.hid (KF.out.below bel)
  replace KL := Lib.hid (KL.out.below bel)
  replace BB := Lib.hid (bt BB.out bel)
  have KA := Lib.hid (Blk.new w1 #[.int .i64 0, .int .i64 0, .int .i64 0, .int .i64 0, .int .i64 0, .int .i64 0, .int .i64 0, .int .i64 0, .int .i64 0, .int .i64 0, .int .i64 0, .int .i64 0] 36)
  clear bel
  generalize w1.alloc (.cells #[.int .i64 0, .int .i64 0, .int .i64 0, .int .i64 0, .int .i64 0, .int .i64 0, .int .i64 0, .int .i64 0, .int .i64 0, .int .i64 0, .int .i64 0, .int .i64 0] 36) = w2 at *
  generalize w1.heap.size = g9 at *
  go_wp2_with ((with_reducible show wpList _ _ _ (⟨_, .store 36 _ _, _, _, _, none⟩ :: _) _ _); (with_reducible refine wpBlk_store (g := g9) (cs := #[.int .i64 n0, .int .i64 n1, .int .i64 n2, .int .i64 n3, .int .i64 n4, .int .i64 n5, .int .i64 n6, .int .i64 n7, .int .i64 n8, .int .i64 n9, .int .i64 n10, .int .i64 n11]) agg_point ?_ ?_ KA ?_ ?_ ?_ ?_); (· exact wanted0 rfl); (· exact ⟨rfl, rfl, rfl⟩); (· rfl); (· rfl); (· (simp [Value.oneCell']; done)); refine Marker.mk ?_)
  refine Marker.in ?_
  replace KF := Lib.hid (KF.out.setRow_other g9 #[.int .i64 n0, .int .i64 n1, .int .i64 n2, .int .i64 n3, .int .i64 n4, .int .i64 n5, .int .i64 n6, .int .i64 n7, .int .i64 n8, .int .i64 n9, .int .i64 n10, .int .i64 n11] (by omega))
  replace KL := Lib.hid (KL.out.setRow_other g9 #[.int .i64 n0, .int .i64 n1, .int .i64 n2, .int .i64 n3, .int .i64 n4, .int .i64 n5, .int .i64 n6, .int .i64 n7, .int .i64 n8, .int .i64 n9, .int .i64 n10, .int .i64 n11] (by omega))
  replace KA := Lib.hid (KA.out.setRow #[.int .i64 n0, .int .i64 n1, .int .i64 n2, .int .i64 n3, .int .i64 n4, .int .i64 n5, .int .i64 n6, .int .i64 n7, .int .i64 n8, .int .i64 n9, .int .i64 n10, .int .i64 n11])
  replace BB := Lib.hid (below_setRow (g := g9) BB.out (by omega) #[.int .i64 n0, .int .i64 n1, .int .i64 n2, .int .i64 n3, .int .i64 n4, .int .i64 n5, .int .i64 n6, .int .i64 n7, .int .i64 n8, .int .i64 n9, .int .i64 n10, .int .i64 n11])
  generalize w2.setRow g9 #[.int .i64 n0, .int .i64 n1, .int .i64 n2, .int .i64 n3, .int .i64 n4, .int .i64 n5, .int .i64 n6, .int .i64 n7, .int .i64 n8, .int .i64 n9, .int .i64 n10, .int .i64 n11] = w3 at *
  have l3 := KA.out.lt
  go_wp2_with (first | ((with_reducible show wpList _ _ _ (⟨_, .load 36 _, _, _, _, none⟩ :: _) _ _); (with_reducible refine wpBlk_load (g := g9) agg_point ?_ ?_ KA ?_ ?_); (· exact wanted0 rfl); (· exact ⟨rfl, rfl⟩); (· rfl)) | ((with_reducible show wpList _ _ _ (⟨_, .alloc 36, _, _, _, none⟩ :: _) _ _); (with_reducible refine wpRow_alloc zeroT_pt ?_ ?_ ?_); (· exact wanted0 rfl); (· rfl); refine Marker.mk ?_))
  refine Marker.in ?_
  have bel := below_alloc1 w3 (.cells #[.int .i64 0, .int .i64 0, .int .i64 0, .int .i64 0, .int .i64 0, .int .i64 0, .int .i64 0, .int .i64 0, .int .i64 0, .int .i64 0, .int .i64 0, .int .i64 0] 36)
  replace KF := Lib.hid (KF.out.below bel)
  replace KL := Lib.hid (KL.out.below bel)
  replace KA := Lib.hid (KA.out.below bel)
  replace BB := Lib.hid (bt BB.out bel)
  have KB := Lib.hid (Blk.new w3 #[.int .i64 0, .int .i64 0, .int .i64 0, .int .i64 0, .int .i64 0, .int .i64 0, .int .i64 0, .int .i64 0, .int .i64 0, .int .i64 0, .int .i64 0, .int .i64 0] 36)
  clear bel
  generalize w3.alloc (.cells #[.int .i64 0, .int .i64 0, .int .i64 0, .int .i64 0, .int .i64 0, .int .i64 0, .int .i64 0, .int .i64 0, .int .i64 0, .int .i64 0, .int .i64 0, .int .i64 0] 36) = w4 at *
  generalize w3.heap.size = g10 at *
  go_wp2_with ((with_reducible show wpList _ _ _ (⟨_, .store 36 _ _, _, _, _, none⟩ :: _) _ _); (with_reducible refine wpBlk_store (g := g10) (cs := #[.int .i64 n0, .int .i64 n1, .int .i64 n2, .int .i64 n3, .int .i64 n4, .int .i64 n5, .int .i64 n6, .int .i64 n7, .int .i64 n8, .int .i64 n9, .int .i64 n10, .int .i64 n11]) agg_point ?_ ?_ KB ?_ ?_ ?_ ?_); (· exact wanted0 rfl); (· exact ⟨rfl, rfl, rfl⟩); (· rfl); (· rfl); (· (simp [Value.oneCell']; done)); refine Marker.mk ?_)
  refine Marker.in ?_
  replace KF := Lib.hid (KF.out.setRow_other g10 #[.int .i64 n0, .int .i64 n1, .int .i64 n2, .int .i64 n3, .int .i64 n4, .int .i64 n5, .int .i64 n6, .int .i64 n7, .int .i64 n8, .int .i64 n9, .int .i64 n10, .int .i64 n11] (by omega))
  replace KL := Lib.hid (KL.out.setRow_other g10 #[.int .i64 n0, .int .i64 n1, .int .i64 n2, .int .i64 n3, .int .i64 n4, .int .i64 n5, .int .i64 n6, .int .i64 n7, .int .i64 n8, .int .i64 n9, .int .i64 n10, .int .i64 n11] (by omega))
  replace KA := Lib.hid (KA.out.setRow_other g10 #[.int .i64 n0, .int .i64 n1, .int .i64 n2, .int .i64 n3, .int .i64 n4, .int .i64 n5, .int .i64 n6, .int .i64 n7, .int .i64 n8, .int .i64 n9, .int .i64 n10, .int .i64 n11] (by omega))
  replace KB := Lib.hid (KB.out.setRow #[.int .i64 n0, .int .i64 n1, .int .i64 n2, .int .i64 n3, .int .i64 n4, .int .i64 n5, .int .i64 n6, .int .i64 n7, .int .i64 n8, .int .i64 n9, .int .i64 n10, .int .i64 n11])
  replace BB := Lib.hid (below_setRow (g := g10) BB.out (by omega) #[.int .i64 n0, .int .i64 n1, .int .i64 n2, .int .i64 n3, .int .i64 n4, .int .i64 n5, .int .i64 n6, .int .i64 n7, .int .i64 n8, .int .i64 n9, .int .i64 n10, .int .i64 n11])
  generalize w4.setRow g10 #[.int .i64 n0, .int .i64 n1, .int .i64 n2, .int .i64 n3, .int .i64 n4, .int .i64 n5, .int .i64 n6, .int .i64 n7, .int .i64 n8, .int .i64 n9, .int .i64 n10, .int .i64 n11] = w5 at *
  have l5 := KB.out.lt
  have cl := fun j => KL.out.cell j
  have cb := fun j => KB.out.cell j
  have fb := fun j => KB.out.frozen j
  go_wp2_with ((with_reducible show wpList _ _ _ (⟨_, .load 32 _, _, _, _, none⟩ :: _) _ _); refine Marker.mk ?_)
  refine Marker.in ?_
  clear cl cb fb
  replace KF := Lib.hid ((KF.out.other g10 4 (.int .i64 n16) (by omega)).other g10 8 (.int .i64 n20) (by omega))
  replace KL := Lib.hid ((KL.out.other g10 4 (.int .i64 n16) (by omega)).other g10 8 (.int .i64 n20) (by omega))
  replace KA := Lib.hid ((KA.out.other g10 4 (.int .i64 n16) (by omega)).other g10 8 (.int .i64 n20) (by omega))
  replace KB := Lib.hid (show Blk _ g10 #[.int .i64 n0, .int .i64 n1, .int .i64 n2, .int .i64 n3, .int .i64 n16, .int .i64 n5, .int .i64 n6, .int .i64 n7, .int .i64 n20, .int .i64 n9, .int .i64 n10, .int .i64 n11] 36 from (KB.out.set 4 (.int .i64 n16)).set 8 (.int .i64 n20))
  replace BB := Lib.hid ((BB.out.setCell (p := ⟨g10, 4, none⟩) (by simp; omega) (.int .i64 n16)).setCell (p := ⟨g10, 8, none⟩) (by simp; omega) (.int .i64 n20))
  generalize (w5.setCell ⟨g10, 4, none⟩ (.int .i64 n16)).setCell ⟨g10, 8, none⟩ (.int .i64 n20) = w6 at *
  go_wp2_with (first | ((with_reducible show wpList _ _ _ (⟨_, .load 32 _, _, _, _, none⟩ :: _) _ _); (with_reducible refine wpBlk_load (g := w.heap.size) agg_pol ?_ ?_ KF ?_ ?_); (· exact wanted0 rfl); (· exact ⟨rfl, rfl⟩); (· exact mkc_size _ _)) | ((with_reducible show wpList _ _ _ (⟨_, .load 36 _, _, _, _, none⟩ :: _) _ _); (with_reducible refine wpBlk_load (g := g9) agg_point ?_ ?_ KA ?_ ?_); (· exact wanted0 rfl); (· exact ⟨rfl, rfl⟩); (· rfl)))
  ((with_reducible refine (C1.out _).mono ?_))
  rintro e w7 ⟨q1, rfl, b6⟩
  replace KF := Lib.hid (KF.out.below b6)
  replace KL := Lib.hid (KL.out.below b6)
  replace KA := Lib.hid (KA.out.below b6)
  replace KB := Lib.hid (KB.out.below b6)
  replace BB := Lib.hid (bt BB.out b6)
  have lw7 := KB.out.lt
  clear b6
  go_wp2_with ((with_reducible show wpList _ _ _ (⟨_, .alloc 36, _, _, _, none⟩ :: _) _ _); (with_reducible refine wpRow_alloc zeroT_pt ?_ ?_ ?_); (· exact wanted0 rfl); (· rfl); refine Marker.mk ?_)
  refine Marker.in ?_
  have bel := below_alloc1 w7 (.cells #[.int .i64 0, .int .i64 0, .int .i64 0, .int .i64 0, .int .i64 0, .int .i64 0, .int .i64 0, .int .i64 0, .int .i64 0, .int .i64 0, .int .i64 0, .int .i64 0] 36)
  replace KF := Lib.hid (KF.out.below bel)
  replace KL := Lib.hid (KL.out.below bel)
  replace KA := Lib.hid (KA.out.below bel)
  replace KB := Lib.hid (KB.out.below bel)
  replace BB := Lib.hid (bt BB.out bel)
  have KR1 := Lib.hid (Blk.new w7 #[.int .i64 0, .int .i64 0, .int .i64 0, .int .i64 0, .int .i64 0, .int .i64 0, .int .i64 0, .int .i64 0, .int .i64 0, .int .i64 0, .int .i64 0, .int .i64 0] 36)
  clear bel
  generalize w7.alloc (.cells #[.int .i64 0, .int .i64 0, .int .i64 0, .int .i64 0, .int .i64 0, .int .i64 0, .int .i64 0, .int .i64 0, .int .i64 0, .int .i64 0, .int .i64 0, .int .i64 0] 36) = w7a at *
  generalize w7.heap.size = g11 at *
  go_wp2_with ((with_reducible show wpList _ _ _ (⟨_, .store 36 _ _, _, _, _, none⟩ :: _) _ _); (with_reducible refine wpBlk_store (g := g11) (cs := #[.int .i64 n0, .int .i64 n1, .int .i64 n2, .int .i64 n3, .int .i64 n4, .int .i64 t0, .int .i64 t1, .int .i64 t2, .int .i64 t3, .int .i64 q1, .int .i64 n10, .int .i64 n11]) agg_point ?_ ?_ KR1 ?_ ?_ ?_ ?_); (· exact wanted0 rfl); (· exact ⟨rfl, rfl, rfl⟩); (· rfl); (· rfl); (· (simp [Value.oneCell']; done)); refine Marker.mk ?_)
  refine Marker.in ?_
  replace KF := Lib.hid (KF.out.setRow_other g11 #[.int .i64 n0, .int .i64 n1, .int .i64 n2, .int .i64 n3, .int .i64 n4, .int .i64 t0, .int .i64 t1, .int .i64 t2, .int .i64 t3, .int .i64 q1, .int .i64 n10, .int .i64 n11] (by omega))
  replace KL := Lib.hid (KL.out.setRow_other g11 #[.int .i64 n0, .int .i64 n1, .int .i64 n2, .int .i64 n3, .int .i64 n4, .int .i64 t0, .int .i64 t1, .int .i64 t2, .int .i64 t3, .int .i64 q1, .int .i64 n10, .int .i64 n11] (by omega))
  replace KA := Lib.hid (KA.out.setRow_other g11 #[.int .i64 n0, .int .i64 n1, .int .i64 n2, .int .i64 n3, .int .i64 n4, .int .i64 t0, .int .i64 t1, .int .i64 t2, .int .i64 t3, .int .i64 q1, .int .i64 n10, .int .i64 n11] (by omega))
  replace KB := Lib.hid (KB.out.setRow_other g11 #[.int .i64 n0, .int .i64 n1, .int .i64 n2, .int .i64 n3, .int .i64 n4, .int .i64 t0, .int .i64 t1, .int .i64 t2, .int .i64 t3, .int .i64 q1, .int .i64 n10, .int .i64 n11] (by omega))
  replace KR1 := Lib.hid (KR1.out.setRow #[.int .i64 n0, .int .i64 n1, .int .i64 n2, .int .i64 n3, .int .i64 n4, .int .i64 t0, .int .i64 t1, .int .i64 t2, .int .i64 t3, .int .i64 q1, .int .i64 n10, .int .i64 n11])
  replace BB := Lib.hid (below_setRow (g := g11) BB.out (by omega) #[.int .i64 n0, .int .i64 n1, .int .i64 n2, .int .i64 n3, .int .i64 n4, .int .i64 t0, .int .i64 t1, .int .i64 t2, .int .i64 t3, .int .i64 q1, .int .i64 n10, .int .i64 n11])
  generalize w7a.setRow g11 #[.int .i64 n0, .int .i64 n1, .int .i64 n2, .int .i64 n3, .int .i64 n4, .int .i64 t0, .int .i64 t1, .int .i64 t2, .int .i64 t3, .int .i64 q1, .int .i64 n10, .int .i64 n11] = w7b at *
  go_wp2_with (first | ((with_reducible show wpList _ _ _ (⟨_, .load 32 _, _, _, _, none⟩ :: _) _ _); (with_reducible refine wpBlk_load (g := w.heap.size) agg_pol ?_ ?_ KF ?_ ?_); (· exact wanted0 rfl); (· exact ⟨rfl, rfl⟩); (· exact mkc_size _ _)) | ((with_reducible show wpList _ _ _ (⟨_, .load 36 _, _, _, _, none⟩ :: _) _ _); (with_reducible refine wpBlk_load (g := g10) agg_point ?_ ?_ KB ?_ ?_); (· exact wanted0 rfl); (· exact ⟨rfl, rfl⟩); (· rfl)))
  ((with_reducible refine (C2.out _).mono ?_))
  rintro e w8 ⟨q2, rfl, b6⟩
  replace KF := Lib.hid (KF.out.below b6)
  replace KL := Lib.hid (KL.out.below b6)
  replace KA := Lib.hid (KA.out.below b6)
  replace KB := Lib.hid (KB.out.below b6)
  replace KR1 := Lib.hid (KR1.out.below b6)
  replace BB := Lib.hid (bt BB.out b6)
  have lw8 := KB.out.lt
  have mw8 := KR1.out.lt
  clear b6
  go_wp2_with ((with_reducible show wpList _ _ _ (⟨_, .alloc 36, _, _, _, none⟩ :: _) _ _); (with_reducible refine wpRow_alloc zeroT_pt ?_ ?_ ?_); (· exact wanted0 rfl); (· rfl); refine Marker.mk ?_)
  refine Marker.in ?_
  have bel := below_alloc1 w8 (.cells #[.int .i64 0, .int .i64 0, .int .i64 0, .int .i64 0, .int .i64 0, .int .i64 0, .int .i64 0, .int .i64 0, .int .i64 0, .int .i64 0, .int .i64 0, .int .i64 0] 36)
  replace KF := Lib.hid (KF.out.below bel)
  replace KL := Lib.hid (KL.out.below bel)
  replace KA := Lib.hid (KA.out.below bel)
  replace KB := Lib.hid (KB.out.below bel)
  replace KR1 := Lib.hid (KR1.out.below bel)
  replace BB := Lib.hid (bt BB.out bel)
  have KR2 := Lib.hid (Blk.new w8 #[.int .i64 0, .int .i64 0, .int .i64 0, .int .i64 0, .int .i64 0, .int .i64 0, .int .i64 0, .int .i64 0, .int .i64 0, .int .i64 0, .int .i64 0, .int .i64 0] 36)
  clear bel
  generalize w8.alloc (.cells #[.int .i64 0, .int .i64 0, .int .i64 0, .int .i64 0, .int .i64 0, .int .i64 0, .int .i64 0, .int .i64 0, .int .i64 0, .int .i64 0, .int .i64 0, .int .i64 0] 36) = w8a at *
  generalize w8.heap.size = g12 at *
  go_wp2_with ((with_reducible show wpList _ _ _ (⟨_, .store 36 _ _, _, _, _, none⟩ :: _) _ _); (with_reducible refine wpBlk_store (g := g12) (cs := #[.int .i64 n0, .int .i64 n1, .int .i64 n2, .int .i64 n3, .int .i64 n16, .int .i64 t0, .int .i64 t1, .int .i64 t2, .int .i64 s3, .int .i64 q2, .int .i64 n10, .int .i64 n11]) agg_point ?_ ?_ KR2 ?_ ?_ ?_ ?_); (· exact wanted0 rfl); (· exact ⟨rfl, rfl, rfl⟩); (· rfl); (· rfl); (· (simp [Value.oneCell']; done)); refine Marker.mk ?_)
  refine Marker.in ?_
  replace KF := Lib.hid (KF.out.setRow_other g12 #[.int .i64 n0, .int .i64 n1, .int .i64 n2, .int .i64 n3, .int .i64 n16, .int .i64 t0, .int .i64 t1, .int .i64 t2, .int .i64 s3, .int .i64 q2, .int .i64 n10, .int .i64 n11] (by omega))
  replace KL := Lib.hid (KL.out.setRow_other g12 #[.int .i64 n0, .int .i64 n1, .int .i64 n2, .int .i64 n3, .int .i64 n16, .int .i64 t0, .int .i64 t1, .int .i64 t2, .int .i64 s3, .int .i64 q2, .int .i64 n10, .int .i64 n11] (by omega))
  replace KA := Lib.hid (KA.out.setRow_other g12 #[.int .i64 n0, .int .i64 n1, .int .i64 n2, .int .i64 n3, .int .i64 n16, .int .i64 t0, .int .i64 t1, .int .i64 t2, .int .i64 s3, .int .i64 q2, .int .i64 n10, .int .i64 n11] (by omega))
  replace KB := Lib.hid (KB.out.setRow_other g12 #[.int .i64 n0, .int .i64 n1, .int .i64 n2, .int .i64 n3, .int .i64 n16, .int .i64 t0, .int .i64 t1, .int .i64 t2, .int .i64 s3, .int .i64 q2, .int .i64 n10, .int .i64 n11] (by omega))
  replace KR1 := Lib.hid (KR1.out.setRow_other g12 #[.int .i64 n0, .int .i64 n1, .int .i64 n2, .int .i64 n3, .int .i64 n16, .int .i64 t0, .int .i64 t1, .int .i64 t2, .int .i64 s3, .int .i64 q2, .int .i64 n10, .int .i64 n11] (by omega))
  replace KR2 := Lib.hid (KR2.out.setRow #[.int .i64 n0, .int .i64 n1, .int .i64 n2, .int .i64 n3, .int .i64 n16, .int .i64 t0, .int .i64 t1, .int .i64 t2, .int .i64 s3, .int .i64 q2, .int .i64 n10, .int .i64 n11])
  replace BB := Lib.hid (below_setRow (g := g12) BB.out (by omega) #[.int .i64 n0, .int .i64 n1, .int .i64 n2, .int .i64 n3, .int .i64 n16, .int .i64 t0, .int .i64 t1, .int .i64 t2, .int .i64 s3, .int .i64 q2, .int .i64 n10, .int .i64 n11])
  generalize w8a.setRow g12 #[.int .i64 n0, .int .i64 n1, .int .i64 n2, .int .i64 n3, .int .i64 n16, .int .i64 t0, .int .i64 t1, .int .i64 t2, .int .i64 s3, .int .i64 q2, .int .i64 n10, .int .i64 n11] = w8b at *
  go_wp2_with (first | ((with_reducible show wpList _ _ _ (⟨_, .load 32 _, _, _, _, none⟩ :: _) _ _); (with_reducible refine wpBlk_load (g := w.heap.size) agg_pol ?_ ?_ KF ?_ ?_); (· exact wanted0 rfl); (· exact ⟨rfl, rfl⟩); (· exact mkc_size _ _)) | ((with_reducible show wpList _ _ _ (⟨_, .load 36 _, _, _, _, none⟩ :: _) _ _); (with_reducible refine wpBlk_mid (g := w.heap.size + 1) (off := 12) (cs := #[.int .i64 n12, .int .i64 n13, .int .i64 n14, .int .i64 n15, .int .i64 n16, .int .i64 n17, .int .i64 n18, .int .i64 n19, .int .i64 n20, .int .i64 n21, .int .i64 n22, .int .i64 n23]) agg_point ?_ ?_ KL ?_ ?_ ?_); (· exact wanted0 rfl); (· exact ⟨rfl, rfl⟩); (· rfl); (· rfl)))
  ((with_reducible refine (C3.out _).mono ?_))
  rintro e w9 ⟨q3, rfl, b6⟩
  replace KF := Lib.hid (KF.out.below b6)
  replace KL := Lib.hid (KL.out.below b6)
  replace KA := Lib.hid (KA.out.below b6)
  replace KB := Lib.hid (KB.out.below b6)
  replace KR1 := Lib.hid (KR1.out.below b6)
  replace KR2 := Lib.hid (KR2.out.below b6)
  replace BB := Lib.hid (bt BB.out b6)
  have lw9 := KB.out.lt
  have mw9 := KR2.out.lt
  clear b6
  go_wp2_with ((with_reducible show wpList _ _ _ (⟨_, .alloc 36, _, _, _, none⟩ :: _) _ _); (with_reducible refine wpRow_alloc zeroT_pt ?_ ?_ ?_); (· exact wanted0 rfl); (· rfl); refine Marker.mk ?_)
  refine Marker.in ?_
  have bel := below_alloc1 w9 (.cells #[.int .i64 0, .int .i64 0, .int .i64 0, .int .i64 0, .int .i64 0, .int .i64 0, .int .i64 0, .int .i64 0, .int .i64 0, .int .i64 0, .int .i64 0, .int .i64 0] 36)
  replace KF := Lib.hid (KF.out.below bel)
  replace KL := Lib.hid (KL.out.below bel)
  replace KA := Lib.hid (KA.out.below bel)
  replace KB := Lib.hid (KB.out.below bel)
  replace KR1 := Lib.hid (KR1.out.below bel)
  replace KR2 := Lib.hid (KR2.out.below bel)
  replace BB := Lib.hid (bt BB.out bel)
  have KR3 := Lib.hid (Blk.new w9 #[.int .i64 0, .int .i64 0, .int .i64 0, .int .i64 0, .int .i64 0, .int .i64 0, .int .i64 0, .int .i64 0, .int .i64 0, .int .i64 0, .int .i64 0, .int .i64 0] 36)
  clear bel
  generalize w9.alloc (.cells #[.int .i64 0, .int .i64 0, .int .i64 0, .int .i64 0, .int .i64 0, .int .i64 0, .int .i64 0, .int .i64 0, .int .i64 0, .int .i64 0, .int .i64 0, .int .i64 0] 36) = w9a at *
  generalize w9.heap.size = g13 at *
  go_wp2_with ((with_reducible show wpList _ _ _ (⟨_, .store 36 _ _, _, _, _, none⟩ :: _) _ _); (with_reducible refine wpBlk_store (g := g13) (cs := #[.int .i64 n12, .int .i64 n13, .int .i64 n14, .int .i64 n15, .int .i64 n16, .int .i64 s0, .int .i64 s1, .int .i64 s2, .int .i64 s3, .int .i64 q3, .int .i64 n22, .int .i64 n23]) agg_point ?_ ?_ KR3 ?_ ?_ ?_ ?_); (· exact wanted0 rfl); (· exact ⟨rfl, rfl, rfl⟩); (· rfl); (· rfl); (· (simp [Value.oneCell']; done)); refine Marker.mk ?_)
  refine Marker.in ?_
  replace KF := Lib.hid (KF.out.setRow_other g13 #[.int .i64 n12, .int .i64 n13, .int .i64 n14, .int .i64 n15, .int .i64 n16, .int .i64 s0, .int .i64 s1, .int .i64 s2, .int .i64 s3, .int .i64 q3, .int .i64 n22, .int .i64 n23] (by omega))
  replace KL := Lib.hid (KL.out.setRow_other g13 #[.int .i64 n12, .int .i64 n13, .int .i64 n14, .int .i64 n15, .int .i64 n16, .int .i64 s0, .int .i64 s1, .int .i64 s2, .int .i64 s3, .int .i64 q3, .int .i64 n22, .int .i64 n23] (by omega))
  replace KA := Lib.hid (KA.out.setRow_other g13 #[.int .i64 n12, .int .i64 n13, .int .i64 n14, .int .i64 n15, .int .i64 n16, .int .i64 s0, .int .i64 s1, .int .i64 s2, .int .i64 s3, .int .i64 q3, .int .i64 n22, .int .i64 n23] (by omega))
  replace KB := Lib.hid (KB.out.setRow_other g13 #[.int .i64 n12, .int .i64 n13, .int .i64 n14, .int .i64 n15, .int .i64 n16, .int .i64 s0, .int .i64 s1, .int .i64 s2, .int .i64 s3, .int .i64 q3, .int .i64 n22, .int .i64 n23] (by omega))
  replace KR1 := Lib.hid (KR1.out.setRow_other g13 #[.int .i64 n12, .int .i64 n13, .int .i64 n14, .int .i64 n15, .int .i64 n16, .int .i64 s0, .int .i64 s1, .int .i64 s2, .int .i64 s3, .int .i64 q3, .int .i64 n22, .int .i64 n23] (by omega))
  replace KR2 := Lib.hid (KR2.out.setRow_other g13 #[.int .i64 n12, .int .i64 n13, .int .i64 n14, .int .i64 n15, .int .i64 n16, .int .i64 s0, .int .i64 s1, .int .i64 s2, .int .i64 s3, .int .i64 q3, .int .i64 n22, .int .i64 n23] (by omega))
  replace KR3 := Lib.hid (KR3.out.setRow #[.int .i64 n12, .int .i64 n13, .int .i64 n14, .int .i64 n15, .int .i64 n16, .int .i64 s0, .int .i64 s1, .int .i64 s2, .int .i64 s3, .int .i64 q3, .int .i64 n22, .int .i64 n23])
  replace BB := Lib.hid (below_setRow (g := g13) BB.out (by omega) #[.int .i64 n12, .int .i64 n13, .int .i64 n14, .int .i64 n15, .int .i64 n16, .int .i64 s0, .int .i64 s1, .int .i64 s2, .int .i64 s3, .int .i64 q3, .int .i64 n22, .int .i64 n23])
  generalize w9a.setRow g13 #[.int .i64 n12, .int .i64 n13, .int .i64 n14, .int .i64 n15, .int .i64 n16, .int .i64 s0, .int .i64 s1, .int .i64 s2, .int .i64 s3, .int .i64 q3, .int .i64 n22, .int .i64 n23] = w9b at *
  have c1 := fun j => KR1.out.cell j
  have c2 := fun j => KR2.out.cell j
  have c3 := fun j => KR3.out.cell j
  have ca := fun j => KA.out.cell j
  have cb := fun j => KB.out.cell j
  have EA := fun W => (run_eq_self n1 n2 n3 n4 W)
  have EB := fun W => (run_eq_self n1 n2 n3 n16 W)
  go_wp2_with fail
  refine wp_loop_rounds 5 ?_
  rw [rounds_succ]
  go_wp2_with fail
  go_quiet (fail)
  go_wp2_with fail
  rw [rounds_succ]
  go_wp2_with fail
  go_quiet (fail)
  go_wp2_with fail
  rw [rounds_succ]
  go_wp2_with fail
  go_quiet (fail)
  go_wp2_with fail
  rw [rounds_succ]
  go_wp2_with fail
  go_quiet (fail)
  go_wp2_with fail
  rw [rounds_succ]
  go_wp2_with fail
  go_quiet (fail)
  go_wp2_with fail
  go_ret
  exact ⟨rfl, below_drewN (below_drewN BB.out _) _⟩

theorem walk_LimitAxes (v0 v1 v2 : Value) (w : World) (q0 : IsPol w v0) (q1 : ∃ base, Value.okWide Try.prog w .any base 37 v1) (q2 : ∃ n : Int, v2 = .int .u8 n ∧ 0 ≤ n ∧ n ≤ 255) :
    Calls Try.prog 5 #[v0, v1, v2] w fun e w' => e = .returned (.bool true) ∧ Below w.heap.size w w' := by
  obtain ⟨f, rfl, hp⟩ := q0
  obtain ⟨base, q1⟩ := q1
  obtain ⟨ax, rfl, x0, x1⟩ := q2
  obtain ⟨n0, n1, n2, n3, n4, n5, n6, n7, n8, n9, n10, n11, n12, n13, n14, n15, n16, n17, n18, n19, n20, n21, n22, n23, rfl, i0, i1, i2, i3, i4, i5, i6, i7, i8, i9, i10, i11, i12, i13, i14, i15, i16, i17, i18, i19, i20, i21, i22, i23⟩ := flat_points _ _ _ q1
  obtain ⟨hf, h1, h2⟩ := hp.int 54 (by omega) (.inr (by omega))
  have ir : InI (intOf (f 54)) := ⟨h1, h2⟩
  rcases (show ax % 4 = 0 ∨ ax % 4 = 1 ∨ ax % 4 = 2 ∨ ax % 4 = 3 by omega) with hk | hk | hk | hk
  · exact limAxes_0 f n0 n1 n2 n3 n4 n5 n6 n7 n8 n9 n10 n11 n12 n13 n14 n15 n16 n17 n18 n19 n20 n21 n22 n23 ax _ w hf ir x0 x1 hk i0 i1 i2 i3 i4 i5 i6 i7 i8 i9 i10 i11 i12 i13 i14 i15 i16 i17 i18 i19 i20 i21 i22 i23
  · exact limAxes_1 f n0 n1 n2 n3 n4 n5 n6 n7 n8 n9 n10 n11 n12 n13 n14 n15 n16 n17 n18 n19 n20 n21 n22 n23 ax _ w hf ir x0 x1 hk i0 i1 i2 i3 i4 i5 i6 i7 i8 i9 i10 i11 i12 i13 i14 i15 i16 i17 i18 i19 i20 i21 i22 i23
  · exact limAxes_2 f n0 n1 n2 n3 n4 n5 n6 n7 n8 n9 n10 n11 n12 n13 n14 n15 n16 n17 n18 n19 n20 n21 n22 n23 ax _ w hf ir x0 x1 hk i0 i1 i2 i3 i4 i5 i6 i7 i8 i9 i10 i11 i12 i13 i14 i15 i16 i17 i18 i19 i20 i21 i22 i23
  · exact limAxes_3 f n0 n1 n2 n3 n4 n5 n6 n7 n8 n9 n10 n11 n12 n13 n14 n15 n16 n17 n18 n19 n20 n21 n22 n23 ax _ w hf ir x0 x1 hk i0 i1 i2 i3 i4 i5 i6 i7 i8 i9 i10 i11 i12 i13 i14 i15 i16 i17 i18 i19 i20 i21 i22 i23
end Go.Proofs.Ytcgaodencjcgnaa
