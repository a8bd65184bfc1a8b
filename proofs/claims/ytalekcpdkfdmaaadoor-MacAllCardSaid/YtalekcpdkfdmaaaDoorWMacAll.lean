/- The walk of MacAll. -/
import Derived.Test.YtalekcpdkfdmaaaDoorRefM
import Derived.Test.YtalekcpdkfdmaaaDoorMacT
import Derived.Test.YtalekcpdkfdmaaaDoorEqB
namespace Go.Proofs.YtalekcpdkfdmaaaDoor
open Go.RowKit

set_option maxRecDepth 100000 in
set_option maxHeartbeats 800000 in
theorem walk_MacAll (v0 v1 : Value) (w : World) (hR : Roots w) (q0 : IsRow .u8 w v0) (q1 : IsRow .u8 w v1) :
    Calls Tryd.prog 7 #[v0, v1] w fun e w' => e = .returned (.bool true) ∧ Below w.heap.size w w' := by
  obtain ⟨A, k, n, c, hn, n3, n1, n2, hk, hA, hf⟩ := few_of (k := 150) q0 few05
  obtain ⟨B, x, m, d, hm, m3, m1, m2, hx, hB, hg⟩ := few_of (k := 150) q1 few05
  have C1 := fun (W : World) (hb : Below w.heap.size w W) => of_any A B k x n m c d W hn hm (row_below hk hb) (row_below hx hb) (by omega) (by omega) (hR.below hb)
  have C2 := fun (W : World) (hb : Below w.heap.size w W) => rof_any A B k x n m c d W hn hm (row_below hk hb) (row_below hx hb) (by omega) (by omega)
  have C3 := fun (W : World) (hb : Below w.heap.size w W) => tag_any A B k x n m c d W hn hm (row_below hk hb) (row_below hx hb) (by omega) (by omega) (hR.below hb)
  have C4 := fun (W : World) (hb : Below w.heap.size w W) => rtag_any A B k x n m c d W hn hm (row_below hk hb) (row_below hx hb) (by omega) (by omega)
  have L1 := hmac_len k x
  have L2 : ((hmac k x).take 8).length = 8 := by rw [List.length_take, hmac_len]; rfl
  generalize (hmac k x).take 8 = tg at *
  generalize hmac k x = h at *
  have EQ1 := eql_b32_self h L1
  have EQ2 := eql_b8_self tg L2
  have HF := Lib.hid hf
  have HG := Lib.hid hg
  replace C1 := Lib.hid C1
  replace C2 := Lib.hid C2
  replace C3 := Lib.hid C3
  replace C4 := Lib.hid C4
  have RT := Lib.hid hR
  have BB := Lib.hid (Below.refl w.heap.size w)
  clear hf hg hn hm hk hx hR q0 q1 L1 L2
  go_enter Tryd.func7, Tryd.ntmps7
  go_wp2_with fail
  ((with_reducible refine (shown05 _ RT.out).mono ?_))
  rintro e w1 ⟨rfl, b1⟩
  replace BB := Lib.hid (bt BB.out b1)
  clear b1
  go_wp2_with fail
  ((with_reducible refine (HF.out _).mono ?_))
  rintro e w2 ⟨rfl, rfl⟩
  go_wp2_with fail
  ((with_reducible refine (HG.out _).mono ?_))
  rintro e w2 ⟨rfl, rfl⟩
  go_wp2_with fail
  ((with_reducible refine (C1.out _ BB.out).mono ?_))
  rintro e x1 ⟨rfl, b1⟩
  replace BB := Lib.hid (bt BB.out b1)
  clear b1
  go_wp2_with fail
  ((with_reducible refine (C2.out _ BB.out).mono ?_))
  rintro e x2 ⟨rfl, b2⟩
  replace BB := Lib.hid (bt BB.out b2)
  clear b2
  go_wp2_with fail
  ((with_reducible refine (C3.out _ BB.out).mono ?_))
  rintro e x3 ⟨rfl, b3⟩
  replace BB := Lib.hid (bt BB.out b3)
  clear b3
  go_wp2_with fail
  ((with_reducible refine (C4.out _ BB.out).mono ?_))
  rintro e x4 ⟨rfl, b4⟩
  replace BB := Lib.hid (bt BB.out b4)
  clear b4
  go_wp2_with fail
  go_ret
  exact ⟨rfl, BB.out⟩
end Go.Proofs.YtalekcpdkfdmaaaDoor
