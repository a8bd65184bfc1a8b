/- (field).take: a field set to the number that bytes are. -/
import Derived.Test.YtakahkpogooepaaMsgP
namespace Go.Proofs.Ytakahkpogooepaa
open Go.RowKit

/-- what the setter S does with n from here on -/
def Sets (w : World) (S : Nat) (gp : Value) (n : Int) (Q : World → World → Prop) : Prop := Enters S ∧ ∀ W, Below w.heap.size w W → Calls Try.prog S #[.int .i64 n, gp] W fun e w' => e = .returned (.tuple #[]) ∧ Q W w'
theorem Sets.call {w : World} {S : Nat} {gp : Value} {n : Int} {Q : World → World → Prop} (h : Sets w S gp n Q) (W : World) (hW : Below w.heap.size w W) : Calls Try.prog S #[.int .i64 n, gp] W fun e w' => e = .returned (.tuple #[]) ∧ Q W w' := h.2 W hW
set_option maxRecDepth 100000 in
set_option maxHeartbeats 800000 in
theorem take_neg (sz lo hi : Int) (G S : Nat) (gp : Value) (xs : List Int) (B : Option Addr) (c : Nat) (v : Int) (Q : World → World → Prop) (w : World) (hr : Row w B xs) (hl : xs.length = 2) (hv : sig xs = v) (hn : lo < 0) (h1 : lo ≤ v) (h2 : v ≤ hi) (hs : Sets w S gp v Q) :
    Calls Try.prog 41 #[.agg #[.int .i64 sz, .int .i64 lo, .int .i64 hi, .func (.func G) #[] #[gp], .func (.func S) #[] #[gp]], .slice B 2 c] w fun e w' => e = .returned (.bool true) ∧ ∃ W, Below w.heap.size w W ∧ Q W w' := by
  have HS := Lib.hid hs
  have HE : ∀ (args : Array Value) (w : World), (callFunc S args).run Try.prog w = .ok (.enter S args) w := hs.1
  clear hs
  have HL := Lib.hid hl
  have HV := Lib.hid hv
  have hd0 : decide (lo < 0) = true := decide_eq_true hn
  have hd1 : decide (v < lo) = false := decide_eq_false (by omega)
  have hd2 : decide (hi < v) = false := decide_eq_false (by omega)
  have CT := Lib.hid (fun W (h : Row W B xs) => takeInt_ok B xs c W h hl)
  rw [hv] at CT
  clear hl hv
  have B1 := Lib.hid (below_alloc1 w (.cells #[.int .i64 sz, .int .i64 lo, .int .i64 hi, .func (.func G) #[] #[gp], .func (.func S) #[] #[gp]] 57))
  have KB := Lib.hid (Blk.new w #[.int .i64 sz, .int .i64 lo, .int .i64 hi, .func (.func G) #[] #[gp], .func (.func S) #[] #[gp]] 57)
  have HR := Lib.hid (row_below hr B1.out)
  clear hr
  go_enter Try.func41, Try.ntmps41
  go_wp2_with fail
  generalize w.alloc (.cells #[.int .i64 sz, .int .i64 lo, .int .i64 hi, .func (.func G) #[] #[gp], .func (.func S) #[] #[gp]] 57) = w1 at *
  have cb := fun j => KB.out.cell j
  ((with_reducible refine (CT.out _ HR.out).mono ?_))
  rintro e w2 ⟨rfl, rfl⟩
  go_wp2_with fail
  ((with_reducible refine (HS.out.call _ B1.out).mono ?_))
  rintro e w3 ⟨rfl, hq⟩
  clear HE
  go_wp2_with fail
  go_ret
  exact ⟨rfl, _, B1.out, hq⟩
set_option maxRecDepth 100000 in
set_option maxHeartbeats 800000 in
theorem take_pos (sz lo hi : Int) (G S : Nat) (gp : Value) (xs : List Int) (B : Option Addr) (k c : Nat) (v : Int) (Q : World → World → Prop) (w : World) (hr : Row w B xs) (hl : xs.length = k) (hk : k ≤ 8) (hv : num xs = v) (hn : 0 ≤ lo) (h1 : lo ≤ v) (h2 : v ≤ hi) (h63 : hi ≤ 9223372036854775807) (hs : Sets w S gp v Q) :
    Calls Try.prog 41 #[.agg #[.int .i64 sz, .int .i64 lo, .int .i64 hi, .func (.func G) #[] #[gp], .func (.func S) #[] #[gp]], .slice B k c] w fun e w' => e = .returned (.bool true) ∧ ∃ W, Below w.heap.size w W ∧ Q W w' := by
  have HS := Lib.hid hs
  have HE : ∀ (args : Array Value) (w : World), (callFunc S args).run Try.prog w = .ok (.enter S args) w := hs.1
  clear hs
  have HL := Lib.hid hl
  have hd0 : decide (lo < 0) = false := decide_eq_false (by omega)
  have CT := Lib.hid (fun W (h : Row W B xs) => take_row (w := W) k c hl h hk)
  rw [hv] at CT
  clear hl hv
  have hd1 : decide (v < lo) = false := decide_eq_false (by omega)
  have hd2 : decide (hi < v) = false := decide_eq_false (by omega)
  have v0 : 0 ≤ v := by omega
  have v9 : v ≤ 9223372036854775807 := by omega
  have B1 := Lib.hid (below_alloc1 w (.cells #[.int .i64 sz, .int .i64 lo, .int .i64 hi, .func (.func G) #[] #[gp], .func (.func S) #[] #[gp]] 57))
  have KB := Lib.hid (Blk.new w #[.int .i64 sz, .int .i64 lo, .int .i64 hi, .func (.func G) #[] #[gp], .func (.func S) #[] #[gp]] 57)
  have HR := Lib.hid (row_below hr B1.out)
  clear hr
  go_enter Try.func41, Try.ntmps41
  go_wp2_with fail
  generalize w.alloc (.cells #[.int .i64 sz, .int .i64 lo, .int .i64 hi, .func (.func G) #[] #[gp], .func (.func S) #[] #[gp]] 57) = w1 at *
  have cb := fun j => KB.out.cell j
  ((with_reducible refine (CT.out _ HR.out).mono ?_))
  rintro e w2 ⟨rfl, rfl⟩
  go_wp2_with fail
  ((with_reducible refine (HS.out.call _ B1.out).mono ?_))
  rintro e w3 ⟨rfl, hq⟩
  clear HE
  go_wp2_with fail
  go_ret
  exact ⟨rfl, _, B1.out, hq⟩
set_option maxRecDepth 100000 in
set_option maxHeartbeats 800000 in
theorem take_low (sz lo hi : Int) (G S : Nat) (gp : Value) (xs : List Int) (B : Option Addr) (k c : Nat) (v : Int) (w : World) (hr : Row w B xs) (hl : xs.length = k) (hk : k ≤ 8) (hv : num xs = v) (hn : 0 ≤ lo) (v0 : 0 ≤ v) (v9 : v ≤ 9223372036854775807) (h1 : v < lo) :
    Calls Try.prog 41 #[.agg #[.int .i64 sz, .int .i64 lo, .int .i64 hi, .func (.func G) #[] #[gp], .func (.func S) #[] #[gp]], .slice B k c] w fun e w' => e = .returned (.bool false) ∧ Below w.heap.size w w' := by
  have HL := Lib.hid hl
  have hd0 : decide (lo < 0) = false := decide_eq_false (by omega)
  have CT := Lib.hid (fun W (h : Row W B xs) => take_row (w := W) k c hl h hk)
  rw [hv] at CT
  clear hl hv
  have hd1 : decide (v < lo) = true := decide_eq_true h1
  have B1 := Lib.hid (below_alloc1 w (.cells #[.int .i64 sz, .int .i64 lo, .int .i64 hi, .func (.func G) #[] #[gp], .func (.func S) #[] #[gp]] 57))
  have KB := Lib.hid (Blk.new w #[.int .i64 sz, .int .i64 lo, .int .i64 hi, .func (.func G) #[] #[gp], .func (.func S) #[] #[gp]] 57)
  have HR := Lib.hid (row_below hr B1.out)
  clear hr
  go_enter Try.func41, Try.ntmps41
  go_wp2_with fail
  generalize w.alloc (.cells #[.int .i64 sz, .int .i64 lo, .int .i64 hi, .func (.func G) #[] #[gp], .func (.func S) #[] #[gp]] 57) = w1 at *
  have cb := fun j => KB.out.cell j
  ((with_reducible refine (CT.out _ HR.out).mono ?_))
  rintro e w2 ⟨rfl, rfl⟩
  go_wp2_with fail
  go_ret
  exact ⟨rfl, B1.out⟩
set_option maxRecDepth 100000 in
set_option maxHeartbeats 800000 in
theorem take_high (sz lo hi : Int) (G S : Nat) (gp : Value) (xs : List Int) (B : Option Addr) (k c : Nat) (v : Int) (w : World) (hr : Row w B xs) (hl : xs.length = k) (hk : k ≤ 8) (hv : num xs = v) (hn : 0 ≤ lo) (v0 : 0 ≤ v) (v9 : v ≤ 9223372036854775807) (h1 : lo ≤ v) (h2 : hi < v) :
    Calls Try.prog 41 #[.agg #[.int .i64 sz, .int .i64 lo, .int .i64 hi, .func (.func G) #[] #[gp], .func (.func S) #[] #[gp]], .slice B k c] w fun e w' => e = .returned (.bool false) ∧ Below w.heap.size w w' := by
  have HL := Lib.hid hl
  have hd0 : decide (lo < 0) = false := decide_eq_false (by omega)
  have CT := Lib.hid (fun W (h : Row W B xs) => take_row (w := W) k c hl h hk)
  rw [hv] at CT
  clear hl hv
  have hd1 : decide (v < lo) = false := decide_eq_false (by omega)
  have hd2 : decide (hi < v) = true := decide_eq_true h2
  have B1 := Lib.hid (below_alloc1 w (.cells #[.int .i64 sz, .int .i64 lo, .int .i64 hi, .func (.func G) #[] #[gp], .func (.func S) #[] #[gp]] 57))
  have KB := Lib.hid (Blk.new w #[.int .i64 sz, .int .i64 lo, .int .i64 hi, .func (.func G) #[] #[gp], .func (.func S) #[] #[gp]] 57)
  have HR := Lib.hid (row_below hr B1.out)
  clear hr
  go_enter Try.func41, Try.ntmps41
  go_wp2_with fail
  generalize w.alloc (.cells #[.int .i64 sz, .int .i64 lo, .int .i64 hi, .func (.func G) #[] #[gp], .func (.func S) #[] #[gp]] 57) = w1 at *
  have cb := fun j => KB.out.cell j
  ((with_reducible refine (CT.out _ HR.out).mono ?_))
  rintro e w2 ⟨rfl, rfl⟩
  go_wp2_with fail
  go_ret
  exact ⟨rfl, B1.out⟩
end Go.Proofs.Ytakahkpogooepaa
