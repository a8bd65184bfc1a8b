/- msg: a field as bytes, fields as bytes. -/
import Derived.Test.YtakahkpogooepaaMsgF
namespace Go.Proofs.Ytakahkpogooepaa
open Go.RowKit

/-- the function is one of the program's own -/
def Enters (G : Nat) : Prop := ∀ (args : Array Value) (w : World), (callFunc G args).run Try.prog w = .ok (.enter G args) w
/-- what the getter G tells from here on -/
def Gets (w : World) (G : Nat) (gp : Value) (n : Int) : Prop := Enters G ∧ ∀ W, Below w.heap.size w W → Calls Try.prog G #[gp] W fun e w' => e = .returned (.int .i64 n) ∧ W = w'
theorem Gets.below {w w' : World} {G : Nat} {gp : Value} {n : Int} (h : Gets w G gp n) (hb : Below w.heap.size w w') : Gets w' G gp n := ⟨h.1, fun W hW => h.2 W (bt hb hW)⟩
theorem Gets.call {w : World} {G : Nat} {gp : Value} {n : Int} (h : Gets w G gp n) (W : World) (hW : Below w.heap.size w W) : Calls Try.prog G #[gp] W fun e w' => e = .returned (.int .i64 n) ∧ W = w' := h.2 W hW
theorem enters_get (d : FD) : Enters d.get := by
  intro args w
  unfold FD.get
  repeat' split
  all_goals kernel_rfl
theorem enters_set (d : FD) : Enters d.set := by
  intro args w
  unfold FD.set
  repeat' split
  all_goals kernel_rfl
set_option maxRecDepth 100000 in
set_option maxHeartbeats 400000 in
theorem bytes_low (sz lo hi n : Int) (G S : Nat) (gp : Value) (w : World) (HG : Gets w G gp n) (h : n < lo) :
    Calls Try.prog 40 #[.agg #[.int .i64 sz, .int .i64 lo, .int .i64 hi, .func (.func G) #[] #[gp], .func (.func S) #[] #[gp]]] w fun e w' => e = .returned (.tuple #[.slice none 0 0, .bool false]) ∧ Below w.heap.size w w' := by
  have C := Lib.hid HG
  have HE : ∀ (args : Array Value) (w : World), (callFunc G args).run Try.prog w = .ok (.enter G args) w := HG.1
  clear HG
  go_enter Try.func40, Try.ntmps40
  go_wp2_with fail
  have B1 := below_alloc1 w (.cells #[.int .i64 sz, .int .i64 lo, .int .i64 hi, .func (.func G) #[] #[gp], .func (.func S) #[] #[gp]] 57)
  ((with_reducible refine (C.out.call _ B1).mono ?_))
  rintro e w1 ⟨rfl, rfl⟩
  clear C HE
  have hd : decide (n < lo) = true := decide_eq_true h
  go_wp2_with fail
  go_ret2
  exact ⟨rfl, B1⟩
set_option maxRecDepth 100000 in
set_option maxHeartbeats 400000 in
theorem bytes_high (sz lo hi n : Int) (G S : Nat) (gp : Value) (w : World) (HG : Gets w G gp n) (h0 : lo ≤ n) (h : hi < n) :
    Calls Try.prog 40 #[.agg #[.int .i64 sz, .int .i64 lo, .int .i64 hi, .func (.func G) #[] #[gp], .func (.func S) #[] #[gp]]] w fun e w' => e = .returned (.tuple #[.slice none 0 0, .bool false]) ∧ Below w.heap.size w w' := by
  have C := Lib.hid HG
  have HE : ∀ (args : Array Value) (w : World), (callFunc G args).run Try.prog w = .ok (.enter G args) w := HG.1
  clear HG
  go_enter Try.func40, Try.ntmps40
  go_wp2_with fail
  have B1 := below_alloc1 w (.cells #[.int .i64 sz, .int .i64 lo, .int .i64 hi, .func (.func G) #[] #[gp], .func (.func S) #[] #[gp]] 57)
  ((with_reducible refine (C.out.call _ B1).mono ?_))
  rintro e w1 ⟨rfl, rfl⟩
  clear C HE
  have hd : decide (n < lo) = false := decide_eq_false (by omega)
  have hd2 : decide (hi < n) = true := decide_eq_true h
  go_wp2_with fail
  go_ret2
  exact ⟨rfl, B1⟩
set_option maxRecDepth 100000 in
set_option maxHeartbeats 400000 in
theorem bytes_neg (sz lo hi n : Int) (G S : Nat) (gp : Value) (w : World) (HG : Gets w G gp n) (h0 : lo ≤ n) (h : n ≤ hi) (hl : lo < 0) (hl2 : -32768 ≤ lo) (hh : hi ≤ 32767) :
    Calls Try.prog 40 #[.agg #[.int .i64 sz, .int .i64 lo, .int .i64 hi, .func (.func G) #[] #[gp], .func (.func S) #[] #[gp]]] w fun e w' => ∃ g, e = .returned (.tuple #[.slice (some ⟨g, 0, none⟩) 2 2, .bool true]) ∧ Row w' (some ⟨g, 0, none⟩) (be (n % 65536) 2) ∧ Below w.heap.size w w' := by
  have C := Lib.hid HG
  have HE : ∀ (args : Array Value) (w : World), (callFunc G args).run Try.prog w = .ok (.enter G args) w := HG.1
  clear HG
  go_enter Try.func40, Try.ntmps40
  go_wp2_with fail
  have B1 := below_alloc1 w (.cells #[.int .i64 sz, .int .i64 lo, .int .i64 hi, .func (.func G) #[] #[gp], .func (.func S) #[] #[gp]] 57)
  ((with_reducible refine (C.out.call _ B1).mono ?_))
  rintro e w1 ⟨rfl, rfl⟩
  clear C HE
  have hd : decide (n < lo) = false := decide_eq_false (by omega)
  have hd2 : decide (hi < n) = false := decide_eq_false (by omega)
  have hd3 : decide (lo < 0) = true := decide_eq_true hl
  have n1 : -32768 ≤ n := by omega
  have n2 : n ≤ 32767 := by omega
  go_wp2_with fail
  ((with_reducible refine (putInt_row n _ n1 n2).mono ?_))
  rintro e w2 ⟨rfl, r2, b2⟩
  go_wp2_with fail
  go_ret2
  exact ⟨_, rfl, by simpa using r2, bt B1 b2⟩
set_option maxRecDepth 100000 in
set_option maxHeartbeats 400000 in
theorem bytes_pos (lo hi n : Int) (G S : Nat) (gp : Value) (w : World) (HG : Gets w G gp n) (k : Nat) (hk8 : k ≤ 8) (h0 : lo ≤ n) (h : n ≤ hi) (hl : 0 ≤ lo) (hn : n / 2 ^ (8 * k) = 0) (hh : hi ≤ 9223372036854775807) :
    Calls Try.prog 40 #[.agg #[.int .i64 (k : Int), .int .i64 lo, .int .i64 hi, .func (.func G) #[] #[gp], .func (.func S) #[] #[gp]]] w fun e w' => ∃ g, e = .returned (.tuple #[.slice (some ⟨g, 0, none⟩) k k, .bool true]) ∧ Row w' (some ⟨g, 0, none⟩) (be n k) ∧ Below w.heap.size w w' := by
  have C := Lib.hid HG
  have HE : ∀ (args : Array Value) (w : World), (callFunc G args).run Try.prog w = .ok (.enter G args) w := HG.1
  clear HG
  go_enter Try.func40, Try.ntmps40
  go_wp2_with fail
  have B1 := below_alloc1 w (.cells #[.int .i64 (k : Int), .int .i64 lo, .int .i64 hi, .func (.func G) #[] #[gp], .func (.func S) #[] #[gp]] 57)
  ((with_reducible refine (C.out.call _ B1).mono ?_))
  rintro e w1 ⟨rfl, rfl⟩
  clear C HE
  have hd : decide (n < lo) = false := decide_eq_false (by omega)
  have hd2 : decide (hi < n) = false := decide_eq_false (by omega)
  have hd3 : decide (lo < 0) = false := decide_eq_false (by omega)
  have n1 : 0 ≤ n := by omega
  have n2 : n ≤ 18446744073709551615 := by omega
  have n3 : n ≤ 9223372036854775807 := by omega
  have CP := Lib.hid (fun W => put_row n k W n1 n2 hk8 hn)
  clear hn
  go_wp2_with fail
  ((with_reducible refine (CP.out _).mono ?_))
  rintro e w2 ⟨rfl, r2, b2⟩
  go_wp2_with fail
  go_ret2
  exact ⟨_, rfl, by simpa using r2, bt B1 b2⟩
end Go.Proofs.Ytakahkpogooepaa
