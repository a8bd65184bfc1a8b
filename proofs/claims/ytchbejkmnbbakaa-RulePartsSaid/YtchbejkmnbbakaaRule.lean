/- Contracts of package rule: below, order.place, Rank, Higher, Takes, May, Goes. -/
import Derived.Test.YtchbejkmnbbakaaPol
import Derived.Test.YtchbejkmnbbakaaNum
import Derived.Deep.QuietTactic
import Derived.BigQuiet
import Derived.Deep.RegionWith
import Derived.Deep.DeepCutAuto
namespace Go.Proofs.Ytchbejkmnbbakaa
open Go.RowKit

def inb (n b : Int) : Bool := decide (0 ≤ n ∧ n < b)
theorem inb_true {n b : Int} (h : inb n b = true) : 0 ≤ n ∧ n < b := of_decide_eq_true h
theorem inb_false {n b : Int} (h : inb n b = false) : ¬ (0 ≤ n ∧ n < b) := of_decide_eq_false h
set_option maxHeartbeats 400000 in
theorem below_any (n b : Int) (w : World) :
    Calls Try.prog 37 #[.int .i64 n, .int .i64 b] w fun e w' => e = .returned (.bool (inb n b)) ∧ w = w' := by
  by_cases h : 0 ≤ n
  · go_enter Try.func37, Try.ntmps37
    go_wp2
    go_ret
    exact ⟨ret_bool (by unfold inb; simp [h]), rfl⟩
  · go_enter Try.func37, Try.ntmps37
    go_wp2
    go_ret
    exact ⟨ret_bool (by unfold inb; simp; omega), rfl⟩
theorem below_yes (n b : Int) (w : World) (h : inb n b = true) :
    Calls Try.prog 37 #[.int .i64 n, .int .i64 b] w fun e w' => e = .returned (.bool true) ∧ w = w' := by
  have := below_any n b w; rwa [h] at this
theorem below_no (n b : Int) (w : World) (h : inb n b = false) :
    Calls Try.prog 37 #[.int .i64 n, .int .i64 b] w fun e w' => e = .returned (.bool false) ∧ w = w' := by
  have := below_any n b w; rwa [h] at this

/-- The policy's cell i, as a number. -/
def pn (g : Nat → Value) (i : Nat) : Int := intOf (g i)
def takes (g : Nat → Value) (source role : Int) : Bool := inb source 5 && inb role 4 && has (pn g (9 + source.toNat)) role
def may (g : Nat → Value) (mode role class_ : Int) : Bool := inb mode 5 && inb role 4 && inb class_ 4 && has (pn g (14 + mode.toNat * 4 + role.toNat)) class_
def goes (g : Nat → Value) (from_ to_ : Int) : Bool := inb from_ 5 && inb to_ 5 && has (pn g (34 + from_.toNat)) to_

set_option maxRecDepth 100000 in
set_option maxHeartbeats 800000 in
theorem takes_any (g : Nat → Value) (s r : Int) (w : World) (hg : ∀ i, 9 ≤ i → i < 56 → I64 (g i)) :
    Calls Try.prog 30 #[.agg (mkc 56 g), .int .i64 s, .int .i64 r] w fun e w' => e = .returned (.bool (takes g s r)) ∧ Below w.heap.size w w' := by
  cases h1 : inb s 5
  · have N1 := Lib.hid h1
    rw [show takes g s r = false from by simp [takes, h1]]
    clear h1
    go_enter Try.func30, Try.ntmps30
    go_wp2_with (go_at_call 37; refine (below_no _ _ _ N1.out).mono ?_; rintro e w' ⟨rfl, rfl⟩)
    go_ret
    exact ⟨rfl, below_alloc1 _ _⟩
  · cases h2 : inb r 4
    · have N1 := Lib.hid h1
      have N2 := Lib.hid h2
      rw [show takes g s r = false from by simp [takes, h2]]
      clear h1 h2
      go_enter Try.func30, Try.ntmps30
      go_wp2_with fail
      refine (below_yes _ _ _ N1.out).mono ?_
      rintro e w' ⟨rfl, rfl⟩
      go_wp2_with fail
      refine (below_no _ _ _ N2.out).mono ?_
      rintro e w' ⟨rfl, rfl⟩
      go_wp2
      go_ret
      exact ⟨rfl, below_alloc1 _ _⟩
    · have N1 := Lib.hid h1
      have N2 := Lib.hid h2
      obtain ⟨k1, k2⟩ := inb_true h1
      obtain ⟨k, rfl⟩ := Int.eq_ofNat_of_zero_le k1
      rw [show takes g k r = has (pn g (9 + k)) r from by simp [takes, h1, h2]]
      have hlt : 9 + k < 56 := by omega
      obtain ⟨e1, m1, m2⟩ := hg (9 + k) (by omega) hlt
      obtain ⟨p1, hp1⟩ : ∃ p1, intOf (g (9 + k)) = p1 := ⟨_, rfl⟩
      rw [show pn g (9 + k) = p1 from hp1]
      rw [hp1] at e1 m1 m2
      obtain ⟨b, hb⟩ : ∃ b, has p1 r = b := ⟨_, rfl⟩
      have hh := has_any p1 r
      rw [hb] at hh
      have HH := Lib.hid hh
      rw [hb]
      clear h1 h2 hp1 hg hb hh
      go_enter Try.func30, Try.ntmps30
      go_wp2_with fail
      refine (below_yes _ _ _ N1.out).mono ?_
      rintro e w' ⟨rfl, rfl⟩
      go_wp2_with fail
      refine (below_yes _ _ _ N2.out).mono ?_
      rintro e w' ⟨rfl, rfl⟩
      go_wp2_with fail
      refine (HH.out _ m1 m2).mono ?_
      rintro e w' ⟨rfl, rfl⟩
      go_wp2
      go_ret
      exact ⟨rfl, below_alloc1 _ _⟩
set_option maxRecDepth 100000 in
set_option maxHeartbeats 800000 in
theorem goes_any (g : Nat → Value) (s r : Int) (w : World) (hg : ∀ i, 9 ≤ i → i < 56 → I64 (g i)) :
    Calls Try.prog 29 #[.agg (mkc 56 g), .int .i64 s, .int .i64 r] w fun e w' => e = .returned (.bool (goes g s r)) ∧ Below w.heap.size w w' := by
  cases h1 : inb s 5
  · have N1 := Lib.hid h1
    rw [show goes g s r = false from by simp [goes, h1]]
    clear h1
    go_enter Try.func29, Try.ntmps29
    go_wp2_with (go_at_call 37; refine (below_no _ _ _ N1.out).mono ?_; rintro e w' ⟨rfl, rfl⟩)
    go_ret
    exact ⟨rfl, below_alloc1 _ _⟩
  · cases h2 : inb r 5
    · have N1 := Lib.hid h1
      have N2 := Lib.hid h2
      rw [show goes g s r = false from by simp [goes, h2]]
      clear h1 h2
      go_enter Try.func29, Try.ntmps29
      go_wp2_with fail
      refine (below_yes _ _ _ N1.out).mono ?_
      rintro e w' ⟨rfl, rfl⟩
      go_wp2_with fail
      refine (below_no _ _ _ N2.out).mono ?_
      rintro e w' ⟨rfl, rfl⟩
      go_wp2
      go_ret
      exact ⟨rfl, below_alloc1 _ _⟩
    · have N1 := Lib.hid h1
      have N2 := Lib.hid h2
      obtain ⟨k1, k2⟩ := inb_true h1
      obtain ⟨k, rfl⟩ := Int.eq_ofNat_of_zero_le k1
      rw [show goes g k r = has (pn g (34 + k)) r from by simp [goes, h1, h2]]
      have hlt : 34 + k < 56 := by omega
      obtain ⟨e1, m1, m2⟩ := hg (34 + k) (by omega) hlt
      obtain ⟨p1, hp1⟩ : ∃ p1, intOf (g (34 + k)) = p1 := ⟨_, rfl⟩
      rw [show pn g (34 + k) = p1 from hp1]
      rw [hp1] at e1 m1 m2
      obtain ⟨b, hb⟩ : ∃ b, has p1 r = b := ⟨_, rfl⟩
      have hh := has_any p1 r
      rw [hb] at hh
      have HH := Lib.hid hh
      rw [hb]
      clear h1 h2 hp1 hg hb hh
      go_enter Try.func29, Try.ntmps29
      go_wp2_with fail
      refine (below_yes _ _ _ N1.out).mono ?_
      rintro e w' ⟨rfl, rfl⟩
      go_wp2_with fail
      refine (below_yes _ _ _ N2.out).mono ?_
      rintro e w' ⟨rfl, rfl⟩
      go_wp2_with fail
      refine (HH.out _ m1 m2).mono ?_
      rintro e w' ⟨rfl, rfl⟩
      go_wp2
      go_ret
      exact ⟨rfl, below_alloc1 _ _⟩
set_option maxRecDepth 100000 in
set_option maxHeartbeats 1600000 in
theorem may_any (g : Nat → Value) (s r c : Int) (w : World) (hg : ∀ i, 9 ≤ i → i < 56 → I64 (g i)) :
    Calls Try.prog 28 #[.agg (mkc 56 g), .int .i64 s, .int .i64 r, .int .i64 c] w fun e w' => e = .returned (.bool (may g s r c)) ∧ Below w.heap.size w w' := by
  cases h1 : inb s 5
  · have N1 := Lib.hid h1
    rw [show may g s r c = false from by simp [may, h1]]
    clear h1
    go_enter Try.func28, Try.ntmps28
    go_wp2_with (go_at_call 37; refine (below_no _ _ _ N1.out).mono ?_; rintro e w' ⟨rfl, rfl⟩)
    go_ret
    exact ⟨rfl, below_alloc1 _ _⟩
  · cases h2 : inb r 4
    · have N1 := Lib.hid h1
      have N2 := Lib.hid h2
      rw [show may g s r c = false from by simp [may, h2]]
      clear h1 h2
      go_enter Try.func28, Try.ntmps28
      go_wp2_with fail
      refine (below_yes _ _ _ N1.out).mono ?_
      rintro e w' ⟨rfl, rfl⟩
      go_wp2_with fail
      refine (below_no _ _ _ N2.out).mono ?_
      rintro e w' ⟨rfl, rfl⟩
      go_wp2
      go_ret
      exact ⟨rfl, below_alloc1 _ _⟩
    · cases h3 : inb c 4
      · have N1 := Lib.hid h1
        have N2 := Lib.hid h2
        have N3 := Lib.hid h3
        rw [show may g s r c = false from by simp [may, h3]]
        clear h1 h2 h3
        go_enter Try.func28, Try.ntmps28
        go_wp2_with fail
        refine (below_yes _ _ _ N1.out).mono ?_
        rintro e w' ⟨rfl, rfl⟩
        go_wp2_with fail
        refine (below_yes _ _ _ N2.out).mono ?_
        rintro e w' ⟨rfl, rfl⟩
        go_wp2_with fail
        refine (below_no _ _ _ N3.out).mono ?_
        rintro e w' ⟨rfl, rfl⟩
        go_wp2
        go_ret
        exact ⟨rfl, below_alloc1 _ _⟩
      · have N1 := Lib.hid h1
        have N2 := Lib.hid h2
        have N3 := Lib.hid h3
        obtain ⟨k1, k2⟩ := inb_true h1
        obtain ⟨k, rfl⟩ := Int.eq_ofNat_of_zero_le k1
        obtain ⟨j1, j2⟩ := inb_true h2
        obtain ⟨j, rfl⟩ := Int.eq_ofNat_of_zero_le j1
        rw [show may g k j c = has (pn g (14 + k * 4 + j)) c from by simp [may, h1, h2, h3]]
        have hlt : 14 + k * 4 + j < 56 := by omega
        obtain ⟨e1, m1, m2⟩ := hg (14 + k * 4 + j) (by omega) hlt
        obtain ⟨p1, hp1⟩ : ∃ p1, intOf (g (14 + k * 4 + j)) = p1 := ⟨_, rfl⟩
        rw [show pn g (14 + k * 4 + j) = p1 from hp1]
        rw [hp1] at e1 m1 m2
        obtain ⟨b, hb⟩ : ∃ b, has p1 c = b := ⟨_, rfl⟩
        have hh := has_any p1 c
        rw [hb] at hh
        have HH := Lib.hid hh
        rw [hb]
        clear h1 h2 h3 hp1 hg hb hh
        go_enter Try.func28, Try.ntmps28
        go_wp2_with fail
        refine (below_yes _ _ _ N1.out).mono ?_
        rintro e w' ⟨rfl, rfl⟩
        go_wp2_with fail
        refine (below_yes _ _ _ N2.out).mono ?_
        rintro e w' ⟨rfl, rfl⟩
        go_wp2_with fail
        refine (below_yes _ _ _ N3.out).mono ?_
        rintro e w' ⟨rfl, rfl⟩
        go_wp2_with fail
        refine (HH.out _ m1 m2).mono ?_
        rintro e w' ⟨rfl, rfl⟩
        go_wp2
        go_ret
        exact ⟨rfl, below_alloc1 _ _⟩

/-- Where a source stands in the order. -/
def place (a b c d e s : Int) : Int := if a = s then 0 else if b = s then 1 else if c = s then 2 else if d = s then 3 else if e = s then 4 else -1
def rank (g : Nat → Value) (s : Int) : Int := place (pn g 0) (pn g 1) (pn g 2) (pn g 3) (pn g 4) s
def higher (g : Nat → Value) (a b : Int) : Bool := rank g a != -1 && rank g b != -1 && decide (rank g a < rank g b)
theorem place_at0 (a b c d e s : Int) (hp : 0 ≤ place a b c d e s ∨ place a b c d e s = -1) (h : a = s) : place a b c d e s = 0 := by
  unfold place at *
  repeat' split at hp
  all_goals (repeat' split)
  all_goals first | rfl | omega
theorem place_no0 (a b c d e s : Int) (hp : 0 ≤ place a b c d e s ∨ place a b c d e s = -1) (h : ¬ a = s) : 1 ≤ place a b c d e s ∨ place a b c d e s = -1 := by
  unfold place at *
  repeat' split at hp
  all_goals (repeat' split)
  all_goals omega
theorem place_at1 (a b c d e s : Int) (hp : 1 ≤ place a b c d e s ∨ place a b c d e s = -1) (h : b = s) : place a b c d e s = 1 := by
  unfold place at *
  repeat' split at hp
  all_goals (repeat' split)
  all_goals first | rfl | omega
theorem place_no1 (a b c d e s : Int) (hp : 1 ≤ place a b c d e s ∨ place a b c d e s = -1) (h : ¬ b = s) : 2 ≤ place a b c d e s ∨ place a b c d e s = -1 := by
  unfold place at *
  repeat' split at hp
  all_goals (repeat' split)
  all_goals omega
theorem place_at2 (a b c d e s : Int) (hp : 2 ≤ place a b c d e s ∨ place a b c d e s = -1) (h : c = s) : place a b c d e s = 2 := by
  unfold place at *
  repeat' split at hp
  all_goals (repeat' split)
  all_goals first | rfl | omega
theorem place_no2 (a b c d e s : Int) (hp : 2 ≤ place a b c d e s ∨ place a b c d e s = -1) (h : ¬ c = s) : 3 ≤ place a b c d e s ∨ place a b c d e s = -1 := by
  unfold place at *
  repeat' split at hp
  all_goals (repeat' split)
  all_goals omega
theorem place_at3 (a b c d e s : Int) (hp : 3 ≤ place a b c d e s ∨ place a b c d e s = -1) (h : d = s) : place a b c d e s = 3 := by
  unfold place at *
  repeat' split at hp
  all_goals (repeat' split)
  all_goals first | rfl | omega
theorem place_no3 (a b c d e s : Int) (hp : 3 ≤ place a b c d e s ∨ place a b c d e s = -1) (h : ¬ d = s) : 4 ≤ place a b c d e s ∨ place a b c d e s = -1 := by
  unfold place at *
  repeat' split at hp
  all_goals (repeat' split)
  all_goals omega
theorem place_at4 (a b c d e s : Int) (hp : 4 ≤ place a b c d e s ∨ place a b c d e s = -1) (h : e = s) : place a b c d e s = 4 := by
  unfold place at *
  repeat' split at hp
  all_goals (repeat' split)
  all_goals first | rfl | omega
theorem place_no4 (a b c d e s : Int) (hp : 4 ≤ place a b c d e s ∨ place a b c d e s = -1) (h : ¬ e = s) : 5 ≤ place a b c d e s ∨ place a b c d e s = -1 := by
  unfold place at *
  repeat' split at hp
  all_goals (repeat' split)
  all_goals omega
theorem place_end (a b c d e s : Int) (hp : 5 ≤ place a b c d e s ∨ place a b c d e s = -1) : place a b c d e s = -1 := by
  unfold place at *
  repeat' split at hp
  all_goals (repeat' split)
  all_goals first | rfl | omega
set_option maxRecDepth 100000 in
set_option maxHeartbeats 1600000 in
theorem place_any (a b c d e s : Int) (w : World) :
    Calls Try.prog 34 #[.agg #[.int .i64 a, .int .i64 b, .int .i64 c, .int .i64 d, .int .i64 e], .int .i64 s] w fun e' w' => e' = .returned (.int .i64 (place a b c d e s)) ∧ Below w.heap.size w w' := by
  have B := Lib.hid (below_alloc1 w)
  have i0 : ∀ w, (Instr.index 69 (.agg #[.int .i64 a, .int .i64 b, .int .i64 c, .int .i64 d, .int .i64 e]) (.int .i64 0)).run Try.prog w = .ok (.int .i64 a) w := fun _ => by kernel_rfl
  have i1 : ∀ w, (Instr.index 69 (.agg #[.int .i64 a, .int .i64 b, .int .i64 c, .int .i64 d, .int .i64 e]) (.int .i64 1)).run Try.prog w = .ok (.int .i64 b) w := fun _ => by kernel_rfl
  have i2 : ∀ w, (Instr.index 69 (.agg #[.int .i64 a, .int .i64 b, .int .i64 c, .int .i64 d, .int .i64 e]) (.int .i64 2)).run Try.prog w = .ok (.int .i64 c) w := fun _ => by kernel_rfl
  have i3 : ∀ w, (Instr.index 69 (.agg #[.int .i64 a, .int .i64 b, .int .i64 c, .int .i64 d, .int .i64 e]) (.int .i64 3)).run Try.prog w = .ok (.int .i64 d) w := fun _ => by kernel_rfl
  have i4 : ∀ w, (Instr.index 69 (.agg #[.int .i64 a, .int .i64 b, .int .i64 c, .int .i64 d, .int .i64 e]) (.int .i64 4)).run Try.prog w = .ok (.int .i64 e) w := fun _ => by kernel_rfl
  go_enter Try.func34, Try.ntmps34
  go_wp2_with fail
  go_loop [8] (fun y => ∃ k : Int, y = .int .i64 k ∧ 0 ≤ k ∧ k ≤ 5 ∧ Hid (k ≤ place a b c d e s ∨ place a b c d e s = -1)) (fun y => 5 - (intOf y).toNat)
  case atStart => exact ⟨0, rfl, by omega, by omega, Lib.hid (by unfold place; repeat' split; all_goals omega)⟩
  case round =>
    obtain ⟨k, rfl, k0, k5, HK⟩ := hrel
    rcases (show k = 0 ∨ k = 1 ∨ k = 2 ∨ k = 3 ∨ k = 4 ∨ k = 5 by omega) with rfl | rfl | rfl | rfl | rfl | rfl
    · by_cases h : a = s
      · have HP := Lib.hid (place_at0 a b c d e s HK.out h)
        have hb : (a == s) = true := by simpa using h
        clear h
        go_wp2
        go_ret
        exact ⟨ret_int HP.out.symm, B.out _⟩
      · have HP := Lib.hid (place_no0 a b c d e s HK.out h)
        have hb : (a == s) = false := by simpa using h
        clear h
        go_wp2
        exact ⟨⟨1, rfl, by omega, by omega, HP⟩, by simp [intOf]⟩
    · by_cases h : b = s
      · have HP := Lib.hid (place_at1 a b c d e s HK.out h)
        have hb : (b == s) = true := by simpa using h
        clear h
        go_wp2
        go_ret
        exact ⟨ret_int HP.out.symm, B.out _⟩
      · have HP := Lib.hid (place_no1 a b c d e s HK.out h)
        have hb : (b == s) = false := by simpa using h
        clear h
        go_wp2
        exact ⟨⟨2, rfl, by omega, by omega, HP⟩, by simp [intOf]⟩
    · by_cases h : c = s
      · have HP := Lib.hid (place_at2 a b c d e s HK.out h)
        have hb : (c == s) = true := by simpa using h
        clear h
        go_wp2
        go_ret
        exact ⟨ret_int HP.out.symm, B.out _⟩
      · have HP := Lib.hid (place_no2 a b c d e s HK.out h)
        have hb : (c == s) = false := by simpa using h
        clear h
        go_wp2
        exact ⟨⟨3, rfl, by omega, by omega, HP⟩, by simp [intOf]⟩
    · by_cases h : d = s
      · have HP := Lib.hid (place_at3 a b c d e s HK.out h)
        have hb : (d == s) = true := by simpa using h
        clear h
        go_wp2
        go_ret
        exact ⟨ret_int HP.out.symm, B.out _⟩
      · have HP := Lib.hid (place_no3 a b c d e s HK.out h)
        have hb : (d == s) = false := by simpa using h
        clear h
        go_wp2
        exact ⟨⟨4, rfl, by omega, by omega, HP⟩, by simp [intOf]⟩
    · by_cases h : e = s
      · have HP := Lib.hid (place_at4 a b c d e s HK.out h)
        have hb : (e == s) = true := by simpa using h
        clear h
        go_wp2
        go_ret
        exact ⟨ret_int HP.out.symm, B.out _⟩
      · have HP := Lib.hid (place_no4 a b c d e s HK.out h)
        have hb : (e == s) = false := by simpa using h
        clear h
        go_wp2
        exact ⟨⟨5, rfl, by omega, by omega, HP⟩, by simp [intOf]⟩
    · have HP := Lib.hid (place_end a b c d e s HK.out)
      go_wp2
      go_ret
      exact ⟨ret_int HP.out.symm, B.out _⟩
theorem i64_eq {v : Value} (h : I64 v) : ∃ n, v = .int .i64 n ∧ intOf v = n := ⟨_, h.1, rfl⟩
theorem mkc_ord (g : Nat → Value) : (mkc 56 g)[0]? = some (g 0) ∧ (mkc 56 g)[1]? = some (g 1) ∧ (mkc 56 g)[2]? = some (g 2) ∧ (mkc 56 g)[3]? = some (g 3) ∧ (mkc 56 g)[4]? = some (g 4) := by
  refine ⟨?_, ?_, ?_, ?_, ?_⟩ <;> rw [mkc_get?, if_pos (by omega)]
set_option maxRecDepth 100000 in
set_option maxHeartbeats 1600000 in
theorem rank_any (g : Nat → Value) (s : Int) (w : World) (hg : ∀ i, i < 5 → I64 (g i)) :
    Calls Try.prog 18 #[.agg (mkc 56 g), .int .i64 s] w fun e' w' => e' = .returned (.int .i64 (rank g s)) ∧ Below w.heap.size w w' := by
  obtain ⟨a, e0, p0⟩ := i64_eq (hg 0 (by omega))
  obtain ⟨b, e1, p1⟩ := i64_eq (hg 1 (by omega))
  obtain ⟨c, e2, p2⟩ := i64_eq (hg 2 (by omega))
  obtain ⟨d, e3, p3⟩ := i64_eq (hg 3 (by omega))
  obtain ⟨e, e4, p4⟩ := i64_eq (hg 4 (by omega))
  rw [show rank g s = place a b c d e s from by unfold rank pn; rw [p0, p1, p2, p3, p4]]
  clear hg p0 p1 p2 p3 p4
  go_enter Try.func18, Try.ntmps18
  go_wp2_with fail
  refine (place_any a b c d e s _).mono ?_
  rintro e' w1 ⟨rfl, b1⟩
  go_wp2
  go_ret
  exact ⟨rfl, below_box b1⟩
set_option maxRecDepth 100000 in
set_option maxHeartbeats 1600000 in
theorem higher_any (g : Nat → Value) (s t : Int) (w : World) (hg : ∀ i, i < 5 → I64 (g i)) :
    Calls Try.prog 17 #[.agg (mkc 56 g), .int .i64 s, .int .i64 t] w fun e' w' => e' = .returned (.bool (higher g s t)) ∧ Below w.heap.size w w' := by
  obtain ⟨a, e0, p0⟩ := i64_eq (hg 0 (by omega))
  obtain ⟨b, e1, p1⟩ := i64_eq (hg 1 (by omega))
  obtain ⟨c, e2, p2⟩ := i64_eq (hg 2 (by omega))
  obtain ⟨d, e3, p3⟩ := i64_eq (hg 3 (by omega))
  obtain ⟨e, e4, p4⟩ := i64_eq (hg 4 (by omega))
  have hr : ∀ s, rank g s = place a b c d e s := fun s => by unfold rank pn; rw [p0, p1, p2, p3, p4]
  unfold higher
  rw [hr, hr]
  have C := Lib.hid (place_any a b c d e)
  have B0 := Lib.hid (below_alloc1 w (.cells (mkc 56 g) 28))
  clear hg p0 p1 p2 p3 p4 hr
  go_enter Try.func17, Try.ntmps17
  go_wp2_with fail
  go_cut [8, 9] (fun u v wx => u = .int .i64 (place a b c d e s) ∧ v = .int .i64 (place a b c d e t) ∧ Below w.heap.size w wx)
  case first =>
    go_region_with (go_at_call 34; refine (C.out _ _).mono ?_; rintro e' w1 ⟨rfl, b1⟩; (first | (have cc := cell_boxed b1; have b2 := Lib.hid b1; clear b1) | (have cc := cell_boxed (below_of_drew b1); have b2 := Lib.hid (below_of_drew b1); clear b1) | skip))
    all_goals
      go_wp2_with fail
      go_meet
      refine ⟨rfl, rfl, ?_⟩
    all_goals exact below_next (below_box b2.out) b1 (Nat.le_refl _)
  case rest =>
    obtain ⟨rfl, rfl, hb⟩ := hcut
    have HB := Lib.hid hb
    clear hb
    go_wp2_with fail
    all_goals
      go_ret
      refine ⟨ret_bool ?_, HB.out⟩
      first | rfl | simp_all
end Go.Proofs.Ytchbejkmnbbakaa
