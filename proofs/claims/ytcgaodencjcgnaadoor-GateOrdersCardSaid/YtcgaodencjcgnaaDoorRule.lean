/- Contracts of package rule: below, order.place, Rank, Higher, Takes, May, Goes. -/
import Derived.Test.YtcgaodencjcgnaaDoorPol
import Derived.Test.YtcgaodencjcgnaaDoorNum
import Derived.Deep.QuietTactic
import Derived.BigQuiet
import Derived.Deep.RegionWith
import Derived.Deep.DeepCutAuto
namespace Go.Proofs.YtcgaodencjcgnaaDoor
open Go.RowKit

def inb (n b : Int) : Bool := decide (0 ≤ n ∧ n < b)
theorem inb_true {n b : Int} (h : inb n b = true) : 0 ≤ n ∧ n < b := of_decide_eq_true h
theorem inb_false {n b : Int} (h : inb n b = false) : ¬ (0 ≤ n ∧ n < b) := of_decide_eq_false h
set_option maxHeartbeats 400000 in
theorem below_any (n b : Int) (w : World) :
    Calls Tryd.prog 13 #[.int .i64 n, .int .i64 b] w fun e w' => e = .returned (.bool (inb n b)) ∧ w = w' := by
  by_cases h : 0 ≤ n
  · go_enter Tryd.func13, Tryd.ntmps13
    go_wp2
    go_ret
    exact ⟨ret_bool (by unfold inb; simp [h]), rfl⟩
  · go_enter Tryd.func13, Tryd.ntmps13
    go_wp2
    go_ret
    exact ⟨ret_bool (by unfold inb; simp; omega), rfl⟩
theorem below_yes (n b : Int) (w : World) (h : inb n b = true) :
    Calls Tryd.prog 13 #[.int .i64 n, .int .i64 b] w fun e w' => e = .returned (.bool true) ∧ w = w' := by
  have := below_any n b w; rwa [h] at this
theorem below_no (n b : Int) (w : World) (h : inb n b = false) :
    Calls Tryd.prog 13 #[.int .i64 n, .int .i64 b] w fun e w' => e = .returned (.bool false) ∧ w = w' := by
  have := below_any n b w; rwa [h] at this

/-- The policy's cell i, as a number. -/
def pn (g : Nat → Value) (i : Nat) : Int := intOf (g i)
def takes (g : Nat → Value) (source role : Int) : Bool := inb source 5 && inb role 4 && has (pn g (9 + source.toNat)) role
def may (g : Nat → Value) (mode role class_ : Int) : Bool := inb mode 5 && inb role 4 && inb class_ 4 && has (pn g (14 + mode.toNat * 4 + role.toNat)) class_
def goes (g : Nat → Value) (from_ to_ : Int) : Bool := inb from_ 5 && inb to_ 5 && has (pn g (34 + from_.toNat)) to_

set_option maxRecDepth 100000 in
set_option maxHeartbeats 800000 in
theorem goes_any (g : Nat → Value) (s r : Int) (w : World) (hg : ∀ i, 9 ≤ i → i < 56 → I64 (g i)) :
    Calls Tryd.prog 10 #[.agg (mkc 56 g), .int .i64 s, .int .i64 r] w fun e w' => e = .returned (.bool (goes g s r)) ∧ Below w.heap.size w w' := by
  cases h1 : inb s 5
  · have N1 := Lib.hid h1
    rw [show goes g s r = false from by simp [goes, h1]]
    clear h1
    go_enter Tryd.func10, Tryd.ntmps10
    go_wp2_with (go_at_call 13; refine (below_no _ _ _ N1.out).mono ?_; rintro e w' ⟨rfl, rfl⟩)
    go_ret
    exact ⟨rfl, below_alloc1 _ _⟩
  · cases h2 : inb r 5
    · have N1 := Lib.hid h1
      have N2 := Lib.hid h2
      rw [show goes g s r = false from by simp [goes, h2]]
      clear h1 h2
      go_enter Tryd.func10, Tryd.ntmps10
      go_wp2_with fail
      refine (below_yes _ _ _ N1.out).mono ?_
      rintro e w' ⟨rfl, rfl⟩
      go_wp2_with fail
      refine (below_no _ _ _ N2.out).mono ?_
      rintro e w' ⟨rfl, rfl⟩
      go_wp2
      go_ret
      exact ⟨rfl, below_alloc1 _ _⟩
    · have N1 := Lib.hid h1
      have N2 := Lib.hid h2
      obtain ⟨k1, k2⟩ := inb_true h1
      obtain ⟨k, rfl⟩ := Int.eq_ofNat_of_zero_le k1
      rw [show goes g k r = has (pn g (34 + k)) r from by simp [goes, h1, h2]]
      have hlt : 34 + k < 56 := by omega
      obtain ⟨e1, m1, m2⟩ := hg (34 + k) (by omega) hlt
      obtain ⟨p1, hp1⟩ : ∃ p1, intOf (g (34 + k)) = p1 := ⟨_, rfl⟩
      rw [show pn g (34 + k) = p1 from hp1]
      rw [hp1] at e1 m1 m2
      obtain ⟨b, hb⟩ : ∃ b, has p1 r = b := ⟨_, rfl⟩
      have hh := has_any p1 r
      rw [hb] at hh
      have HH := Lib.hid hh
      rw [hb]
      clear h1 h2 hp1 hg hb hh
      go_enter Tryd.func10, Tryd.ntmps10
      go_wp2_with fail
      refine (below_yes _ _ _ N1.out).mono ?_
      rintro e w' ⟨rfl, rfl⟩
      go_wp2_with fail
      refine (below_yes _ _ _ N2.out).mono ?_
      rintro e w' ⟨rfl, rfl⟩
      go_wp2_with fail
      refine (HH.out _ m1 m2).mono ?_
      rintro e w' ⟨rfl, rfl⟩
      go_wp2
      go_ret
      exact ⟨rfl, below_alloc1 _ _⟩
set_option maxRecDepth 100000 in
set_option maxHeartbeats 1600000 in
theorem may_any (g : Nat → Value) (s r c : Int) (w : World) (hg : ∀ i, 9 ≤ i → i < 56 → I64 (g i)) :
    Calls Tryd.prog 9 #[.agg (mkc 56 g), .int .i64 s, .int .i64 r, .int .i64 c] w fun e w' => e = .returned (.bool (may g s r c)) ∧ Below w.heap.size w w' := by
  cases h1 : inb s 5
  · have N1 := Lib.hid h1
    rw [show may g s r c = false from by simp [may, h1]]
    clear h1
    go_enter Tryd.func9, Tryd.ntmps9
    go_wp2_with (go_at_call 13; refine (below_no _ _ _ N1.out).mono ?_; rintro e w' ⟨rfl, rfl⟩)
    go_ret
    exact ⟨rfl, below_alloc1 _ _⟩
  · cases h2 : inb r 4
    · have N1 := Lib.hid h1
      have N2 := Lib.hid h2
      rw [show may g s r c = false from by simp [may, h2]]
      clear h1 h2
      go_enter Tryd.func9, Tryd.ntmps9
      go_wp2_with fail
      refine (below_yes _ _ _ N1.out).mono ?_
      rintro e w' ⟨rfl, rfl⟩
      go_wp2_with fail
      refine (below_no _ _ _ N2.out).mono ?_
      rintro e w' ⟨rfl, rfl⟩
      go_wp2
      go_ret
      exact ⟨rfl, below_alloc1 _ _⟩
    · cases h3 : inb c 4
      · have N1 := Lib.hid h1
        have N2 := Lib.hid h2
        have N3 := Lib.hid h3
        rw [show may g s r c = false from by simp [may, h3]]
        clear h1 h2 h3
        go_enter Tryd.func9, Tryd.ntmps9
        go_wp2_with fail
        refine (below_yes _ _ _ N1.out).mono ?_
        rintro e w' ⟨rfl, rfl⟩
        go_wp2_with fail
        refine (below_yes _ _ _ N2.out).mono ?_
        rintro e w' ⟨rfl, rfl⟩
        go_wp2_with fail
        refine (below_no _ _ _ N3.out).mono ?_
        rintro e w' ⟨rfl, rfl⟩
        go_wp2
        go_ret
        exact ⟨rfl, below_alloc1 _ _⟩
      · have N1 := Lib.hid h1
        have N2 := Lib.hid h2
        have N3 := Lib.hid h3
        obtain ⟨k1, k2⟩ := inb_true h1
        obtain ⟨k, rfl⟩ := Int.eq_ofNat_of_zero_le k1
        obtain ⟨j1, j2⟩ := inb_true h2
        obtain ⟨j, rfl⟩ := Int.eq_ofNat_of_zero_le j1
        rw [show may g k j c = has (pn g (14 + k * 4 + j)) c from by simp [may, h1, h2, h3]]
        have hlt : 14 + k * 4 + j < 56 := by omega
        obtain ⟨e1, m1, m2⟩ := hg (14 + k * 4 + j) (by omega) hlt
        obtain ⟨p1, hp1⟩ : ∃ p1, intOf (g (14 + k * 4 + j)) = p1 := ⟨_, rfl⟩
        rw [show pn g (14 + k * 4 + j) = p1 from hp1]
        rw [hp1] at e1 m1 m2
        obtain ⟨b, hb⟩ : ∃ b, has p1 c = b := ⟨_, rfl⟩
        have hh := has_any p1 c
        rw [hb] at hh
        have HH := Lib.hid hh
        rw [hb]
        clear h1 h2 h3 hp1 hg hb hh
        go_enter Tryd.func9, Tryd.ntmps9
        go_wp2_with fail
        refine (below_yes _ _ _ N1.out).mono ?_
        rintro e w' ⟨rfl, rfl⟩
        go_wp2_with fail
        refine (below_yes _ _ _ N2.out).mono ?_
        rintro e w' ⟨rfl, rfl⟩
        go_wp2_with fail
        refine (below_yes _ _ _ N3.out).mono ?_
        rintro e w' ⟨rfl, rfl⟩
        go_wp2_with fail
        refine (HH.out _ m1 m2).mono ?_
        rintro e w' ⟨rfl, rfl⟩
        go_wp2
        go_ret
        exact ⟨rfl, below_alloc1 _ _⟩
end Go.Proofs.YtcgaodencjcgnaaDoor
