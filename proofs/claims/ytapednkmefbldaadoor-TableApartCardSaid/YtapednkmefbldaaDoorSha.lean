/- The sum of bytes as the program's text computes it, over the model's own words: plain definitions and laws, no program in sight. -/
import Derived.Test.YtapednkmefbldaaDoorBe
import Derived.Laws.BitsAllLaws
namespace Go.Proofs.YtapednkmefbldaaDoor

/-- x turned to the right by n. -/
def rr (x : Int) (n : Nat) : Int := bits .or .u32 (IntKind.u32.wrap (x * 2 ^ (32 - n))) (x / 2 ^ n)
def sg0 (x : Int) : Int := bits .xor .u32 (bits .xor .u32 (rr x 7) (rr x 18)) (x / 2 ^ 3)
def sg1 (y : Int) : Int := bits .xor .u32 (bits .xor .u32 (rr y 17) (rr y 19)) (y / 2 ^ 10)
def S1 (y : Int) : Int := bits .xor .u32 (bits .xor .u32 (rr y 6) (rr y 11)) (rr y 25)
def S0 (x : Int) : Int := bits .xor .u32 (bits .xor .u32 (rr x 2) (rr x 13)) (rr x 22)
def cho (y f g : Int) : Int := bits .or .u32 (bits .and .u32 y f) (bits .and .u32 (bits .xor .u32 4294967295 y) g)
def chx (y f g : Int) : Int := bits .xor .u32 (bits .and .u32 y f) (bits .and .u32 (bits .xor .u32 4294967295 y) g)
def maj (x b c : Int) : Int := bits .or .u32 (bits .or .u32 (bits .and .u32 x b) (bits .and .u32 x c)) (bits .and .u32 b c)

def word4 (a b c d : Int) : Int := bits .or .u32 (bits .or .u32 (bits .or .u32 (IntKind.u32.wrap (a * 2 ^ 24)) (IntKind.u32.wrap (b * 2 ^ 16))) (IntKind.u32.wrap (c * 2 ^ 8))) d
def wordAt (l : List Int) (i : Nat) : Int := word4 (l.getD (4 * i) 0) (l.getD (4 * i + 1) 0) (l.getD (4 * i + 2) 0) (l.getD (4 * i + 3) 0)
def nxt (p q x y : Int) : Int := (p + q + sg0 x + sg1 y) % 4294967296
def nxtAt (l : List Int) (i : Nat) : Int := nxt (l.getD (i - 16) 0) (l.getD (i - 7) 0) (l.getD (i - 15) 0) (l.getD (i - 2) 0)
def sched (b : List Int) : Nat → List Int
  | 0 => []
  | i + 1 => sched b i ++ [if i < 16 then wordAt b i else nxtAt (sched b i) i]

/-- A sum so far. -/
structure St where
  (a b c d e f g h : Int)
def St.cells (s : St) : Array Value := #[.int .u32 s.a, .int .u32 s.b, .int .u32 s.c, .int .u32 s.d, .int .u32 s.e, .int .u32 s.f, .int .u32 s.g, .int .u32 s.h]
def St.list (s : St) : List Int := [s.a, s.b, s.c, s.d, s.e, s.f, s.g, s.h]
def tOne (k w e f g h : Int) : Int := h + S1 e + cho e f g + k + w
def tTwo (a b c : Int) : Int := S0 a + maj a b c
def round1 (k w : Int) (s : St) : St :=
  ⟨(tOne k w s.e s.f s.g s.h + tTwo s.a s.b s.c) % 4294967296, s.a, s.b, s.c, (s.d + tOne k w s.e s.f s.g s.h) % 4294967296, s.e, s.f, s.g⟩
def rounds64 (ks ws : List Int) (s : St) : Nat → St
  | 0 => s
  | i + 1 => round1 (ks.getD i 0) (ws.getD i 0) (rounds64 ks ws s i)
def add8 (n h : St) : St :=
  ⟨(n.a + h.a) % 4294967296, (n.b + h.b) % 4294967296, (n.c + h.c) % 4294967296, (n.d + h.d) % 4294967296, (n.e + h.e) % 4294967296, (n.f + h.f) % 4294967296, (n.g + h.g) % 4294967296, (n.h + h.h) % 4294967296⟩
theorem add8_at (n h : St) (i : Nat) (hi : i < 8) : (add8 n h).list.getD i 0 = (n.list.getD i 0 + h.list.getD i 0) % 4294967296 := by
  rcases (show i = 0 ∨ i = 1 ∨ i = 2 ∨ i = 3 ∨ i = 4 ∨ i = 5 ∨ i = 6 ∨ i = 7 by omega) with rfl | rfl | rfl | rfl | rfl | rfl | rfl | rfl <;> rfl

def rootsL : List Int := [
  0x428a2f98, 0x71374491, 0xb5c0fbcf, 0xe9b5dba5, 0x3956c25b, 0x59f111f1, 0x923f82a4, 0xab1c5ed5,
  0xd807aa98, 0x12835b01, 0x243185be, 0x550c7dc3, 0x72be5d74, 0x80deb1fe, 0x9bdc06a7, 0xc19bf174,
  0xe49b69c1, 0xefbe4786, 0x0fc19dc6, 0x240ca1cc, 0x2de92c6f, 0x4a7484aa, 0x5cb0a9dc, 0x76f988da,
  0x983e5152, 0xa831c66d, 0xb00327c8, 0xbf597fc7, 0xc6e00bf3, 0xd5a79147, 0x06ca6351, 0x14292967,
  0x27b70a85, 0x2e1b2138, 0x4d2c6dfc, 0x53380d13, 0x650a7354, 0x766a0abb, 0x81c2c92e, 0x92722c85,
  0xa2bfe8a1, 0xa81a664b, 0xc24b8b70, 0xc76c51a3, 0xd192e819, 0xd6990624, 0xf40e3585, 0x106aa070,
  0x19a4c116, 0x1e376c08, 0x2748774c, 0x34b0bcb5, 0x391c0cb3, 0x4ed8aa4a, 0x5b9cca4f, 0x682e6ff3,
  0x748f82ee, 0x78a5636f, 0x84c87814, 0x8cc70208, 0x90befffa, 0xa4506ceb, 0xbef9a3f7, 0xc67178f2]
def startS : St := ⟨0x6a09e667, 0xbb67ae85, 0x3c6ef372, 0xa54ff53a, 0x510e527f, 0x9b05688c, 0x1f83d9ab, 0x5be0cd19⟩
def blockS (h : St) (b : List Int) : St := add8 (rounds64 rootsL (sched b 64) h 64) h
def sumTo (p : List Int) : Nat → St
  | 0 => startS
  | i + 1 => blockS (sumTo p i) ((p.drop (64 * i)).take 64)
def digest (s : St) : List Int := be s.a 4 ++ be s.b 4 ++ be s.c 4 ++ be s.d 4 ++ be s.e 4 ++ be s.f 4 ++ be s.g 4 ++ be s.h 4
/-- how many bytes it comes to, filled up -/
def wholeOf (n : Nat) : Nat := (n + 72) / 64 * 64
def padL (xs : List Int) : List Int := xs ++ 128 :: (List.replicate (wholeOf xs.length - xs.length - 9) 0 ++ be ((xs.length : Int) * 8) 8)
def shaS (xs : List Int) : St := sumTo (padL xs) (wholeOf xs.length / 64)
def sha (xs : List Int) : List Int := digest (shaS xs)

theorem wholeOf_le (n : Nat) : n + 9 ≤ wholeOf n := by unfold wholeOf; omega
theorem wholeOf_div (n : Nat) : 64 * (wholeOf n / 64) = wholeOf n := by unfold wholeOf; omega
theorem padL_len (xs : List Int) : (padL xs).length = wholeOf xs.length := by
  have := wholeOf_le xs.length
  simp only [padL, List.length_append, List.length_cons, List.length_replicate, be_len]
  omega
theorem padL_bytes (xs : List Int) (h : ∀ x ∈ xs, 0 ≤ x ∧ x ≤ 255) : ∀ x ∈ padL xs, 0 ≤ x ∧ x ≤ 255 := by
  intro x hx
  simp only [padL, List.mem_append, List.mem_cons, List.mem_replicate] at hx
  rcases hx with hx | rfl | ⟨_, rfl⟩ | hx
  · exact h x hx
  · omega
  · omega
  · exact be_bytes _ _ x hx
theorem digest_len (s : St) : (digest s).length = 32 := by simp [digest, be_len]
theorem digest_bytes (s : St) : ∀ x ∈ digest s, 0 ≤ x ∧ x ≤ 255 := by
  intro x hx
  simp only [digest, List.mem_append] at hx
  rcases hx with ((((((h | h) | h) | h) | h) | h) | h) | h <;> exact be_bytes _ _ x h
theorem sha_len (xs : List Int) : (sha xs).length = 32 := digest_len _
theorem sha_bytes (xs : List Int) : ∀ x ∈ sha xs, 0 ≤ x ∧ x ≤ 255 := digest_bytes _

theorem sched_len (b : List Int) (i : Nat) : (sched b i).length = i := by
  induction i with
  | zero => rfl
  | succ i ih => simp [sched, ih]
theorem sched_take (b : List Int) (i j : Nat) (h : i ≤ j) : (sched b j).take i = sched b i := by
  induction j with
  | zero =>
    obtain rfl : i = 0 := by omega
    rfl
  | succ j ih =>
    rcases Nat.lt_or_ge j i with h1 | h1
    · obtain rfl : i = j + 1 := by omega
      rw [List.take_of_length_le (by rw [sched_len]; omega)]
    · rw [sched, List.take_append_of_le_length (by rw [sched_len]; omega), ih h1]
theorem sched_getD (b : List Int) (i j k : Nat) (h : k < i) (hj : i ≤ j) : (sched b j).getD k 0 = (sched b i).getD k 0 := by
  rw [← sched_take b i j hj]
  simp only [List.getD_eq_getElem?_getD]
  rw [List.getElem?_take_of_lt h]
theorem sched_at (b : List Int) (i j : Nat) (h : i < j) : (sched b j).getD i 0 = if i < 16 then wordAt b i else nxtAt (sched b j) i := by
  rw [sched_getD b (i + 1) j i (by omega) (by omega), sched]
  have e : (sched b i ++ [if i < 16 then wordAt b i else nxtAt (sched b i) i]).getD i 0 = if i < 16 then wordAt b i else nxtAt (sched b i) i := by
    simp [List.getD_eq_getElem?_getD, sched_len]
  rw [e]
  split
  · rfl
  · unfold nxtAt
    rw [sched_getD b i j _ (by omega) (by omega), sched_getD b i j _ (by omega) (by omega), sched_getD b i j _ (by omega) (by omega), sched_getD b i j _ (by omega) (by omega)]

/-! ### the two ways to type it come to the same -/
theorem or_comm32 (x y : Int) : bits .or .u32 x y = bits .or .u32 y x := by
  unfold bits
  simp only
  rw [BitVec.or_comm]
theorem rr_turn (x : Int) (n : Nat) : bits .or .u32 (x / 2 ^ n) (IntKind.u32.wrap (x * 2 ^ (32 - n))) = rr x n := or_comm32 _ _
theorem chx_cho (y f g : Int) : chx y f g = cho y f g := by
  have key : ∀ a b c : BitVec 32, ((a &&& b) ^^^ ((4294967295#32 ^^^ a) &&& c)) = ((a &&& b) ||| ((4294967295#32 ^^^ a) &&& c)) := by
    intro a b c
    apply BitVec.eq_of_getLsbD_eq
    intro i hi
    have hn : (4294967295#32).getLsbD i = true := by
      have : (4294967295#32) = BitVec.allOnes 32 := by decide
      rw [this, BitVec.getLsbD_allOnes]; simpa using hi
    simp only [BitVec.getLsbD_and, BitVec.getLsbD_or, BitVec.getLsbD_xor, hn]
    cases a.getLsbD i <;> cases b.getLsbD i <;> cases c.getLsbD i <;> rfl
  have wr : ∀ v : BitVec 32, BitVec.ofInt 32 (IntKind.u32.wrap (v.toNat : Int)) = v := by
    intro v
    have hv := v.isLt
    rw [IntKind.wrap_u32', Int.emod_eq_of_lt (Int.natCast_nonneg _) (by omega)]
    apply BitVec.eq_of_toNat_eq
    rw [BitVec.ofInt_natCast, BitVec.toNat_ofNat]
    exact Nat.mod_eq_of_lt (by omega)
  unfold chx cho
  show IntKind.u32.wrap ((BitVec.ofInt 32 (IntKind.u32.wrap ((BitVec.ofInt 32 y &&& BitVec.ofInt 32 f).toNat : Int)) ^^^ BitVec.ofInt 32 (IntKind.u32.wrap ((BitVec.ofInt 32 (IntKind.u32.wrap ((BitVec.ofInt 32 4294967295 ^^^ BitVec.ofInt 32 y).toNat : Int)) &&& BitVec.ofInt 32 g).toNat : Int))).toNat : Int)
    = IntKind.u32.wrap ((BitVec.ofInt 32 (IntKind.u32.wrap ((BitVec.ofInt 32 y &&& BitVec.ofInt 32 f).toNat : Int)) ||| BitVec.ofInt 32 (IntKind.u32.wrap ((BitVec.ofInt 32 (IntKind.u32.wrap ((BitVec.ofInt 32 4294967295 ^^^ BitVec.ofInt 32 y).toNat : Int)) &&& BitVec.ofInt 32 g).toNat : Int))).toNat : Int)
  rw [wr, wr, wr]
  have h1 : BitVec.ofInt 32 4294967295 = 4294967295#32 := by decide
  rw [h1, key]

/-! ### the examples -/
theorem sha_nil : (sha []).take 4 = [0xE3, 0xB0, 0xC4, 0x42] := by decide +kernel
theorem sha_abc : (sha [97, 98, 99]).take 4 = [0xBA, 0x78, 0x16, 0xBF] := by decide +kernel
end Go.Proofs.YtapednkmefbldaaDoor
