/- What only who has the key can tell: plain. -/
import Derived.Test.YtapednkmefbldaaDoorSha
import Derived.Test.YtapednkmefbldaaDoorCopy
namespace Go.Proofs.YtapednkmefbldaaDoor

def keyed (k : List Int) : List Int := if 64 < k.length then sha k else k
def key64 (k : List Int) : List Int := keyed k ++ zeros (64 - (keyed k).length)
def turnB (l : List Int) (b : Int) : List Int := l.map fun c => bits .xor .u8 c b
def hmac (k b : List Int) : List Int := sha (turnB (key64 k) 92 ++ sha (turnB (key64 k) 54 ++ b))
theorem keyed_le (k : List Int) : (keyed k).length ≤ 64 := by
  unfold keyed
  split
  · rw [sha_len]; omega
  · omega
theorem keyed_bytes {k : List Int} (h : ∀ x ∈ k, 0 ≤ x ∧ x ≤ 255) : ∀ x ∈ keyed k, 0 ≤ x ∧ x ≤ 255 := by
  unfold keyed
  split
  · exact sha_bytes k
  · exact h
theorem key64_len (k : List Int) : (key64 k).length = 64 := by
  have := keyed_le k
  simp [key64, zeros_len]; omega
theorem key64_bytes {k : List Int} (h : ∀ x ∈ k, 0 ≤ x ∧ x ≤ 255) : ∀ x ∈ key64 k, 0 ≤ x ∧ x ≤ 255 := by
  intro x hx
  rcases List.mem_append.1 hx with hx | hx
  · exact keyed_bytes h x hx
  · exact zeros_bytes _ x hx
theorem turnB_len (l : List Int) (b : Int) : (turnB l b).length = l.length := by simp [turnB]
theorem xor_byte (a b : Int) : 0 ≤ bits .xor .u8 a b ∧ bits .xor .u8 a b ≤ 255 := by
  unfold bits
  simp only
  rw [IntKind.wrap_u8']
  omega
theorem turnB_bytes (l : List Int) (b : Int) : ∀ x ∈ turnB l b, 0 ≤ x ∧ x ≤ 255 := by
  intro x hx
  simp only [turnB, List.mem_map] at hx
  obtain ⟨c, _, rfl⟩ := hx
  exact xor_byte c b
theorem turnB_getD (l : List Int) (b : Int) (i : Nat) (h : i < l.length) : (turnB l b).getD i 0 = bits .xor .u8 (l.getD i 0) b := by
  simp [turnB, h]
theorem hmac_len (k b : List Int) : (hmac k b).length = 32 := sha_len _
theorem hmac_bytes (k b : List Int) : ∀ x ∈ hmac k b, 0 ≤ x ∧ x ≤ 255 := sha_bytes _
theorem hmac_jefe : (hmac [74, 101, 102, 101] [119, 104, 97, 116, 32, 100, 111, 32, 121, 97, 32, 119, 97, 110, 116, 32, 102, 111, 114, 32, 110, 111, 116, 104, 105, 110, 103, 63]).take 4 = [91, 220, 193, 70] := by decide +kernel
/-- a long key is as good as its sum -/
theorem key64_sum (k : List Int) (h : 64 < k.length) : key64 (sha k) = key64 k := by
  have h1 : keyed k = sha k := if_pos h
  have h2 : keyed (sha k) = sha k := if_neg (by rw [sha_len]; omega)
  unfold key64
  rw [h1, h2]
/-- noughts behind a key, up to 64 bytes, are as good as none -/
theorem key64_more (k : List Int) (m : Nat) (h : k.length + m ≤ 64) : key64 (k ++ zeros m) = key64 k := by
  have h1 : keyed k = k := if_neg (by omega)
  have h2 : keyed (k ++ zeros m) = k ++ zeros m := if_neg (by simp [zeros_len]; omega)
  unfold key64
  rw [h1, h2, List.append_assoc]
  congr 1
  unfold zeros
  rw [List.replicate_append_replicate]
  congr 1
  simp; omega
end Go.Proofs.YtapednkmefbldaaDoor
