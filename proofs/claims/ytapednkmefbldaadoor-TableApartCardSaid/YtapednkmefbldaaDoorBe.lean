/- Plain laws on numbers as bytes. -/
import Derived.Test.YtapednkmefbldaaDoorPack
import Derived.Laws.BytesArg
import Derived.Lib.Strings
namespace Go.Proofs.YtapednkmefbldaaDoor

theorem be_len (n : Int) (k : Nat) : (be n k).length = k := by simp [be]
theorem be_bytes (n : Int) (k : Nat) : ∀ x ∈ be n k, 0 ≤ x ∧ x ≤ 255 := by
  intro x hx
  simp only [be, List.mem_map] at hx
  obtain ⟨i, _, rfl⟩ := hx
  omega
theorem be_cons (n : Int) (k : Nat) : be n (k + 1) = n / 2 ^ (8 * k) % 256 :: be n k := by
  unfold be
  rw [List.range_succ_eq_map, List.map_cons, List.map_map]
  congr 1
  apply List.map_congr_left
  intro i hi
  simp only [Function.comp_apply, Nat.add_sub_cancel]
  rw [show k - (i + 1) = k - 1 - i from by omega]
theorem be_zero (n : Int) : be n 0 = [] := rfl
theorem pow8 (k : Nat) : (2 : Int) ^ (8 * k) = 256 ^ k := by rw [Int.pow_mul]; rfl
theorem pow256_pos (k : Nat) : (0 : Int) < 256 ^ k := Int.pow_pos (by omega)
theorem nat_mod_low (m k : Nat) : m % 256 ^ (k + 1) = m % 256 + 256 * (m / 256 % 256 ^ k) := by
  rw [Nat.pow_succ, Nat.mul_comm, Nat.mod_mul]
theorem nat_mod_high (m k : Nat) : m % 256 ^ (k + 1) = m % 256 ^ k + 256 ^ k * (m / 256 ^ k % 256) := by
  rw [Nat.pow_succ, Nat.mod_mul]
theorem ediv_ediv' (n a b : Int) (ha : 0 ≤ a) : n / a / b = n / (a * b) := by
  rw [Int.ediv_ediv, if_neg (by omega)]; simp
theorem be_snoc (n : Int) (k : Nat) : be n (k + 1) = be (n / 256) k ++ [n % 256] := by
  induction k with
  | zero => simp [be]
  | succ k ih =>
    rw [be_cons, ih, be_cons (n / 256) k, List.cons_append]
    congr 2
    rw [ediv_ediv' _ _ _ (by omega), Nat.mul_add, Int.pow_add, Int.mul_comm]
    rfl
theorem num_be (k : Nat) : ∀ n : Int, 0 ≤ n → num (be n k) = n % 256 ^ k := by
  induction k with
  | zero => intro n h; simp [be, num]
  | succ k ih =>
    intro n h
    rw [be_snoc, num_snoc, ih _ (by omega)]
    obtain ⟨m, rfl⟩ := Int.eq_ofNat_of_zero_le h
    have e := nat_mod_low m k
    have c1 : (m : Int) / 256 % 256 ^ k = ((m / 256 % 256 ^ k : Nat) : Int) := by simp
    have c2 : (m : Int) % 256 ^ (k + 1) = ((m % 256 ^ (k + 1) : Nat) : Int) := by simp
    rw [c1, c2, e]
    omega
theorem snoc_ind {P : List Int → Prop} (h0 : P []) (h1 : ∀ l x, P l → P (l ++ [x])) (l : List Int) : P l := by
  have : ∀ l : List Int, P l.reverse := by
    intro l
    induction l with
    | nil => exact h0
    | cons x l ih => rw [List.reverse_cons]; exact h1 _ _ ih
  have := this l.reverse
  rwa [List.reverse_reverse] at this
theorem be_num (xs : List Int) : (∀ x ∈ xs, 0 ≤ x ∧ x ≤ 255) → be (num xs) xs.length = xs := by
  refine snoc_ind (P := fun xs => (∀ x ∈ xs, 0 ≤ x ∧ x ≤ 255) → be (num xs) xs.length = xs) (fun _ => rfl) (fun l x ih h => ?_) xs
  have hx := h x (by simp)
  have hl := ih (fun y hy => h y (by simp [hy]))
  rw [List.length_append, List.length_singleton, be_snoc, num_snoc]
  have e1 : (num l * 256 + x) / 256 = num l := by omega
  have e2 : (num l * 256 + x) % 256 = x := by omega
  rw [e1, e2, hl]
theorem be_append (n : Int) (m k : Nat) : be n (m + k) = be (n / 256 ^ k) m ++ be n k := by
  induction k generalizing n with
  | zero => simp [be]
  | succ k ih =>
    rw [← Nat.add_assoc, be_snoc, ih, be_snoc, ← List.append_assoc, ediv_ediv' _ _ _ (by omega), Int.pow_succ, Int.mul_comm]

theorem pow_cast (k : Nat) : (256 : Int) ^ k = ((256 ^ k : Nat) : Int) := by rw [Int.natCast_pow]; rfl
theorem be_mod (n : Int) (k : Nat) (h : 0 ≤ n) : be n k = be (n % 256 ^ k) k := by
  have e := be_num (be n k) (be_bytes n k)
  rw [num_be k n h, be_len] at e
  exact e.symm
theorem join_num (x y : Int) (m k : Nat) (hm : m + k ≤ 8) (x0 : 0 ≤ x) (x1 : x < 256 ^ m) (y0 : 0 ≤ y) (y1 : y < 256 ^ k) :
    ∃ z : Int, bits .or .u64 (IntKind.u64.wrap (x * 2 ^ (8 * k))) y = z ∧ 0 ≤ z ∧ z ≤ 18446744073709551615 ∧ z / 2 ^ (8 * (m + k)) = 0 ∧ be z (m + k) = be x m ++ be y k := by
  obtain ⟨a, rfl⟩ := Int.eq_ofNat_of_zero_le x0
  obtain ⟨b, rfl⟩ := Int.eq_ofNat_of_zero_le y0
  have x1' : a < 256 ^ m := by rw [pow_cast] at x1; exact Int.ofNat_lt.1 x1
  have y1' : b < 256 ^ k := by rw [pow_cast] at y1; exact Int.ofNat_lt.1 y1
  have hp : 0 < 256 ^ k := Nat.pow_pos (by omega)
  have hz : a * 256 ^ k + b < 256 ^ (m + k) := by
    rw [Nat.pow_add]
    have := Nat.mul_le_mul_right (256 ^ k) (show a + 1 ≤ 256 ^ m from x1')
    rw [Nat.add_mul, Nat.one_mul] at this
    omega
  have h8 : 256 ^ (m + k) ≤ 18446744073709551616 := by
    have := Nat.pow_le_pow_right (n := 256) (by omega) hm
    rwa [show (256 : Nat) ^ 8 = 18446744073709551616 from by decide] at this
  have e1 : (a : Int) * 2 ^ (8 * k) = ((a * 256 ^ k : Nat) : Int) := by rw [pow8]; simp
  have w1 : IntKind.u64.wrap ((a * 256 ^ k : Nat) : Int) = ((a * 256 ^ k : Nat) : Int) := IntWalk.u64_in _ ⟨Int.natCast_nonneg _, by omega⟩
  have e2 : (a * 256 ^ k) ||| b = a * 256 ^ k + b := by
    rw [show (256 : Nat) ^ k = 2 ^ (8 * k) from by rw [Nat.pow_mul]] at y1' ⊢
    exact nat_join (8 * k) _ _ (by simp) y1'
  refine ⟨((a * 256 ^ k + b : Nat) : Int), ?_, Int.natCast_nonneg _, by omega, ?_, ?_⟩
  · rw [e1, w1, u64_or_nat _ _ (by omega) (by omega), e2]
  · rw [pow8]
    exact Int.ediv_eq_zero_of_lt (Int.natCast_nonneg _) (by rw [pow_cast]; exact Int.ofNat_lt.2 hz)
  · rw [be_append, be_mod _ k (Int.natCast_nonneg _)]
    have d1 : (a * 256 ^ k + b) / 256 ^ k = a := by
      rw [Nat.mul_comm, Nat.mul_add_div hp, Nat.div_eq_of_lt y1', Nat.add_zero]
    have d2 : (a * 256 ^ k + b) % 256 ^ k = b := by
      rw [Nat.mul_comm, Nat.mul_add_mod, Nat.mod_eq_of_lt y1']
    have c1 : ((a * 256 ^ k + b : Nat) : Int) / 256 ^ k = (a : Int) := by
      have : (((a * 256 ^ k + b) / 256 ^ k : Nat) : Int) = (a : Int) := by rw [d1]
      rw [← this]; simp
    have c2 : ((a * 256 ^ k + b : Nat) : Int) % 256 ^ k = (b : Int) := by
      have : (((a * 256 ^ k + b) % 256 ^ k : Nat) : Int) = (b : Int) := by rw [d2]
      rw [← this]; simp
    rw [c1, c2]
theorem num_be' (m : Int) (k : Nat) (h0 : 0 ≤ m) (h : m / 2 ^ (8 * k) = 0) : num (be m k) = m := by
  rw [num_be k m h0]
  rw [pow8] at h
  have e := Int.emod_add_mul_ediv m (256 ^ k)
  rw [h] at e; simpa using e
/-! masks of a uint64 -/
theorem u64_mask (k : Nat) (hk : k ≤ 63) (n : Int) (h0 : 0 ≤ n) (h1 : n ≤ 18446744073709551615) :
    bits .and .u64 n (IntKind.u64.wrap (IntKind.u64.wrap (2 ^ k) - 1)) = n % 2 ^ k := by
  obtain ⟨m, rfl⟩ := Int.eq_ofNat_of_zero_le h0
  have hp : 2 ^ k ≤ 2 ^ 63 := Nat.pow_le_pow_right (by omega) hk
  have hp0 : 0 < 2 ^ k := Nat.two_pow_pos k
  have c1 : ((2 : Int) ^ k) = ((2 ^ k : Nat) : Int) := by simp
  have w1 : IntKind.u64.wrap ((2 ^ k : Nat) : Int) = ((2 ^ k : Nat) : Int) := IntWalk.u64_in _ ⟨by omega, by omega⟩
  have w2 : IntKind.u64.wrap (((2 ^ k : Nat) : Int) - 1) = ((2 ^ k - 1 : Nat) : Int) := by
    rw [IntWalk.u64_in _ ⟨by omega, by omega⟩]; omega
  rw [c1, w1, w2, u64_and_nat _ _ (by omega) (by omega), Nat.and_two_pow_sub_one_eq_mod]
  simp

/-! strings of bytes -/
theorem ofNat_inj {x y : Int} (hx : 0 ≤ x ∧ x ≤ 255) (hy : 0 ≤ y ∧ y ≤ 255) (h : UInt8.ofNat x.toNat = UInt8.ofNat y.toNat) : x = y := by
  have := congrArg UInt8.toNat h
  simp only [UInt8.toNat_ofNat'] at this
  omega
theorem map_inj {xs ys : List Int} (hx : ∀ x ∈ xs, 0 ≤ x ∧ x ≤ 255) (hy : ∀ x ∈ ys, 0 ≤ x ∧ x ≤ 255) (h : (xs.map fun n => UInt8.ofNat n.toNat) = ys.map fun n => UInt8.ofNat n.toNat) : xs = ys := by
  induction xs generalizing ys with
  | nil => cases ys <;> simp_all
  | cons x xs ih =>
    cases ys with
    | nil => simp at h
    | cons y ys =>
      rw [List.map_cons, List.map_cons, List.cons.injEq] at h
      have e1 := ofNat_inj (hx x (by simp)) (hy y (by simp)) h.1
      have e2 := ih (fun z hz => hx z (by simp [hz])) (fun z hz => hy z (by simp [hz])) h.2
      rw [e1, e2]
theorem str_inj {xs ys : List Int} (hx : ∀ x ∈ xs, 0 ≤ x ∧ x ≤ 255) (hy : ∀ x ∈ ys, 0 ≤ x ∧ x ≤ 255) : strOfNums xs = strOfNums ys ↔ xs = ys := by
  refine ⟨fun h => map_inj hx hy ?_, fun h => by rw [h]⟩
  have := congrArg (fun s : ByteArray => s.data.toList) h
  simpa [strOfNums] using this
theorem str_toList (xs : List Int) : (strOfNums xs).toList = xs.map fun n => UInt8.ofNat n.toNat := by
  rw [Lib.toList_data]; rfl
theorem str_beq {xs ys : List Int} (hx : ∀ x ∈ xs, 0 ≤ x ∧ x ≤ 255) (hy : ∀ x ∈ ys, 0 ≤ x ∧ x ≤ 255) : ((strOfNums xs).toList == (strOfNums ys).toList) = decide (xs = ys) := by
  rw [str_toList, str_toList, Bool.eq_iff_iff]
  simp only [beq_iff_eq, decide_eq_true_eq]
  exact ⟨map_inj hx hy, fun h => by rw [h]⟩
theorem be_inj (k : Nat) (a b : Int) (ha : 0 ≤ a) (hb : 0 ≤ b) (ha' : a < 256 ^ k) (hb' : b < 256 ^ k) : be a k = be b k ↔ a = b := by
  refine ⟨fun h => ?_, fun h => by rw [h]⟩
  have := congrArg num h
  rwa [num_be k a ha, num_be k b hb, Int.emod_eq_of_lt ha ha', Int.emod_eq_of_lt hb hb'] at this
theorem u8_lt {x y : Int} (hx : 0 ≤ x ∧ x ≤ 255) (hy : 0 ≤ y ∧ y ≤ 255) : (UInt8.ofNat x.toNat < UInt8.ofNat y.toNat) ↔ x < y := by
  rw [UInt8.lt_iff_toNat_lt, UInt8.toNat_ofNat', UInt8.toNat_ofNat']; omega
theorem num_acc (xs : List Int) : ∀ a : Int, xs.foldl (fun n x => n * 256 + x) a = a * 256 ^ xs.length + num xs := by
  induction xs with
  | nil => intro a; simp [num]
  | cons x xs ih =>
    intro a
    have e0 := ih (0 * 256 + x)
    unfold num at *
    rw [List.foldl_cons, List.foldl_cons, ih, e0, List.length_cons, Int.pow_succ]
    rw [Int.add_mul, Int.zero_mul, Int.zero_add, Int.mul_assoc, Int.mul_comm 256, Int.add_assoc]
theorem num_cons (x : Int) (xs : List Int) : num (x :: xs) = x * 256 ^ xs.length + num xs := by
  have := num_acc xs x
  unfold num at *
  rw [List.foldl_cons, ← this]; simp
theorem num_range (xs : List Int) (h : ∀ x ∈ xs, 0 ≤ x ∧ x ≤ 255) : 0 ≤ num xs ∧ num xs < 256 ^ xs.length := by
  have := num_bd xs h xs.length (by omega)
  rwa [List.take_length] at this
theorem lex_lt (x y P nx ny : Int) (_h0 : 0 ≤ nx) (h1 : nx < P) (h2 : 0 ≤ ny) (h : x < y) : x * P + nx < y * P + ny := by
  have hP : 0 ≤ P := by omega
  have := Int.mul_le_mul_of_nonneg_right (show x + 1 ≤ y by omega) hP
  rw [Int.add_mul, Int.one_mul] at this
  omega
theorem less_num : ∀ (xs ys : List Int), xs.length = ys.length → (∀ x ∈ xs, 0 ≤ x ∧ x ≤ 255) → (∀ x ∈ ys, 0 ≤ x ∧ x ≤ 255) →
    Op.bytesLess (xs.map fun n => UInt8.ofNat n.toNat) (ys.map fun n => UInt8.ofNat n.toNat) = decide (num xs < num ys)
  | [], [], _, _, _ => by simp [Op.bytesLess, num]
  | [], y :: ys, h, _, _ => by simp at h
  | x :: xs, [], h, _, _ => by simp at h
  | x :: xs, y :: ys, h, hx, hy => by
    have hl : xs.length = ys.length := by simpa using h
    have ih := less_num xs ys hl (fun z hz => hx z (by simp [hz])) (fun z hz => hy z (by simp [hz]))
    have bx := hx x (by simp)
    have bY := hy y (by simp)
    have rx := num_range xs (fun z hz => hx z (by simp [hz]))
    have ry := num_range ys (fun z hz => hy z (by simp [hz]))
    rw [List.map_cons, List.map_cons, Op.bytesLess, ih, num_cons, num_cons]
    rw [← hl] at ry ⊢
    rcases Int.lt_trichotomy x y with c | c | c
    · rw [decide_eq_true ((u8_lt bx bY).2 c), Bool.true_or, decide_eq_true (lex_lt _ _ _ _ _ rx.1 rx.2 ry.1 c)]
    · subst c
      rw [decide_eq_false (fun e => by have := (u8_lt bx bY).1 e; omega), Bool.false_or, beq_self_eq_true, Bool.true_and]
      exact decide_eq_decide.2 (by omega)
    · rw [decide_eq_false (fun e => by have := (u8_lt bx bY).1 e; omega), Bool.false_or]
      have hne : (UInt8.ofNat x.toNat == UInt8.ofNat y.toNat) = false := by
        rw [beq_eq_false_iff_ne]
        intro e
        have := ofNat_inj bx bY e
        omega
      rw [hne, Bool.false_and]
      have := lex_lt _ _ _ _ _ ry.1 ry.2 rx.1 c
      exact (decide_eq_false (by omega)).symm
theorem str_less (k : Nat) (a b : Int) (ha : 0 ≤ a) (hb : 0 ≤ b) (ha' : a < 256 ^ k) (hb' : b < 256 ^ k) :
    Op.bytesLess (strOfNums (be a k)).toList (strOfNums (be b k)).toList = decide (a < b) := by
  rw [str_toList, str_toList, less_num _ _ (by rw [be_len, be_len]) (be_bytes a k) (be_bytes b k), num_be k a ha, num_be k b hb, Int.emod_eq_of_lt ha ha', Int.emod_eq_of_lt hb hb']
end Go.Proofs.YtapednkmefbldaaDoor
