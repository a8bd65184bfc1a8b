/- A region that draws its order, op by op: each operation of the head yields a value of which something is known, whatever of the others came up ahead; new memory alone is made. The tail comes behind all of the head, in order. -/
import Derived.Test.YtapednkmefbldaaDoorExt
import Derived.Test.YtapednkmefbldaaDoorRowW
import Derived.Orders
namespace Go.Proofs.YtapednkmefbldaaDoor
open Go.RowKit

section
variable {P : Program} {ops : Array Oper} {Q : Exit → Act → World → Prop}

def updv (x : Nat → Value) (i : Nat) (v : Value) : Nat → Value := fun j => if j = i then v else x j
@[simp] theorem updv_same (x : Nat → Value) (i : Nat) (v : Value) : updv x i v i = v := by simp [updv]
theorem updv_other (x : Nat → Value) (i j : Nat) (v : Value) (h : j ≠ i) : updv x i v j = x j := by simp [updv, h]

/-- edges go back; an operation of the tail waits for all ahead of it -/
def confB (ops : Array Oper) (m : Nat) : Bool :=
  (List.range ops.size).all fun i => match ops[i]? with
    | none => false
    | some o => o.after.all (fun e => decide (e.on < i)) && (decide (i < m) || (List.range i).all fun j => o.after.any fun e => Region.binds .any e && e.on == j)
theorem confB_spec {m : Nat} (h : confB ops m = true) {i : Nat} {o : Oper} (ho : ops[i]? = some o) : (∀ e ∈ o.after, e.on < i) ∧ (m ≤ i → ∀ j, j < i → ∃ e ∈ o.after, Region.binds .any e = true ∧ e.on = j) := by
  have hi := (Array.getElem?_eq_some_iff.1 ho).1
  have h1 := List.all_eq_true.1 h i (List.mem_range.2 hi)
  simp only [ho, Bool.and_eq_true, Bool.or_eq_true, decide_eq_true_eq] at h1
  refine ⟨fun e he => ?_, fun hm j hj => ?_⟩
  · have := Array.all_eq_true_iff_forall_mem.1 h1.1 e he
    simpa using this
  · rcases h1.2 with h2 | h2
    · omega
    · have := List.all_eq_true.1 h2 j (List.mem_range.2 hj)
      obtain ⟨e, he, hb⟩ := Array.any_eq_true'.1 this
      simp only [Bool.and_eq_true, beq_iff_eq] at hb
      exact ⟨e, he, hb.1, hb.2⟩

/-- What one operation does, in a frame where what it waits for has come up. -/
@[irreducible] def ConfStep (P : Program) (ops : Array Oper) (Q : Exit → Act → World → Prop) (F : (Nat → Value) → Act) (R : Nat → Value → World → Prop) (i : Nat) (o : Oper) (x : Nat → Value) (w : World) : Prop :=
  if Region.wanted o (yielded ops (F x).tmps) then o.wp P (F x) w (fun a' w' => ∃ v, a' = (F x).put o.dst v ∧ Below w.heap.size w w' ∧ R i v w') Q
  else R i undef w

theorem wpOp_list {k : Nat} {o : Oper} (ho : ops[k]? = some o) (rest : List Oper) (a : Act) (w : World) (h : wpList P ops Q (o :: rest) a w) : wpOp P ops Q k (wpList P ops Q rest) a w := by
  unfold wpOp
  simp only [ho]
  unfold wpList at h
  exact h

/-- the tail -/
theorem conf_tail {m : Nat} (hB : confB ops m = true) : ∀ (fuel k : Nat) (listed : Array Bool) (a : Act) (w : World), m ≤ k → k ≤ ops.size → ops.size - k ≤ fuel → listed.size = ops.size →
    (∀ j, j < ops.size → listed.getD j true = decide (j < k)) → wpList P ops Q (ops.toList.drop k) a w → wpAny P .any ops Q fuel listed a w := by
  intro fuel
  induction fuel with
  | zero =>
    intro k listed a w hm hk hf hs hl h
    have hkn : k = ops.size := by omega
    subst hkn
    rw [List.drop_of_length_le (by simp)] at h
    refine wpAny_done ?_ h 0
    rw [List.eq_nil_iff_forall_not_mem]
    intro j hj
    obtain ⟨h1, o, ho, -⟩ := mem_ready.1 hj
    have hjn := (Array.getElem?_eq_some_iff.1 ho).1
    rw [hl j hjn] at h1
    simp at h1
    omega
  | succ fuel ih =>
    intro k listed a w hm hk hf hs hl h
    rcases Nat.lt_or_ge k ops.size with hlt | hge
    · have ho : ops[k]? = some ops[k] := Array.getElem?_eq_getElem hlt
      have hd : ops.toList.drop k = ops[k] :: ops.toList.drop (k + 1) := by
        rw [List.drop_eq_getElem_cons (by simpa using hlt)]
        simp
      rw [hd] at h
      have hmem : k ∈ Region.ready .any ops listed := by
        refine mem_ready.2 ⟨by rw [hl k hlt]; simp, _, ho, fun e he _ => ?_⟩
        have h1 := (confB_spec hB ho).1 e he
        have h2 := hl e.on (by omega)
        rw [decide_eq_true h1] at h2
        have h3 : e.on < listed.size := by omega
        simpa [h3] using h2
      refine ⟨fun h0 => (by rw [h0] at hmem; cases hmem), fun i hi => ?_⟩
      obtain ⟨h1, o, hoi, hall⟩ := mem_ready.1 hi
      have hin := (Array.getElem?_eq_some_iff.1 hoi).1
      have hki : k ≤ i := by
        rw [hl i hin] at h1
        simp at h1
        exact h1
      have hik : i = k := by
        rcases Nat.lt_or_ge k i with h2 | h2
        · obtain ⟨e, he, hb, heq⟩ := (confB_spec hB hoi).2 (by omega) k h2
          have h3 := hall e he hb
          rw [heq] at h3
          have h4 := hl k hlt
          have h5 : k < listed.size := by omega
          simp [h5] at h3 h4
          rw [h3] at h4
          simp at h4
        · omega
      subst hik
      refine wpOp_mono (fun a' w' h' => ih (i + 1) (listed.setIfInBounds i true) a' w' (by omega) (by omega) (by omega) (by simpa using hs) (fun j hj => ?_) h') (wpOp_list ho _ a w h)
      by_cases e : i = j
      · subst e
        have h5 : i < listed.size := by omega
        simp [h5]
      · rw [getD_set_ne true e, hl j hj]
        congr 1
        rw [eq_iff_iff]
        omega
    · have hkn : k = ops.size := by omega
      subst hkn
      rw [List.drop_of_length_le (by simp)] at h
      refine wpAny_done ?_ h _
      rw [List.eq_nil_iff_forall_not_mem]
      intro j hj
      obtain ⟨h1, o, ho, -⟩ := mem_ready.1 hj
      have hjn := (Array.getElem?_eq_some_iff.1 ho).1
      rw [hl j hjn] at h1
      simp at h1
      omega

def unl (ops : Array Oper) (listed : Array Bool) : List Nat := (List.range ops.size).filter fun i => !listed.getD i true
theorem mem_unl {listed : Array Bool} {i : Nat} : i ∈ unl ops listed ↔ i < ops.size ∧ listed.getD i true = false := by
  unfold unl
  rw [List.mem_filter, List.mem_range, Bool.not_eq_true']
theorem unl_set {listed : Array Bool} {i : Nat} (hs : listed.size = ops.size) (hi : i < ops.size) (h : listed.getD i true = false) : (unl ops (listed.setIfInBounds i true)).length < (unl ops listed).length := by
  have e : unl ops (listed.setIfInBounds i true) = (unl ops listed).filter fun j => j != i := by
    unfold unl
    rw [List.filter_filter]
    apply List.filter_congr
    intro j hj
    by_cases hij : i = j
    · subst hij
      have h5 : i < listed.size := by omega
      simp [h5]
    · rw [getD_set_ne true hij]
      have : (j != i) = true := by simp; omega
      rw [this]; simp
  rw [e, List.length_filter_lt_length_iff_exists]
  exact ⟨i, mem_unl.2 ⟨hi, h⟩, by simp⟩

theorem conf_head {m : Nat} (hB : confB ops m = true) (hmn : m ≤ ops.size) {W : World} {F : (Nat → Value) → Act} {R : Nat → Value → World → Prop}
    (hF : ∀ i o x v, i < m → ops[i]? = some o → (F x).put o.dst v = F (updv x i v))
    (hR : ∀ i v w w', i < m → R i v w → Below w.heap.size w w' → R i v w')
    (hstep : ∀ i o x w, i < m → ops[i]? = some o → Below W.heap.size W w → (∀ e ∈ o.after, Region.binds .any e = true → R e.on (x e.on) w) → ConfStep P ops Q F R i o x w)
    (hend : ∀ x w, Below W.heap.size W w → (∀ i, i < m → R i (x i) w) → wpList P ops Q (ops.toList.drop m) (F x) w) :
    ∀ (fuel : Nat) (listed : Array Bool) (x : Nat → Value) (w : World), (unl ops listed).length ≤ fuel → listed.size = ops.size → (∀ j, m ≤ j → j < ops.size → listed.getD j true = false) → Below W.heap.size W w →
      (∀ i, i < m → listed.getD i true = true → R i (x i) w) → wpAny P .any ops Q fuel listed (F x) w := by
  intro fuel
  induction fuel with
  | zero =>
    intro listed x w hf hs ht hb hr
    have hall : ∀ j, j < ops.size → listed.getD j true = true := by
      intro j hj
      cases hc : listed.getD j true
      · have : j ∈ unl ops listed := mem_unl.2 ⟨hj, hc⟩
        rw [List.length_eq_zero_iff.1 (Nat.le_zero.1 hf)] at this
        cases this
      · rfl
    have hm : m = ops.size := by
      rcases Nat.lt_or_ge m ops.size with h | h
      · have := ht m (Nat.le_refl _) h
        rw [hall m h] at this
        cases this
      · omega
    refine conf_tail hB 0 m listed _ w (Nat.le_refl _) hmn (by omega) hs (fun j hj => by rw [hall j hj, decide_eq_true (by omega)]) (hend x w hb fun i hi => hr i hi (hall i (by omega)))
  | succ fuel ih =>
    intro listed x w hf hs ht hb hr
    by_cases hall : ∀ j, j < m → listed.getD j true = true
    · have hlen : ops.size - m ≤ fuel + 1 := by
        have hsub : (List.range' m (ops.size - m)).length ≤ (unl ops listed).length := by
          apply List.Nodup.length_le_of_subset
          · exact List.nodup_range'
          · intro j hj
            simp only [List.mem_range'_1] at hj
            have hjn : j < ops.size := by omega
            exact mem_unl.2 ⟨hjn, ht j hj.1 hjn⟩
        simp at hsub
        omega
      refine conf_tail hB (fuel + 1) m listed _ w (Nat.le_refl _) hmn hlen hs (fun j hj => ?_) (hend x w hb fun i hi => hr i hi (hall i hi))
      rcases Nat.lt_or_ge j m with h | h
      · rw [hall j h, decide_eq_true h]
      · rw [ht j h hj, decide_eq_false (by omega)]
    · refine ⟨fun h0 => ?_, fun i hi => ?_⟩
      · -- the least one that has not come up is ready
        exfalso
        have hex : ∃ j, j < m ∧ listed.getD j true = false := by
          apply Classical.byContradiction
          intro hno
          exact hall fun j hj => by
            cases hc : listed.getD j true
            · exact absurd ⟨j, hj, hc⟩ hno
            · rfl
        have hmin : ∃ j, (j < m ∧ listed.getD j true = false) ∧ ∀ k, k < j → ¬ (k < m ∧ listed.getD k true = false) := by
          obtain ⟨j, hj⟩ := hex
          induction j using Nat.strongRecOn with
          | ind j ihj =>
            by_cases h : ∃ k, k < j ∧ (k < m ∧ listed.getD k true = false)
            · obtain ⟨k, hk, hk2⟩ := h
              exact ihj k hk hk2
            · exact ⟨j, hj, fun k hk hk2 => h ⟨k, hk, hk2⟩⟩
        obtain ⟨j, ⟨hjm, hj⟩, hlt⟩ := hmin
        have hjn : j < ops.size := by omega
        have ho : ops[j]? = some ops[j] := Array.getElem?_eq_getElem hjn
        have : j ∈ Region.ready .any ops listed := by
          refine mem_ready.2 ⟨hj, _, ho, fun e he _ => ?_⟩
          have h1 := (confB_spec hB ho).1 e he
          have h2 := hlt e.on h1
          have h3 : e.on < listed.size := by omega
          cases hc : listed.getD e.on true
          · exact absurd ⟨by omega, hc⟩ h2
          · simpa [h3] using hc
        rw [h0] at this
        cases this
      · obtain ⟨h1, o, ho, hdeps⟩ := mem_ready.1 hi
        have hin := (Array.getElem?_eq_some_iff.1 ho).1
        have him : i < m := by
          apply Classical.byContradiction
          intro hge
          apply hall
          intro j hj
          obtain ⟨e, he, hb', heq⟩ := (confB_spec hB ho).2 (by omega) j (by omega)
          have h3 := hdeps e he hb'
          rw [heq] at h3
          have h5 : j < listed.size := by omega
          simpa [h5] using h3
        have hdr : ∀ e ∈ o.after, Region.binds .any e = true → R e.on (x e.on) w := by
          intro e he hb'
          have h3 := hdeps e he hb'
          have h4 := (confB_spec hB ho).1 e he
          have h5 : e.on < listed.size := by omega
          exact hr e.on (by omega) (by simpa [h5] using h3)
        have st := hstep i o x w him ho hb hdr
        have next : ∀ v w', Below w.heap.size w w' → R i v w' → wpAny P .any ops Q fuel (listed.setIfInBounds i true) ((F x).put o.dst v) w' := by
          intro v w' hb' hv
          rw [hF i o x v him ho]
          have hlt := unl_set hs hin h1
          refine ih _ _ w' (by omega) (by simpa using hs) (fun j hj hjn => ?_) (bt hb hb') (fun j hj hl => ?_)
          · rw [getD_set_ne true (by omega)]
            exact ht j hj hjn
          · by_cases hji : j = i
            · subst hji; rw [updv_same]; exact hv
            · rw [updv_other _ _ _ _ hji]
              rw [getD_set_ne true (fun e => hji e.symm)] at hl
              exact hR j _ w w' hj (hr j hj hl) hb'
        unfold wpOp
        simp only [ho]
        unfold ConfStep at st
        split
        · rename_i hw
          rw [if_pos hw] at st
          refine .inl (Oper.wp_mono (fun a' w' h' => ?_) st)
          obtain ⟨v, rfl, hb', hv⟩ := h'
          exact next v w' hb' hv
        · rename_i hw
          rw [if_neg hw] at st
          exact next undef w (Below.refl _ _) st

/-- A region that draws its order, op by op. -/
theorem wp_region_conf {id : Nat} {a0 : Act} {w0 : World} (hm : P.follows .mixedOrders = true) (m : Nat) (hB : confB ops m = true) (hmn : m ≤ ops.size) (F : (Nat → Value) → Act) (R : Nat → Value → World → Prop) (x0 : Nat → Value) (hF0 : a0 = F x0)
    (hF : ∀ i o x v, i < m → ops[i]? = some o → (F x).put o.dst v = F (updv x i v))
    (hR : ∀ i v w w', i < m → R i v w → Below w.heap.size w w' → R i v w')
    (hstep : ∀ i o x w, i < m → ops[i]? = some o → Below w0.heap.size w0 w → (∀ e ∈ o.after, Region.binds .any e = true → R e.on (x e.on) w) → ConfStep P ops Q F R i o x w)
    (hend : ∀ x w, Below w0.heap.size w0 w → (∀ i, i < m → R i (x i) w) → wpList P ops Q (ops.toList.drop m) (F x) w) : (Code.region id ops true).wp P Q a0 w0 := by
  subst hF0
  refine wp_region_any hm (conf_head hB hmn hF hR hstep hend _ _ x0 _ ?_ (by simp) (fun j hj hjn => by simp [hjn]) (below_drewN1 w0) (fun i hi h => ?_))
  · have := List.length_filter_le (fun i => !(Array.replicate ops.size false).getD i true) (List.range ops.size)
    simpa [unl] using this
  · have : i < ops.size := by omega
    simp [this] at h

/-! ### the frame by itself, the steps one by one -/
def putAll : List Oper → Nat → (Nat → Value) → Act → Act
  | [], _, _, a => a
  | o :: l, i, x, a => putAll l (i + 1) x (a.put o.dst (x i))
def dsts (l : List Oper) : List Tmp := l.filterMap (·.dst)
theorem putAll_put (d : Option Tmp) (v : Value) : ∀ (l : List Oper) (i : Nat) (x : Nat → Value) (a : Act), (∀ t, d = some t → t ∉ dsts l) → (putAll l i x a).put d v = putAll l i x (a.put d v)
  | [], _, _, _, _ => rfl
  | o :: l, i, x, a, h => by
    unfold putAll
    rw [putAll_put d v l (i + 1) x _ (fun t ht hm => h t ht (by unfold dsts at *; simp only [List.mem_filterMap] at *; obtain ⟨o', h1, h2⟩ := hm; exact ⟨o', List.mem_cons_of_mem _ h1, h2⟩))]
    rw [Act.put_comm a (x := o.dst) (y := d) (x i) v]
    intro t ht e
    refine h t e ?_
    unfold dsts
    exact List.mem_filterMap.2 ⟨o, List.mem_cons_self, ht⟩
theorem putAll_congr : ∀ (l : List Oper) (i : Nat) (x y : Nat → Value) (a : Act), (∀ j, i ≤ j → x j = y j) → putAll l i x a = putAll l i y a
  | [], _, _, _, _, _ => rfl
  | o :: l, i, x, y, a, h => by
    unfold putAll
    rw [h i (Nat.le_refl _)]
    exact putAll_congr l (i + 1) x y _ fun j hj => h j (by omega)
theorem put_put (a : Act) (d : Option Tmp) (u v : Value) : (a.put d u).put d v = a.put d v := by
  cases d with
  | none => rfl
  | some t => simp [Act.put]
theorem putAll_upd : ∀ (l : List Oper) (i k : Nat) (x : Nat → Value) (a : Act) (o : Oper) (v : Value), (dsts l).Nodup → l[k]? = some o → (putAll l i x a).put o.dst v = putAll l i (updv x (i + k) v) a
  | [], _, _, _, _, _, _, _, h => by simp at h
  | p :: l, i, 0, x, a, o, v, hn, h => by
    simp at h
    subst h
    unfold putAll
    rw [show updv x (i + 0) v i = v from updv_same x i v, putAll_congr l (i + 1) (updv x (i + 0) v) x _ (fun j hj => updv_other _ _ _ _ (by omega))]
    rw [putAll_put p.dst v l (i + 1) x _ ?_, put_put]
    intro t ht hm
    unfold dsts at hn
    rw [List.filterMap_cons, ht] at hn
    exact (List.nodup_cons.1 hn).1 hm
  | p :: l, i, k + 1, x, a, o, v, hn, h => by
    unfold putAll
    have hn' : (dsts l).Nodup := by
      unfold dsts at *
      rw [List.filterMap_cons] at hn
      cases hp : p.dst with
      | none => rw [hp] at hn; exact hn
      | some t => rw [hp] at hn; exact (List.nodup_cons.1 hn).2
    rw [putAll_upd l (i + 1) k x _ o v hn' (by simpa using h), updv_other _ _ _ _ (show i ≠ i + (k + 1) by omega), show i + 1 + k = i + (k + 1) by omega]
/-- what the slots held -/
def held (l : List Oper) (a : Act) : Nat → Value := fun i => match l[i]? with
  | some o => (match o.dst with | some d => a.tmps.getD d undef | none => undef)
  | none => undef
theorem putAll_held (a : Act) : ∀ (l : List Oper) (i : Nat) (x : Nat → Value), (∀ k o, l[k]? = some o → ∀ d, o.dst = some d → x (i + k) = a.tmps.getD d undef) → putAll l i x a = a
  | [], _, _, _ => rfl
  | o :: l, i, x, h => by
    unfold putAll
    have e : a.put o.dst (x i) = a := by
      cases hd : o.dst with
      | none => rfl
      | some d =>
        have := h 0 o rfl d hd
        rw [Nat.add_zero] at this
        rw [this]
        simp only [Act.put]
        congr 1
        apply Array.ext
        · simp
        · intro j h1 h2
          by_cases hj : d = j
          · subst hj; simp [h2]
          · rw [Array.getElem_setIfInBounds_ne h2 hj]
    rw [e]
    exact putAll_held a l (i + 1) x fun k o' ho d hd => by
      have := h (k + 1) o' (by simpa using ho) d hd
      rw [← this]; congr 1; omega
def Deps (R : Nat → Value → World → Prop) (o : Oper) (x : Nat → Value) (w : World) : Prop := ∀ e ∈ o.after, Region.binds .any e = true → R e.on (x e.on) w
def ConfSteps (P : Program) (ops : Array Oper) (Q : Exit → Act → World → Prop) (W : World) (F : (Nat → Value) → Act) (R : Nat → Value → World → Prop) : Nat → List Oper → Prop
  | _, [] => True
  | i, o :: l => (∀ x w, Below W.heap.size W w → Deps R o x w → ConfStep P ops Q F R i o x w) ∧ ConfSteps P ops Q W F R (i + 1) l
theorem ConfSteps.at {W : World} {F : (Nat → Value) → Act} {R : Nat → Value → World → Prop} : ∀ (l : List Oper) (i : Nat), ConfSteps P ops Q W F R i l → ∀ k o, l[k]? = some o → ∀ x w, Below W.heap.size W w → Deps R o x w → ConfStep P ops Q F R (i + k) o x w
  | [], _, _, _, _, h => by simp at h
  | p :: l, i, hs, 0, o, h => by
    simp at h
    subst h
    exact hs.1
  | p :: l, i, hs, k + 1, o, h => by
    have := ConfSteps.at l (i + 1) hs.2 k o (by simpa using h)
    rw [show i + (k + 1) = i + 1 + k by omega]
    exact this
theorem wp_region_conf' {id : Nat} {l : List Oper} {a0 : Act} {w0 : World} (hm : P.follows .mixedOrders = true) (m : Nat) (hB : confB l.toArray m = true) (hmn : m ≤ l.length) (hnd : (dsts (l.take m)).Nodup) (R : Nat → Value → World → Prop)
    (hR : ∀ i v w w', i < m → R i v w → Below w.heap.size w w' → R i v w')
    (hstep : ConfSteps P l.toArray Q w0 (fun x => putAll (l.take m) 0 x a0) R 0 (l.take m))
    (hend : ∀ x w, Below w0.heap.size w0 w → (∀ i, i < m → R i (x i) w) → wpList P l.toArray Q (l.drop m) (putAll (l.take m) 0 x a0) w) : (Code.region id l.toArray true).wp P Q a0 w0 := by
  have htk : ∀ i o, i < m → l.toArray[i]? = some o → (l.take m)[i]? = some o := fun i o hi ho => by
    rw [List.getElem?_take, if_pos hi]; simpa using ho
  refine wp_region_conf hm m hB (by simpa using hmn) (fun x => putAll (l.take m) 0 x a0) R (held (l.take m) a0) (putAll_held a0 _ 0 _ ?_).symm (fun i o x v hi ho => ?_) hR (fun i o x w hi ho hb hd => ?_) hend
  · intro k o ho d hd
    unfold held
    rw [Nat.zero_add, ho]
    simp only [hd]
  · have := putAll_upd (l.take m) 0 i x a0 o v hnd (htk i o hi ho)
    rw [Nat.zero_add] at this
    exact this
  · have := ConfSteps.at _ 0 hstep i o (htk i o hi ho) x w hb hd
    rw [Nat.zero_add] at this
    exact this
/-- an operation that yields a value and leaves the world -/
theorem conf_value {F : (Nat → Value) → Act} {R : Nat → Value → World → Prop} {i : Nat} {o : Oper} {x : Nat → Value} {w : World} {v : Value} (hw : Region.wanted o (yielded ops (F x).tmps) = true)
    (hr : (execOp (F x).eval o).run P w = .ok (.value v) w) (h : R i v w) : ConfStep P ops Q F R i o x w := by
  unfold ConfStep
  rw [if_pos hw]
  unfold Oper.wp
  rw [hr]
  exact ⟨v, rfl, Below.refl _ _, h⟩
/-- .. that makes memory -/
theorem conf_make {F : (Nat → Value) → Act} {R : Nat → Value → World → Prop} {i : Nat} {o : Oper} {x : Nat → Value} {w w' : World} {v : Value} (hw : Region.wanted o (yielded ops (F x).tmps) = true)
    (hr : (execOp (F x).eval o).run P w = .ok (.value v) w') (hb : Below w.heap.size w w') (h : R i v w') : ConfStep P ops Q F R i o x w := by
  unfold ConfStep
  rw [if_pos hw]
  unfold Oper.wp
  rw [hr]
  exact ⟨v, rfl, hb, h⟩
/-- a call -/
theorem conf_call {F : (Nat → Value) → Act} {R : Nat → Value → World → Prop} {i : Nat} {o : Oper} {x : Nat → Value} {w : World} {f : FuncId} {args : Array Value} (hw : Region.wanted o (yielded ops (F x).tmps) = true)
    (hr : (execOp (F x).eval o).run P w = .ok (.enter f args) w) (hc : Calls P f args w fun e w' => ∃ v, e = .returned v ∧ Below w.heap.size w w' ∧ R i v w') : ConfStep P ops Q F R i o x w := by
  unfold ConfStep
  rw [if_pos hw]
  unfold Oper.wp
  rw [hr]
  exact hc.mono fun e w' ⟨v, he, hb, h⟩ => by subst he; exact ⟨v, rfl, hb, h⟩
theorem conf_skip {F : (Nat → Value) → Act} {R : Nat → Value → World → Prop} {i : Nat} {o : Oper} {x : Nat → Value} {w : World} (hw : Region.wanted o (yielded ops (F x).tmps) = false) (h : R i undef w) : ConfStep P ops Q F R i o x w := by
  unfold ConfStep
  rw [if_neg (by rw [hw]; exact Bool.false_ne_true)]
  exact h
/-- a whole row is loaded -/
theorem conf_load {F : (Nat → Value) → Act} {R : Nat → Value → World → Prop} {i : Nat} {o : Oper} {x : Nat → Value} {w : World} {T : TypeId} {n g : Nat} {cs : Array Value} (hT : AggT P T n) (hw : Region.wanted o (yielded ops (F x).tmps) = true)
    (hl : LoadT o (F x) T g) (hg : w.heap[g]? = some (.cells cs T (0, 0))) (hn : cs.size = n) (h : R i (.agg cs) w) : ConfStep P ops Q F R i o x w := by
  obtain ⟨⟨d, hu, hd⟩, hi⟩ := hT
  unfold LoadT at hl
  split at hl
  · rename_i t y ho
    obtain ⟨rfl, hx⟩ := hl
    refine conf_value hw ?_ h
    have hrun : (loadVar t ⟨g, 0, none⟩).run P w = .ok (.agg cs) w := by
      cases d <;> first | (cases hd; done) | exact run_loadVar_row w g t t cs (0, 0) _ hg hu rfl (by rw [hi, hn])
    unfold execOp
    simp only [ho, hx, Instr.loadAt, Instr.sureAddr, Sem.run_bind, Sem.run_pure, Result.andThen_ok, hrun]
  · exact hl.elim
end
end Go.Proofs.YtapednkmefbldaaDoor
