/- A region that draws its order: a head that is quiet (it yields the same values whatever the order, and makes new memory at most), walked once in the text's order; then a tail, whose operations wait for all ahead, in order. -/
import Derived.Test.YtapednkmefbldaaDoorConf
import Derived.Deep.Quiet
namespace Go.Proofs.YtapednkmefbldaaDoor
open Go.RowKit

section
variable {P : Program} {ops : Array Oper} {Q : Exit → Act → World → Prop} {C : World → Prop}

/-- within the head: an operation looks at no slot of one that it does not wait for -/
def apartB (l : List Oper) (ops : Array Oper) : Bool :=
  l.all fun o => (List.range l.length).all fun j => match l[j]? with
    | none => true
    | some p => (o.after.any fun e => Region.binds .any e && e.on == j) || (match p.dst with | some d => !(o.looksAt ops).contains d | none => true)
theorem apartB_spec {l : List Oper} (h : apartB l ops = true) {o p : Oper} {j : Nat} (ho : o ∈ l) (hp : l[j]? = some p) :
    (∃ e ∈ o.after, Region.binds .any e = true ∧ e.on = j) ∨ (∀ d, p.dst = some d → d ∉ o.looksAt ops) := by
  have h1 := List.all_eq_true.1 h o ho
  have hj := (List.getElem?_eq_some_iff.1 hp).1
  have h2 := List.all_eq_true.1 h1 j (List.mem_range.2 hj)
  simp only [hp, Bool.or_eq_true] at h2
  rcases h2 with h2 | h2
  · left
    obtain ⟨e, he, hb⟩ := Array.any_eq_true'.1 h2
    simp only [Bool.and_eq_true, beq_iff_eq] at hb
    exact ⟨e, he, hb.1, hb.2⟩
  · right
    intro d hd
    rw [hd] at h2
    simpa using h2
/-- the values up to k are turned to y's -/
def mix (x y : Nat → Value) (k : Nat) : Nat → Value := fun j => if j < k then y j else x j
theorem mix_zero (x y : Nat → Value) : mix x y 0 = x := by funext j; simp [mix]
theorem mix_succ (x y : Nat → Value) (k : Nat) : mix x y (k + 1) = updv (mix x y k) k (y k) := by
  funext j
  unfold mix updv
  by_cases h : j = k
  · subst h; simp
  · rw [if_neg h]
    by_cases h2 : j < k
    · simp [h2, show j < k + 1 by omega]
    · simp [h2, show ¬ j < k + 1 by omega]
theorem same_mix {l : List Oper} (hnd : (dsts l).Nodup) (hap : apartB l ops = true) (hsel : Region.noSelect l.toArray = true) {o : Oper} (ho : o ∈ l) (x y : Nat → Value) (a : Act)
    (hd : ∀ e ∈ o.after, Region.binds .any e = true → x e.on = y e.on) : ∀ k, k ≤ l.length →
    execOp (putAll l 0 (mix x y k) a).eval o = execOp (putAll l 0 x a).eval o ∧ Region.wanted o (yielded ops (putAll l 0 (mix x y k) a).tmps) = Region.wanted o (yielded ops (putAll l 0 x a).tmps) := by
  intro k
  induction k with
  | zero => intro _; rw [mix_zero]; exact ⟨rfl, rfl⟩
  | succ k ih =>
    intro hk
    have ih := ih (by omega)
    have hp : l[k]? = some l[k] := List.getElem?_eq_getElem (by omega)
    rcases apartB_spec hap ho hp with ⟨e, he, hb, heq⟩ | h
    · have e1 : mix x y (k + 1) = mix x y k := by
        rw [mix_succ]
        funext j
        unfold updv
        split
        · rename_i h; subst h
          have := hd e he hb
          rw [heq] at this
          simp [mix, this]
        · rfl
      rw [e1]; exact ih
    · have e1 : putAll l 0 (mix x y (k + 1)) a = (putAll l 0 (mix x y k) a).put l[k].dst (y k) := by
        rw [mix_succ, putAll_upd l 0 k _ a l[k] (y k) hnd hp, Nat.zero_add]
      have hs : ∀ cs b, o.op ≠ .select cs b := by
        obtain ⟨i, hi⟩ := List.mem_iff_getElem?.1 ho
        exact fun cs b => Region.noSelect_spec hsel i o cs b (by simpa using hi)
      rw [e1, execOp_put o hs _ _ _ h, wanted_put o _ _ _ h]
      exact ih
theorem putAll_agree : ∀ (l : List Oper) (i : Nat) (x y : Nat → Value) (a : Act), (∀ j, i ≤ j → j < i + l.length → x j = y j) → putAll l i x a = putAll l i y a
  | [], _, _, _, _, _ => rfl
  | o :: l, i, x, y, a, h => by
    unfold putAll
    rw [h i (Nat.le_refl _) (by simp)]
    exact putAll_agree l (i + 1) x y _ fun j hj hl => h j (by omega) (by simp; omega)
theorem putAll_append : ∀ (l1 l2 : List Oper) (i : Nat) (x : Nat → Value) (a : Act), putAll (l1 ++ l2) i x a = putAll l2 (i + l1.length) x (putAll l1 i x a)
  | [], _, _, _, _ => rfl
  | o :: l1, l2, i, x, a => by
    rw [List.cons_append]
    unfold putAll
    rw [putAll_append l1 l2 (i + 1) x _, show i + (o :: l1).length = i + 1 + l1.length by simp; omega]
    cases l2 <;> rfl
theorem putAll_other : ∀ (l : List Oper) (i : Nat) (x : Nat → Value) (a : Act) (d : Tmp), d ∉ dsts l → (putAll l i x a).tmps.getD d undef = a.tmps.getD d undef
  | [], _, _, _, _, _ => rfl
  | o :: l, i, x, a, d, h => by
    unfold putAll
    have h2 : d ∉ dsts l := fun hm => h (by
      unfold dsts at *
      simp only [List.mem_filterMap] at *
      obtain ⟨o', h1, h2⟩ := hm
      exact ⟨o', List.mem_cons_of_mem _ h1, h2⟩)
    rw [putAll_other l (i + 1) x _ d h2]
    cases ho : o.dst with
    | none => rfl
    | some t =>
      have hne : t ≠ d := fun e => h (by subst e; unfold dsts; exact List.mem_filterMap.2 ⟨o, List.mem_cons_self, ho⟩)
      simp only [Act.put, Array.getD_eq_getD_getElem?]
      rw [Array.getElem?_setIfInBounds_ne hne]
theorem nodup_apart {l : List Oper} (hn : (dsts l).Nodup) {k j : Nat} {p : Oper} {d : Tmp} (hp : l[k + j]? = some p) (hd : p.dst = some d) : d ∉ dsts (l.take k) := by
  have hs : l = l.take k ++ l.drop k := (List.take_append_drop k l).symm
  have hds : dsts l = dsts (l.take k) ++ dsts (l.drop k) := by
    conv => lhs; rw [hs]
    unfold dsts
    rw [List.filterMap_append]
  rw [hds, List.nodup_append] at hn
  intro hm
  have hm2 : d ∈ dsts (l.drop k) := by
    unfold dsts
    refine List.mem_filterMap.2 ⟨p, List.mem_iff_getElem?.2 ⟨j, ?_⟩, hd⟩
    rw [List.getElem?_drop]; exact hp
  exact hn.2.2 d hm d hm2 rfl
theorem rep_false {n j : Nat} (h : j < (Array.replicate n false).size) : (Array.replicate n false).getD j true = false := by
  have : j < n := by simpa using h
  simp [this]
/-- what an operation does hangs on what it waits for alone -/
theorem same_frame {l : List Oper} (hnd : (dsts l).Nodup) (hap : apartB l ops = true) (hsel : Region.noSelect l.toArray = true) {o : Oper} (ho : o ∈ l) (x y : Nat → Value) (a : Act)
    (hd : ∀ e ∈ o.after, Region.binds .any e = true → x e.on = y e.on) :
    execOp (putAll l 0 y a).eval o = execOp (putAll l 0 x a).eval o ∧ Region.wanted o (yielded ops (putAll l 0 y a).tmps) = Region.wanted o (yielded ops (putAll l 0 x a).tmps) := by
  have h := same_mix hnd hap hsel ho x y a hd l.length (Nat.le_refl _)
  have e : putAll l 0 (mix x y l.length) a = putAll l 0 y a := putAll_agree l 0 _ _ a fun j _ hj => by simp [mix, show j < l.length by omega]
  rw [e] at h
  exact h

/-- what the lexical walk shows: a value for each operation -/
theorem quiet_vals {K : Act → Prop} : ∀ (l : List Oper) (i : Nat) (a : Act), wpQuiet P ops C K l a →
    ∃ y : Nat → Value, (∀ k o, l[k]? = some o → YieldsIn P ops C o (y (i + k)) (putAll (l.take k) i y a)) ∧ K (putAll l i y a)
  | [], _, _, h => ⟨fun _ => undef, fun k o ho => by simp at ho, h⟩
  | o :: l, i, a, h => by
    have hv : ∃ v, YieldsIn P ops C o v a ∧ wpQuiet P ops C K l (a.put o.dst v) := by
      unfold wpQuiet at h
      by_cases hw : Region.wanted o (yielded ops a.tmps) = true
      · rw [if_pos hw] at h
        obtain ⟨v, h1, h2⟩ := h
        exact ⟨v, .inl ⟨hw, h1⟩, h2⟩
      · rw [if_neg hw] at h
        exact ⟨undef, .inr ⟨by simpa using hw, rfl⟩, h⟩
    obtain ⟨v, hy, hK⟩ := hv
    obtain ⟨y, h1, h2⟩ := quiet_vals l (i + 1) _ hK
    have e : ∀ j, i + 1 ≤ j → updv y i v j = y j := fun j hj => updv_other _ _ _ _ (by omega)
    refine ⟨updv y i v, fun k p hp => ?_, ?_⟩
    · cases k with
      | zero =>
        simp at hp
        subst hp
        rw [Nat.add_zero, updv_same]
        exact hy
      | succ k =>
        have := h1 k p (by simpa using hp)
        rw [show i + (k + 1) = i + 1 + k by omega, e _ (by omega)]
        rw [List.take_succ_cons]
        unfold putAll
        rw [updv_same, putAll_congr _ (i + 1) (updv y i v) y _ e]
        exact this
    · unfold putAll
      rw [updv_same, putAll_congr _ (i + 1) (updv y i v) y _ e]
      exact h2

/-- edges go back; an operation of the tail waits, by way of others, for all ahead of it -/
def confT (ops : Array Oper) (m : Nat) : Bool :=
  (List.range ops.size).all fun i => match ops[i]? with
    | none => false
    | some o => o.after.all (fun e => decide (e.on < i)) && (decide (i < m) || (List.range i).all fun j => (List.range (i + 1)).any fun k => decide (j < k) && match ops[k]? with
      | some p => p.after.any fun e => Region.binds .any e && e.on == j
      | none => false)
theorem confT_spec {m : Nat} (h : confT ops m = true) {i : Nat} {o : Oper} (ho : ops[i]? = some o) : (∀ e ∈ o.after, e.on < i) ∧ (m ≤ i → ∀ j, j < i → ∃ k p, j < k ∧ k ≤ i ∧ ops[k]? = some p ∧ ∃ e ∈ p.after, Region.binds .any e = true ∧ e.on = j) := by
  have hi := (Array.getElem?_eq_some_iff.1 ho).1
  have h1 := List.all_eq_true.1 h i (List.mem_range.2 hi)
  simp only [ho, Bool.and_eq_true, Bool.or_eq_true, decide_eq_true_eq] at h1
  refine ⟨fun e he => ?_, fun hm j hj => ?_⟩
  · have := Array.all_eq_true_iff_forall_mem.1 h1.1 e he
    simpa using this
  · rcases h1.2 with h2 | h2
    · omega
    · have h3 := List.all_eq_true.1 h2 j (List.mem_range.2 hj)
      obtain ⟨k, hk, hk2⟩ := List.any_eq_true.1 h3
      have hk1 := List.mem_range.1 hk
      simp only [Bool.and_eq_true, decide_eq_true_eq] at hk2
      obtain ⟨hjk, hk3⟩ := hk2
      cases hp : ops[k]? with
      | none => rw [hp] at hk3; cases hk3
      | some p =>
        rw [hp] at hk3
        obtain ⟨e, he, hb⟩ := Array.any_eq_true'.1 hk3
        simp only [Bool.and_eq_true, beq_iff_eq] at hb
        exact ⟨k, p, hjk, by omega, hp, e, he, hb.1, hb.2⟩
/-- what has come up waited for what has come up -/
def Closed (ops : Array Oper) (listed : Array Bool) : Prop := ∀ j o, ops[j]? = some o → listed.getD j true = true → ∀ e ∈ o.after, Region.binds .any e = true → listed.getD e.on true = true
theorem ready_all {m : Nat} (hB : confT ops m = true) {listed : Array Bool} (hs : listed.size = ops.size) (hc : Closed ops listed) {i : Nat} (hi : i ∈ Region.ready .any ops listed) (hm : m ≤ i) : ∀ j, j < i → listed.getD j true = true := by
  obtain ⟨h1, o, ho, hall⟩ := mem_ready.1 hi
  have hin := (Array.getElem?_eq_some_iff.1 ho).1
  have key : ∀ d j, i - j = d → j < i → listed.getD j true = true := by
    intro d
    induction d using Nat.strongRecOn with
    | ind d ih =>
      intro j hd hj
      obtain ⟨k, p, hjk, hki, hp, e, he, hb, heq⟩ := (confT_spec hB ho).2 hm j hj
      by_cases h : k = i
      · subst h
        have : p = o := Option.some.inj (hp.symm.trans ho)
        subst this
        have h3 := hall e he hb
        rw [heq] at h3
        have h5 : j < listed.size := by omega
        simpa [h5] using h3
      · have := hc k p hp (ih (i - k) (by omega) k rfl (by omega)) e he hb
        rwa [heq] at this
  exact fun j hj => key _ j rfl hj
theorem Closed.set {listed : Array Bool} (hs : listed.size = ops.size) (hc : Closed ops listed) {i : Nat} (hi : i ∈ Region.ready .any ops listed) : Closed ops (listed.setIfInBounds i true) := by
  obtain ⟨h1, o, ho, hall⟩ := mem_ready.1 hi
  have hin := (Array.getElem?_eq_some_iff.1 ho).1
  have up : ∀ j, listed.getD j true = true → (listed.setIfInBounds i true).getD j true = true := by
    intro j hj
    by_cases e : i = j
    · subst e
      have h5 : i < listed.size := by omega
      simp [h5]
    · rw [getD_set_ne true e]; exact hj
  intro j p hp hl e he hb
  by_cases hji : i = j
  · subst hji
    have : p = o := Option.some.inj (hp.symm.trans ho)
    subst this
    have h3 := hall e he hb
    refine up _ ?_
    rcases Nat.lt_or_ge e.on listed.size with h | h
    · simpa [h] using h3
    · simp [h]
  · rw [getD_set_ne true hji] at hl
    exact up _ (hc j p hp hl e he hb)

/-- the tail -/
theorem qt_tail {m : Nat} (hB : confT ops m = true) : ∀ (fuel k : Nat) (listed : Array Bool) (a : Act) (w : World), m ≤ k → k ≤ ops.size → ops.size - k ≤ fuel → listed.size = ops.size →
    (∀ j, j < ops.size → listed.getD j true = decide (j < k)) → Closed ops listed → wpList P ops Q (ops.toList.drop k) a w → wpAny P .any ops Q fuel listed a w := by
  intro fuel
  induction fuel with
  | zero =>
    intro k listed a w hm hk hf hs hl hc h
    have hkn : k = ops.size := by omega
    subst hkn
    rw [List.drop_of_length_le (by simp)] at h
    refine wpAny_done ?_ h 0
    rw [List.eq_nil_iff_forall_not_mem]
    intro j hj
    obtain ⟨h1, o, ho, -⟩ := mem_ready.1 hj
    have hjn := (Array.getElem?_eq_some_iff.1 ho).1
    rw [hl j hjn] at h1
    simp at h1
    omega
  | succ fuel ih =>
    intro k listed a w hm hk hf hs hl hc h
    rcases Nat.lt_or_ge k ops.size with hlt | hge
    · have ho : ops[k]? = some ops[k] := Array.getElem?_eq_getElem hlt
      have hd : ops.toList.drop k = ops[k] :: ops.toList.drop (k + 1) := by
        rw [List.drop_eq_getElem_cons (by simpa using hlt)]
        simp
      rw [hd] at h
      have hmem : k ∈ Region.ready .any ops listed := by
        refine mem_ready.2 ⟨by rw [hl k hlt]; simp, _, ho, fun e he _ => ?_⟩
        have h1 := (confT_spec hB ho).1 e he
        have h2 := hl e.on (by omega)
        rw [decide_eq_true h1] at h2
        have h3 : e.on < listed.size := by omega
        simpa [h3] using h2
      refine ⟨fun h0 => (by rw [h0] at hmem; cases hmem), fun i hi => ?_⟩
      obtain ⟨h1, o, hoi, hall⟩ := mem_ready.1 hi
      have hin := (Array.getElem?_eq_some_iff.1 hoi).1
      have hki : k ≤ i := by
        rw [hl i hin] at h1
        simp at h1
        exact h1
      have hik : i = k := by
        rcases Nat.lt_or_ge k i with h2 | h2
        · have h3 := ready_all hB hs hc hi (by omega) k h2
          rw [hl k hlt] at h3
          simp at h3
        · omega
      subst hik
      refine wpOp_mono (fun a' w' h' => ih (i + 1) (listed.setIfInBounds i true) a' w' (by omega) (by omega) (by omega) (by simpa using hs) (fun j hj => ?_) (hc.set hs hi) h') (wpOp_list ho _ a w h)
      by_cases e : i = j
      · subst e
        have h5 : i < listed.size := by omega
        simp [h5]
      · rw [getD_set_ne true e, hl j hj]
        congr 1
        rw [eq_iff_iff]
        omega
    · have hkn : k = ops.size := by omega
      subst hkn
      rw [List.drop_of_length_le (by simp)] at h
      refine wpAny_done ?_ h _
      rw [List.eq_nil_iff_forall_not_mem]
      intro j hj
      obtain ⟨h1, o, ho, -⟩ := mem_ready.1 hj
      have hjn := (Array.getElem?_eq_some_iff.1 ho).1
      rw [hl j hjn] at h1
      simp at h1
      omega

theorem qt_head {m : Nat} (hB : confT ops m = true) (hmn : m ≤ ops.size) {F : (Nat → Value) → Act} {y : Nat → Value}
    (hF : ∀ i o x v, i < m → ops[i]? = some o → (F x).put o.dst v = F (updv x i v))
    (hstep : ∀ i o x, i < m → ops[i]? = some o → (∀ e ∈ o.after, Region.binds .any e = true → x e.on = y e.on) → YieldsIn P ops C o (y i) (F x))
    (hend : ∀ x w, C w → (∀ i, i < m → x i = y i) → wpList P ops Q (ops.toList.drop m) (F x) w) :
    ∀ (fuel : Nat) (listed : Array Bool) (x : Nat → Value) (w : World), (unl ops listed).length ≤ fuel → listed.size = ops.size → (∀ j, m ≤ j → j < ops.size → listed.getD j true = false) → Closed ops listed → C w →
      (∀ i, i < m → listed.getD i true = true → x i = y i) → wpAny P .any ops Q fuel listed (F x) w := by
  intro fuel
  induction fuel with
  | zero =>
    intro listed x w hf hs ht hc hb hr
    have hall : ∀ j, j < ops.size → listed.getD j true = true := by
      intro j hj
      cases hc : listed.getD j true
      · have : j ∈ unl ops listed := mem_unl.2 ⟨hj, hc⟩
        rw [List.length_eq_zero_iff.1 (Nat.le_zero.1 hf)] at this
        cases this
      · rfl
    have hm : m = ops.size := by
      rcases Nat.lt_or_ge m ops.size with h | h
      · have := ht m (Nat.le_refl _) h
        rw [hall m h] at this
        cases this
      · omega
    refine qt_tail hB 0 m listed _ w (Nat.le_refl _) hmn (by omega) hs (fun j hj => by rw [hall j hj, decide_eq_true (by omega)]) hc (hend x w hb fun i hi => hr i hi (hall i (by omega)))
  | succ fuel ih =>
    intro listed x w hf hs ht hc hb hr
    by_cases hall : ∀ j, j < m → listed.getD j true = true
    · have hlen : ops.size - m ≤ fuel + 1 := by
        have hsub : (List.range' m (ops.size - m)).length ≤ (unl ops listed).length := by
          apply List.Nodup.length_le_of_subset
          · exact List.nodup_range'
          · intro j hj
            simp only [List.mem_range'_1] at hj
            have hjn : j < ops.size := by omega
            exact mem_unl.2 ⟨hjn, ht j hj.1 hjn⟩
        simp at hsub
        omega
      refine qt_tail hB (fuel + 1) m listed _ w (Nat.le_refl _) hmn hlen hs (fun j hj => ?_) hc (hend x w hb fun i hi => hr i hi (hall i hi))
      rcases Nat.lt_or_ge j m with h | h
      · rw [hall j h, decide_eq_true h]
      · rw [ht j h hj, decide_eq_false (by omega)]
    · refine ⟨fun h0 => ?_, fun i hi => ?_⟩
      · exfalso
        have hex : ∃ j, j < m ∧ listed.getD j true = false := by
          apply Classical.byContradiction
          intro hno
          exact hall fun j hj => by
            cases hc : listed.getD j true
            · exact absurd ⟨j, hj, hc⟩ hno
            · rfl
        have hmin : ∃ j, (j < m ∧ listed.getD j true = false) ∧ ∀ k, k < j → ¬ (k < m ∧ listed.getD k true = false) := by
          obtain ⟨j, hj⟩ := hex
          induction j using Nat.strongRecOn with
          | ind j ihj =>
            by_cases h : ∃ k, k < j ∧ (k < m ∧ listed.getD k true = false)
            · obtain ⟨k, hk, hk2⟩ := h
              exact ihj k hk hk2
            · exact ⟨j, hj, fun k hk hk2 => h ⟨k, hk, hk2⟩⟩
        obtain ⟨j, ⟨hjm, hj⟩, hlt⟩ := hmin
        have hjn : j < ops.size := by omega
        have ho : ops[j]? = some ops[j] := Array.getElem?_eq_getElem hjn
        have : j ∈ Region.ready .any ops listed := by
          refine mem_ready.2 ⟨hj, _, ho, fun e he _ => ?_⟩
          have h1 := (confT_spec hB ho).1 e he
          have h2 := hlt e.on h1
          have h3 : e.on < listed.size := by omega
          cases hc : listed.getD e.on true
          · exact absurd ⟨by omega, hc⟩ h2
          · simpa [h3] using hc
        rw [h0] at this
        cases this
      · obtain ⟨h1, o, ho, hdeps⟩ := mem_ready.1 hi
        have hin := (Array.getElem?_eq_some_iff.1 ho).1
        have him : i < m := by
          apply Classical.byContradiction
          intro hge
          apply hall
          intro j hj
          exact ready_all hB hs hc hi (by omega) j (by omega)
        have hdr : ∀ e ∈ o.after, Region.binds .any e = true → x e.on = y e.on := by
          intro e he hb'
          have h3 := hdeps e he hb'
          have h4 := (confT_spec hB ho).1 e he
          have h5 : e.on < listed.size := by omega
          exact hr e.on (by omega) (by simpa [h5] using h3)
        have st := hstep i o x him ho hdr
        refine wpOp_of_qOp (C := C) (K := fun a' => a' = F (updv x i (y i))) hb (fun a' w' hw' ha' => ?_) (st.qOp ho ?_)
        · subst ha'
          have hlt := unl_set hs hin h1
          refine ih _ _ w' (by omega) (by simpa using hs) (fun j hj hjn => ?_) (hc.set hs hi) hw' (fun j hj hl => ?_)
          · rw [getD_set_ne true (by omega)]
            exact ht j hj hjn
          · by_cases hji : j = i
            · subst hji; rw [updv_same]
            · rw [updv_other _ _ _ _ hji]
              rw [getD_set_ne true (fun e => hji e.symm)] at hl
              exact hr j hj hl
        · exact hF i o x (y i) him ho

/-- **A quiet head, then a tail in order.** -/
theorem wp_region_qt {id : Nat} {l : List Oper} {a0 : Act} {w0 : World} (m : Nat) (hm : P.follows .mixedOrders = true) (hB : confT l.toArray m = true) (hmn : m ≤ l.length) (hsel : Region.noSelect (l.take m).toArray = true) (hnd : (dsts (l.take m)).Nodup) (hap : apartB (l.take m) l.toArray = true)
    (hC : C w0.drew) (h : wpQuiet P l.toArray C (fun a' => ∀ w', C w' → wpList P l.toArray Q (l.drop m) a' w') (l.take m) a0) : (Code.region id l.toArray true).wp P Q a0 w0 := by
  obtain ⟨y, hy, hK⟩ := quiet_vals (l.take m) 0 a0 h
  have htk : ∀ i o, i < m → l.toArray[i]? = some o → (l.take m)[i]? = some o := fun i o hi ho => by
    rw [List.getElem?_take, if_pos hi]; simpa using ho
  have hlen : (l.take m).length = m := by rw [List.length_take]; omega
  have hheld : putAll (l.take m) 0 (held (l.take m) a0) a0 = a0 := putAll_held a0 _ 0 _ (fun k o ho d hd => by
    unfold held
    rw [Nat.zero_add, ho]
    simp only [hd])
  refine wp_region_any hm ?_
  have key := qt_head (P := P) (Q := Q) (C := C) (ops := l.toArray) (F := fun x => putAll (l.take m) 0 x a0) (y := y) hB (by simpa using hmn) ?_ ?_ ?_ l.toArray.size (Array.replicate l.toArray.size false) (held (l.take m) a0) w0.drew ?_ (by simp) (fun j hj hjn => rep_false (by simpa using hjn)) ?_ hC (fun i hi h => ?_)
  · simp only [hheld] at key
    exact key
  · intro i o x v hi ho
    have := putAll_upd (l.take m) 0 i x a0 o v hnd (htk i o hi ho)
    rw [Nat.zero_add] at this
    exact this
  · intro i o x hi ho hd
    have hi' := htk i o hi ho
    have h1 := hy i o hi'
    rw [Nat.zero_add] at h1
    have e1 : putAll ((l.take m).take i) 0 y a0 = putAll (l.take m) 0 (mix (held (l.take m) a0) y i) a0 := by
      have e2 : putAll (l.take m) 0 (mix (held (l.take m) a0) y i) a0 = putAll ((l.take m).drop i) i (mix (held (l.take m) a0) y i) (putAll ((l.take m).take i) 0 (mix (held (l.take m) a0) y i) a0) := by
        have := putAll_append ((l.take m).take i) ((l.take m).drop i) 0 (mix (held (l.take m) a0) y i) a0
        rw [List.take_append_drop] at this
        rw [this]
        congr 1
        rw [List.length_take]; omega
      have e3 : putAll ((l.take m).take i) 0 (mix (held (l.take m) a0) y i) a0 = putAll ((l.take m).take i) 0 y a0 := putAll_agree _ 0 _ _ _ fun j _ hj => by
        have : j < i := by rw [List.length_take] at hj; omega
        simp [mix, this]
      rw [e2, e3]
      refine (putAll_held _ _ _ _ fun k p hp d hd => ?_).symm
      have hk : (l.take m)[i + k]? = some p := by simpa using hp
      have hkm : i + k < m := by have := (List.getElem?_eq_some_iff.1 hk).1; omega
      show mix (held (l.take m) a0) y i (i + k) = _
      have e5 : mix (held (l.take m) a0) y i (i + k) = a0.tmps.getD d undef := by
        simp only [mix, show ¬ i + k < i by omega, if_false, held, hk, hd]
      rw [e5]
      exact (putAll_other ((l.take m).take i) 0 y a0 d (fun hmem => nodup_apart hnd hk hd hmem)).symm
    rw [e1] at h1
    have deps : ∀ e ∈ o.after, Region.binds .any e = true → x e.on = mix (held (l.take m) a0) y i e.on := by
      intro e he hb
      have := (confT_spec hB ho).1 e he
      rw [hd e he hb]
      simp [mix, this]
    obtain ⟨s1, s2⟩ := same_frame (ops := l.toArray) hnd hap hsel (List.mem_iff_getElem?.2 ⟨i, hi'⟩) (mix (held (l.take m) a0) y i) x a0 (fun e he hb => (deps e he hb).symm)
    exact h1.of_same s1 s2
  · intro x w hw hx
    have e : putAll (l.take m) 0 x a0 = putAll (l.take m) 0 y a0 := putAll_agree _ 0 _ _ _ fun j _ hj => hx j (by omega)
    simp only [e]
    have := hK w hw
    simpa using this
  · have := List.length_filter_le (fun i => !(Array.replicate l.toArray.size false).getD i true) (List.range l.toArray.size)
    simpa [unl] using this
  · intro j o ho hl
    have hj := (Array.getElem?_eq_some_iff.1 ho).1
    rw [rep_false (by simpa using hj)] at hl
    cases hl
  · have : i < l.length := by omega
    simp [this] at h
theorem wantedY {o : Oper} {ops : Array Oper} {tmps : Array Value} {j d : Nat} {want : Bool} (h : o.guard = some (j, want)) (hd : (ops[j]?).bind (·.dst) = some d) (hv : tmps[d]? = some (.bool want)) : Region.wanted o (yielded ops tmps) = true := by
  unfold Region.wanted yielded
  simp [h, hd, hv]
/-- a call that leaves the world alone, in a quiet walk -/
theorem quiet_same {f : FuncId} {args : Array Value} {W : World} {v : Value} {g : Nat → World} (h : Calls P f args W fun e w' => e = .returned v ∧ W = w') (hm : ∃ m, W = g m) :
    Calls P f args W fun e w'' => e = .returned v ∧ ∃ m, w'' = g m := h.mono fun _ _ ⟨he, hw⟩ => ⟨he, by obtain ⟨m, hm⟩ := hm; exact ⟨m, hw.symm.trans hm⟩⟩
/-- the closed facts, at once -/
def qtB (l : List Oper) (m : Nat) : Bool := confT l.toArray m && decide (m ≤ l.length) && Region.noSelect (l.take m).toArray && decide (dsts (l.take m)).Nodup && apartB (l.take m) l.toArray
/-- .. at the class 'w after some draws' -/
theorem wp_region_qt' {id : Nat} {l : List Oper} {a0 : Act} {w0 : World} (m : Nat) (hm : P.follows .mixedOrders = true) (hB : qtB l m = true)
    (h : wpQuiet P l.toArray (fun w' => ∃ n, w' = w0.drewN n) (fun a' => ∀ w', (∃ n, w' = w0.drewN n) → wpList P l.toArray Q (l.drop m) a' w') (l.take m) a0) : (Code.region id l.toArray true).wp P Q a0 w0 := by
  simp only [qtB, Bool.and_eq_true, decide_eq_true_eq] at hB
  obtain ⟨⟨⟨⟨h1, h2⟩, h3⟩, h4⟩, h5⟩ := hB
  exact wp_region_qt m hm h1 h2 h3 h4 h5 ⟨1, rfl⟩ h
/-- .. at the class 'what comes of w by new memory' -/
theorem wp_region_qx {id : Nat} {l : List Oper} {a0 : Act} {w0 : World} (m : Nat) (hm : P.follows .mixedOrders = true) (hB : qtB l m = true)
    (h : wpQuiet P l.toArray (fun w' => ∃ x, w' = exw w0 x) (fun a' => ∀ w', (∃ x, w' = exw w0 x) → wpList P l.toArray Q (l.drop m) a' w') (l.take m) a0) : (Code.region id l.toArray true).wp P Q a0 w0 := by
  simp only [qtB, Bool.and_eq_true, decide_eq_true_eq] at hB
  obtain ⟨⟨⟨⟨h1, h2⟩, h3⟩, h4⟩, h5⟩ := hB
  exact wp_region_qt m hm h1 h2 h3 h4 h5 ⟨⟨_, below_drewN1 w0⟩, rfl⟩ h
end
end Go.Proofs.YtapednkmefbldaaDoor
