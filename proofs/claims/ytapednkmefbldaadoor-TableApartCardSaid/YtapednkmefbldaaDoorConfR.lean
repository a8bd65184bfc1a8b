/- A region that draws its order, op by op, with any relation between worlds (in Below's place); the tail waits for the head through others too. -/
import Derived.Test.YtapednkmefbldaaDoorQt
namespace Go.Proofs.YtapednkmefbldaaDoor
open Go.RowKit

/-- it holds of a world and itself, goes on, and holds of a draw -/
def Kept (Rel : World → World → Prop) : Prop := (∀ w, Rel w w) ∧ (∀ a b c, Rel a b → Rel b c → Rel a c) ∧ ∀ w : World, Rel w w.drew
section
variable {P : Program} {ops : Array Oper} {Q : Exit → Act → World → Prop}
/-- What one operation does, in a frame where what it waits for has come up. -/
@[irreducible] def ConfStepR (Rel : World → World → Prop) (P : Program) (ops : Array Oper) (Q : Exit → Act → World → Prop) (F : (Nat → Value) → Act) (R : Nat → Value → World → Prop) (i : Nat) (o : Oper) (x : Nat → Value) (w : World) : Prop :=
  if Region.wanted o (yielded ops (F x).tmps) then o.wp P (F x) w (fun a' w' => ∃ v, a' = (F x).put o.dst v ∧ Rel w w' ∧ R i v w') Q
  else R i undef w

theorem conf_headR {Rel : World → World → Prop} (hT : Kept Rel) {m : Nat} (hB : confT ops m = true) (hmn : m ≤ ops.size) {W : World} {F : (Nat → Value) → Act} {R : Nat → Value → World → Prop}
    (hF : ∀ i o x v, i < m → ops[i]? = some o → (F x).put o.dst v = F (updv x i v))
    (hR : ∀ i v w w', i < m → R i v w → Rel w w' → R i v w')
    (hstep : ∀ i o x w, i < m → ops[i]? = some o → Rel W w → (∀ e ∈ o.after, Region.binds .any e = true → R e.on (x e.on) w) → ConfStepR Rel P ops Q F R i o x w)
    (hend : ∀ x w, Rel W w → (∀ i, i < m → R i (x i) w) → wpList P ops Q (ops.toList.drop m) (F x) w) :
    ∀ (fuel : Nat) (listed : Array Bool) (x : Nat → Value) (w : World), (unl ops listed).length ≤ fuel → listed.size = ops.size → Closed ops listed → (∀ j, m ≤ j → j < ops.size → listed.getD j true = false) → Rel W w →
      (∀ i, i < m → listed.getD i true = true → R i (x i) w) → wpAny P .any ops Q fuel listed (F x) w := by
  intro fuel
  induction fuel with
  | zero =>
    intro listed x w hf hs hcl ht hb hr
    have hall : ∀ j, j < ops.size → listed.getD j true = true := by
      intro j hj
      cases hc : listed.getD j true
      · have : j ∈ unl ops listed := mem_unl.2 ⟨hj, hc⟩
        rw [List.length_eq_zero_iff.1 (Nat.le_zero.1 hf)] at this
        cases this
      · rfl
    have hm : m = ops.size := by
      rcases Nat.lt_or_ge m ops.size with h | h
      · have := ht m (Nat.le_refl _) h
        rw [hall m h] at this
        cases this
      · omega
    refine qt_tail hB 0 m listed _ w (Nat.le_refl _) hmn (by omega) hs (fun j hj => by rw [hall j hj, decide_eq_true (by omega)]) hcl (hend x w hb fun i hi => hr i hi (hall i (by omega)))
  | succ fuel ih =>
    intro listed x w hf hs hcl ht hb hr
    by_cases hall : ∀ j, j < m → listed.getD j true = true
    · have hlen : ops.size - m ≤ fuel + 1 := by
        have hsub : (List.range' m (ops.size - m)).length ≤ (unl ops listed).length := by
          apply List.Nodup.length_le_of_subset
          · exact List.nodup_range'
          · intro j hj
            simp only [List.mem_range'_1] at hj
            have hjn : j < ops.size := by omega
            exact mem_unl.2 ⟨hjn, ht j hj.1 hjn⟩
        simp at hsub
        omega
      refine qt_tail hB (fuel + 1) m listed _ w (Nat.le_refl _) hmn hlen hs (fun j hj => ?_) hcl (hend x w hb fun i hi => hr i hi (hall i hi))
      rcases Nat.lt_or_ge j m with h | h
      · rw [hall j h, decide_eq_true h]
      · rw [ht j h hj, decide_eq_false (by omega)]
    · refine ⟨fun h0 => ?_, fun i hi => ?_⟩
      · -- the least one that has not come up is ready
        exfalso
        have hex : ∃ j, j < m ∧ listed.getD j true = false := by
          apply Classical.byContradiction
          intro hno
          exact hall fun j hj => by
            cases hc : listed.getD j true
            · exact absurd ⟨j, hj, hc⟩ hno
            · rfl
        have hmin : ∃ j, (j < m ∧ listed.getD j true = false) ∧ ∀ k, k < j → ¬ (k < m ∧ listed.getD k true = false) := by
          obtain ⟨j, hj⟩ := hex
          induction j using Nat.strongRecOn with
          | ind j ihj =>
            by_cases h : ∃ k, k < j ∧ (k < m ∧ listed.getD k true = false)
            · obtain ⟨k, hk, hk2⟩ := h
              exact ihj k hk hk2
            · exact ⟨j, hj, fun k hk hk2 => h ⟨k, hk, hk2⟩⟩
        obtain ⟨j, ⟨hjm, hj⟩, hlt⟩ := hmin
        have hjn : j < ops.size := by omega
        have ho : ops[j]? = some ops[j] := Array.getElem?_eq_getElem hjn
        have : j ∈ Region.ready .any ops listed := by
          refine mem_ready.2 ⟨hj, _, ho, fun e he _ => ?_⟩
          have h1 := (confT_spec hB ho).1 e he
          have h2 := hlt e.on h1
          have h3 : e.on < listed.size := by omega
          cases hc : listed.getD e.on true
          · exact absurd ⟨by omega, hc⟩ h2
          · simpa [h3] using hc
        rw [h0] at this
        cases this
      · obtain ⟨h1, o, ho, hdeps⟩ := mem_ready.1 hi
        have hin := (Array.getElem?_eq_some_iff.1 ho).1
        have him : i < m := by
          apply Classical.byContradiction
          intro hge
          apply hall
          intro j hj
          exact ready_all hB hs hcl hi (by omega) j (by omega)
        have hdr : ∀ e ∈ o.after, Region.binds .any e = true → R e.on (x e.on) w := by
          intro e he hb'
          have h3 := hdeps e he hb'
          have h4 := (confT_spec hB ho).1 e he
          have h5 : e.on < listed.size := by omega
          exact hr e.on (by omega) (by simpa [h5] using h3)
        have st := hstep i o x w him ho hb hdr
        have next : ∀ v w', Rel w w' → R i v w' → wpAny P .any ops Q fuel (listed.setIfInBounds i true) ((F x).put o.dst v) w' := by
          intro v w' hb' hv
          rw [hF i o x v him ho]
          have hlt := unl_set hs hin h1
          refine ih _ _ w' (by omega) (by simpa using hs) (hcl.set hs hi) (fun j hj hjn => ?_) (hT.2.1 _ _ _ hb hb') (fun j hj hl => ?_)
          · rw [getD_set_ne true (by omega)]
            exact ht j hj hjn
          · by_cases hji : j = i
            · subst hji; rw [updv_same]; exact hv
            · rw [updv_other _ _ _ _ hji]
              rw [getD_set_ne true (fun e => hji e.symm)] at hl
              exact hR j _ w w' hj (hr j hj hl) hb'
        unfold wpOp
        simp only [ho]
        unfold ConfStepR at st
        split
        · rename_i hw
          rw [if_pos hw] at st
          refine .inl (Oper.wp_mono (fun a' w' h' => ?_) st)
          obtain ⟨v, rfl, hb', hv⟩ := h'
          exact next v w' hb' hv
        · rename_i hw
          rw [if_neg hw] at st
          exact next undef w (hT.1 _) st

/-- A region that draws its order, op by op. -/
theorem wp_region_confR {Rel : World → World → Prop} (hT : Kept Rel) {id : Nat} {a0 : Act} {w0 : World} (hm : P.follows .mixedOrders = true) (m : Nat) (hB : confT ops m = true) (hmn : m ≤ ops.size) (F : (Nat → Value) → Act) (R : Nat → Value → World → Prop) (x0 : Nat → Value) (hF0 : a0 = F x0)
    (hF : ∀ i o x v, i < m → ops[i]? = some o → (F x).put o.dst v = F (updv x i v))
    (hR : ∀ i v w w', i < m → R i v w → Rel w w' → R i v w')
    (hstep : ∀ i o x w, i < m → ops[i]? = some o → Rel w0 w → (∀ e ∈ o.after, Region.binds .any e = true → R e.on (x e.on) w) → ConfStepR Rel P ops Q F R i o x w)
    (hend : ∀ x w, Rel w0 w → (∀ i, i < m → R i (x i) w) → wpList P ops Q (ops.toList.drop m) (F x) w) : (Code.region id ops true).wp P Q a0 w0 := by
  subst hF0
  refine wp_region_any hm (conf_headR hT hB hmn hF hR hstep hend _ _ x0 _ ?_ (by simp) (fun j o _ h => by by_cases hj : j < ops.size; (· simp [hj] at h); (· rename_i ho; exact absurd (Array.getElem?_eq_some_iff.1 ho).1 hj)) (fun j hj hjn => by simp [hjn]) (hT.2.2 w0) (fun i hi h => ?_))
  · have := List.length_filter_le (fun i => !(Array.replicate ops.size false).getD i true) (List.range ops.size)
    simpa [unl] using this
  · have : i < ops.size := by omega
    simp [this] at h

def ConfStepsR (Rel : World → World → Prop) (P : Program) (ops : Array Oper) (Q : Exit → Act → World → Prop) (W : World) (F : (Nat → Value) → Act) (R : Nat → Value → World → Prop) : Nat → List Oper → Prop
  | _, [] => True
  | i, o :: l => (∀ x w, Rel W w → Deps R o x w → ConfStepR Rel P ops Q F R i o x w) ∧ ConfStepsR Rel P ops Q W F R (i + 1) l
theorem ConfStepsR.at {Rel : World → World → Prop} {W : World} {F : (Nat → Value) → Act} {R : Nat → Value → World → Prop} : ∀ (l : List Oper) (i : Nat), ConfStepsR Rel P ops Q W F R i l → ∀ k o, l[k]? = some o → ∀ x w, Rel W w → Deps R o x w → ConfStepR Rel P ops Q F R (i + k) o x w
  | [], _, _, _, _, h => by simp at h
  | p :: l, i, hs, 0, o, h => by
    simp at h
    subst h
    exact hs.1
  | p :: l, i, hs, k + 1, o, h => by
    have := ConfStepsR.at l (i + 1) hs.2 k o (by simpa using h)
    rw [show i + (k + 1) = i + 1 + k by omega]
    exact this
theorem wp_region_confR' {Rel : World → World → Prop} (hT : Kept Rel) {id : Nat} {l : List Oper} {a0 : Act} {w0 : World} (hm : P.follows .mixedOrders = true) (m : Nat) (hB : confT l.toArray m = true) (hmn : m ≤ l.length) (hnd : (dsts (l.take m)).Nodup) (R : Nat → Value → World → Prop)
    (hR : ∀ i v w w', i < m → R i v w → Rel w w' → R i v w')
    (hstep : ConfStepsR Rel P l.toArray Q w0 (fun x => putAll (l.take m) 0 x a0) R 0 (l.take m))
    (hend : ∀ x w, Rel w0 w → (∀ i, i < m → R i (x i) w) → wpList P l.toArray Q (l.drop m) (putAll (l.take m) 0 x a0) w) : (Code.region id l.toArray true).wp P Q a0 w0 := by
  have htk : ∀ i o, i < m → l.toArray[i]? = some o → (l.take m)[i]? = some o := fun i o hi ho => by
    rw [List.getElem?_take, if_pos hi]; simpa using ho
  refine wp_region_confR hT hm m hB (by simpa using hmn) (fun x => putAll (l.take m) 0 x a0) R (held (l.take m) a0) (putAll_held a0 _ 0 _ ?_).symm (fun i o x v hi ho => ?_) hR (fun i o x w hi ho hb hd => ?_) hend
  · intro k o ho d hd
    unfold held
    rw [Nat.zero_add, ho]
    simp only [hd]
  · have := putAll_upd (l.take m) 0 i x a0 o v hnd (htk i o hi ho)
    rw [Nat.zero_add] at this
    exact this
  · have := ConfStepsR.at _ 0 hstep i o (htk i o hi ho) x w hb hd
    rw [Nat.zero_add] at this
    exact this
/-- an operation that yields a value and leaves the world -/
theorem conf_valueR {Rel : World → World → Prop} (hT : Kept Rel) {F : (Nat → Value) → Act} {R : Nat → Value → World → Prop} {i : Nat} {o : Oper} {x : Nat → Value} {w : World} {v : Value} (hw : Region.wanted o (yielded ops (F x).tmps) = true)
    (hr : (execOp (F x).eval o).run P w = .ok (.value v) w) (h : R i v w) : ConfStepR Rel P ops Q F R i o x w := by
  unfold ConfStepR
  rw [if_pos hw]
  unfold Oper.wp
  rw [hr]
  exact ⟨v, rfl, hT.1 _, h⟩
/-- .. that makes memory -/
theorem conf_makeR {Rel : World → World → Prop} {F : (Nat → Value) → Act} {R : Nat → Value → World → Prop} {i : Nat} {o : Oper} {x : Nat → Value} {w w' : World} {v : Value} (hw : Region.wanted o (yielded ops (F x).tmps) = true)
    (hr : (execOp (F x).eval o).run P w = .ok (.value v) w') (hb : Rel w w') (h : R i v w') : ConfStepR Rel P ops Q F R i o x w := by
  unfold ConfStepR
  rw [if_pos hw]
  unfold Oper.wp
  rw [hr]
  exact ⟨v, rfl, hb, h⟩
/-- a call -/
theorem conf_callR {Rel : World → World → Prop} {F : (Nat → Value) → Act} {R : Nat → Value → World → Prop} {i : Nat} {o : Oper} {x : Nat → Value} {w : World} {f : FuncId} {args : Array Value} (hw : Region.wanted o (yielded ops (F x).tmps) = true)
    (hr : (execOp (F x).eval o).run P w = .ok (.enter f args) w) (hc : Calls P f args w fun e w' => ∃ v, e = .returned v ∧ Rel w w' ∧ R i v w') : ConfStepR Rel P ops Q F R i o x w := by
  unfold ConfStepR
  rw [if_pos hw]
  unfold Oper.wp
  rw [hr]
  exact hc.mono fun e w' ⟨v, he, hb, h⟩ => by subst he; exact ⟨v, rfl, hb, h⟩
theorem conf_skipR {Rel : World → World → Prop} {F : (Nat → Value) → Act} {R : Nat → Value → World → Prop} {i : Nat} {o : Oper} {x : Nat → Value} {w : World} (hw : Region.wanted o (yielded ops (F x).tmps) = false) (h : R i undef w) : ConfStepR Rel P ops Q F R i o x w := by
  unfold ConfStepR
  rw [if_neg (by rw [hw]; exact Bool.false_ne_true)]
  exact h
end
end Go.Proofs.YtapednkmefbldaaDoor
