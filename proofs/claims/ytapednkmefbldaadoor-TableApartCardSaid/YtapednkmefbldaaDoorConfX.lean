/- A region that draws its order, op by op, where what is known of an operation may speak of the values of those that it waits for (a store's of its address). -/
import Derived.Test.YtapednkmefbldaaDoorConfR
import Derived.Test.YtapednkmefbldaaDoorRowK
namespace Go.Proofs.YtapednkmefbldaaDoor
open Go.RowKit

/-- the operation at i waits for the one at k -/
def WaitsFor (ops : Array Oper) (i k : Nat) : Prop := ∃ o e, ops[i]? = some o ∧ e ∈ o.after ∧ Region.binds .any e = true ∧ e.on = k
def DepsX (R : Nat → (Nat → Value) → World → Prop) (o : Oper) (x : Nat → Value) (w : World) : Prop := ∀ e ∈ o.after, Region.binds .any e = true → R e.on x w
theorem DepsX.at {R : Nat → (Nat → Value) → World → Prop} {o : Oper} {x : Nat → Value} {w : World} (hd : DepsX R o x w) (j : Nat) (h : (o.after.toList.any fun e => Region.binds .any e && e.on == j) = true) : R j x w := by
  obtain ⟨e, he, hb⟩ := List.any_eq_true.1 h
  simp only [Bool.and_eq_true, beq_iff_eq] at hb
  have := hd e (Array.mem_toList_iff.1 he) hb.1
  rwa [hb.2] at this
section
variable {P : Program} {ops : Array Oper} {Q : Exit → Act → World → Prop}
/-- What one operation does, in a frame where what it waits for has come up. -/
@[irreducible] def ConfStepX (Rel : World → World → Prop) (P : Program) (ops : Array Oper) (Q : Exit → Act → World → Prop) (F : (Nat → Value) → Act) (R : Nat → (Nat → Value) → World → Prop) (i : Nat) (o : Oper) (x : Nat → Value) (w : World) : Prop :=
  if Region.wanted o (yielded ops (F x).tmps) then o.wp P (F x) w (fun a' w' => ∃ v, a' = (F x).put o.dst v ∧ Rel w w' ∧ R i (updv x i v) w') Q
  else R i (updv x i undef) w

def confA (ops : Array Oper) : Bool := (List.range ops.size).all fun i => match ops[i]? with
  | none => false
  | some o => o.after.all fun e => !(Region.binds .any e) || decide (e.on < i)
theorem confA_spec {ops : Array Oper} (h : confA ops = true) {i : Nat} {o : Oper} (ho : ops[i]? = some o) : ∀ e ∈ o.after, Region.binds .any e = true → e.on < i := by
  have hi := (Array.getElem?_eq_some_iff.1 ho).1
  have h1 := List.all_eq_true.1 h i (List.mem_range.2 hi)
  simp only [ho] at h1
  intro e he hb
  have h2 := Array.all_eq_true_iff_forall_mem.1 h1 e he
  rw [hb] at h2
  simpa using h2
theorem conf_headX {Rel : World → World → Prop} (hT : Kept Rel) {m : Nat} (hB : confA ops = true) (hmn : m = ops.size) {W : World} {F : (Nat → Value) → Act} {R : Nat → (Nat → Value) → World → Prop}
    (hF : ∀ i o x v, i < m → ops[i]? = some o → (F x).put o.dst v = F (updv x i v))
    (hR : ∀ i x w w', i < m → R i x w → Rel w w' → R i x w')
    (hD : ∀ i x y w, i < m → (∀ k, (k = i ∨ WaitsFor ops i k) → x k = y k) → R i x w → R i y w)
    (hstep : ∀ i o x w, i < m → ops[i]? = some o → Rel W w → (∀ e ∈ o.after, Region.binds .any e = true → R e.on x w) → ConfStepX Rel P ops Q F R i o x w)
    (hend : ∀ x w, Rel W w → (∀ i, i < m → R i x w) → wpList P ops Q (ops.toList.drop m) (F x) w) :
    ∀ (fuel : Nat) (listed : Array Bool) (x : Nat → Value) (w : World), (unl ops listed).length ≤ fuel → listed.size = ops.size → Closed ops listed → (∀ j, m ≤ j → j < ops.size → listed.getD j true = false) → Rel W w →
      (∀ i, i < m → listed.getD i true = true → R i x w) → wpAny P .any ops Q fuel listed (F x) w := by
  subst hmn
  have done : ∀ (fuel : Nat) (listed : Array Bool) (x : Nat → Value) (w : World), (∀ j, j < ops.size → listed.getD j true = true) → Rel W w → (∀ i, i < ops.size → listed.getD i true = true → R i x w) → wpAny P .any ops Q fuel listed (F x) w := by
    intro fuel listed x w hall hb hr
    have he := hend x w hb fun i hi => hr i hi (hall i hi)
    rw [List.drop_of_length_le (by simp)] at he
    refine wpAny_done ?_ he fuel
    rw [List.eq_nil_iff_forall_not_mem]
    intro j hj
    obtain ⟨h1, o, ho, -⟩ := mem_ready.1 hj
    have hjn := (Array.getElem?_eq_some_iff.1 ho).1
    rw [hall j hjn] at h1
    cases h1
  intro fuel
  induction fuel with
  | zero =>
    intro listed x w hf hs hcl ht hb hr
    refine done 0 listed x w (fun j hj => ?_) hb hr
    cases hc : listed.getD j true
    · have : j ∈ unl ops listed := mem_unl.2 ⟨hj, hc⟩
      rw [List.length_eq_zero_iff.1 (Nat.le_zero.1 hf)] at this
      cases this
    · rfl
  | succ fuel ih =>
    intro listed x w hf hs hcl ht hb hr
    by_cases hall : ∀ j, j < ops.size → listed.getD j true = true
    · exact done (fuel + 1) listed x w hall hb hr
    · refine ⟨fun h0 => ?_, fun i hi => ?_⟩
      · exfalso
        have hex : ∃ j, j < ops.size ∧ listed.getD j true = false := by
          apply Classical.byContradiction
          intro hno
          exact hall fun j hj => by
            cases hc : listed.getD j true
            · exact absurd ⟨j, hj, hc⟩ hno
            · rfl
        have hmin : ∃ j, (j < ops.size ∧ listed.getD j true = false) ∧ ∀ k, k < j → ¬ (k < ops.size ∧ listed.getD k true = false) := by
          obtain ⟨j, hj⟩ := hex
          induction j using Nat.strongRecOn with
          | ind j ihj =>
            by_cases h : ∃ k, k < j ∧ (k < ops.size ∧ listed.getD k true = false)
            · obtain ⟨k, hk, hk2⟩ := h
              exact ihj k hk hk2
            · exact ⟨j, hj, fun k hk hk2 => h ⟨k, hk, hk2⟩⟩
        obtain ⟨j, ⟨hjn, hj⟩, hlt⟩ := hmin
        have ho : ops[j]? = some ops[j] := Array.getElem?_eq_getElem hjn
        have : j ∈ Region.ready .any ops listed := by
          refine mem_ready.2 ⟨hj, _, ho, fun e he hbe => ?_⟩
          have h1 := confA_spec hB ho e he hbe
          have h2 := hlt e.on h1
          have h3 : e.on < listed.size := by omega
          cases hc : listed.getD e.on true
          · exact absurd ⟨by omega, hc⟩ h2
          · simpa [h3] using hc
        rw [h0] at this
        cases this
      · obtain ⟨h1, o, ho, hdeps⟩ := mem_ready.1 hi
        have hin := (Array.getElem?_eq_some_iff.1 ho).1
        have hdr : ∀ e ∈ o.after, Region.binds .any e = true → R e.on x w := by
          intro e he hb'
          have h3 := hdeps e he hb'
          have h4 := confA_spec hB ho e he hb'
          have h5 : e.on < listed.size := by omega
          exact hr e.on (by omega) (by simpa [h5] using h3)
        have st := hstep i o x w hin ho hb hdr
        have next : ∀ v w', Rel w w' → R i (updv x i v) w' → wpAny P .any ops Q fuel (listed.setIfInBounds i true) ((F x).put o.dst v) w' := by
          intro v w' hb' hv
          rw [hF i o x v hin ho]
          have hlt := unl_set hs hin h1
          refine ih _ _ w' (by omega) (by simpa using hs) (hcl.set hs hi) (fun j hj hjn => absurd hjn (by omega)) (hT.2.1 _ _ _ hb hb') (fun j hj hl => ?_)
          by_cases hji : j = i
          · subst hji; exact hv
          · rw [getD_set_ne true (fun e => hji e.symm)] at hl
            refine hD j x _ w' hj (fun k hk => ?_) (hR j _ w w' hj (hr j hj hl) hb')
            rw [updv_other]
            rintro rfl
            rcases hk with hk | ⟨oj, e, hoj, he, hbe, hek⟩
            · exact hji hk.symm
            · have h5 := hcl j oj hoj hl e he hbe
              rw [hek] at h5
              rw [h5] at h1
              cases h1
        unfold wpOp
        simp only [ho]
        unfold ConfStepX at st
        split
        · rename_i hw
          rw [if_pos hw] at st
          refine .inl (Oper.wp_mono (fun a' w' h' => ?_) st)
          obtain ⟨v, rfl, hb', hv⟩ := h'
          exact next v w' hb' hv
        · rename_i hw
          rw [if_neg hw] at st
          exact next undef w (hT.1 _) st

/-- A region that draws its order, op by op. -/
theorem wp_region_confX {Rel : World → World → Prop} (hT : Kept Rel) {id : Nat} {a0 : Act} {w0 : World} (hm : P.follows .mixedOrders = true) (m : Nat) (hB : confA ops = true) (hmn : m = ops.size) (F : (Nat → Value) → Act) (R : Nat → (Nat → Value) → World → Prop) (x0 : Nat → Value) (hF0 : a0 = F x0)
    (hF : ∀ i o x v, i < m → ops[i]? = some o → (F x).put o.dst v = F (updv x i v))
    (hR : ∀ i x w w', i < m → R i x w → Rel w w' → R i x w')
    (hD : ∀ i x y w, i < m → (∀ k, (k = i ∨ WaitsFor ops i k) → x k = y k) → R i x w → R i y w)
    (hstep : ∀ i o x w, i < m → ops[i]? = some o → Rel w0 w → (∀ e ∈ o.after, Region.binds .any e = true → R e.on x w) → ConfStepX Rel P ops Q F R i o x w)
    (hend : ∀ x w, Rel w0 w → (∀ i, i < m → R i x w) → wpList P ops Q (ops.toList.drop m) (F x) w) : (Code.region id ops true).wp P Q a0 w0 := by
  subst hF0
  refine wp_region_any hm (conf_headX hT hB hmn hF hR hD hstep hend _ _ x0 _ ?_ (by simp) (fun j o _ h => by by_cases hj : j < ops.size; (· simp [hj] at h); (· rename_i ho; exact absurd (Array.getElem?_eq_some_iff.1 ho).1 hj)) (fun j hj hjn => by simp [hjn]) (hT.2.2 w0) (fun i hi h => ?_))
  · have := List.length_filter_le (fun i => !(Array.replicate ops.size false).getD i true) (List.range ops.size)
    simpa [unl] using this
  · have : i < ops.size := by omega
    simp [this] at h

def ConfStepsX (Rel : World → World → Prop) (P : Program) (ops : Array Oper) (Q : Exit → Act → World → Prop) (W : World) (F : (Nat → Value) → Act) (R : Nat → (Nat → Value) → World → Prop) : Nat → List Oper → Prop
  | _, [] => True
  | i, o :: l => (∀ x w, Rel W w → DepsX R o x w → ConfStepX Rel P ops Q F R i o x w) ∧ ConfStepsX Rel P ops Q W F R (i + 1) l
theorem ConfStepsX.at {Rel : World → World → Prop} {W : World} {F : (Nat → Value) → Act} {R : Nat → (Nat → Value) → World → Prop} : ∀ (l : List Oper) (i : Nat), ConfStepsX Rel P ops Q W F R i l → ∀ k o, l[k]? = some o → ∀ x w, Rel W w → DepsX R o x w → ConfStepX Rel P ops Q F R (i + k) o x w
  | [], _, _, _, _, h => by simp at h
  | p :: l, i, hs, 0, o, h => by
    simp at h
    subst h
    exact hs.1
  | p :: l, i, hs, k + 1, o, h => by
    have := ConfStepsX.at l (i + 1) hs.2 k o (by simpa using h)
    rw [show i + (k + 1) = i + 1 + k by omega]
    exact this
theorem wp_region_confX' {Rel : World → World → Prop} (hT : Kept Rel) {id : Nat} {l : List Oper} {a0 : Act} {w0 : World} (hm : P.follows .mixedOrders = true) (m : Nat) (hB : confA l.toArray = true) (hmn : m = l.length) (hnd : (dsts (l.take m)).Nodup) (R : Nat → (Nat → Value) → World → Prop)
    (hR : ∀ i x w w', i < m → R i x w → Rel w w' → R i x w')
    (hD : ∀ i x y w, i < m → (∀ k, (k = i ∨ WaitsFor l.toArray i k) → x k = y k) → R i x w → R i y w)
    (hstep : ConfStepsX Rel P l.toArray Q w0 (fun x => putAll (l.take m) 0 x a0) R 0 (l.take m))
    (hend : ∀ x w, Rel w0 w → (∀ i, i < m → R i x w) → wpList P l.toArray Q (l.drop m) (putAll (l.take m) 0 x a0) w) : (Code.region id l.toArray true).wp P Q a0 w0 := by
  have htk : ∀ i o, i < m → l.toArray[i]? = some o → (l.take m)[i]? = some o := fun i o hi ho => by
    rw [List.getElem?_take, if_pos hi]; simpa using ho
  refine wp_region_confX hT hm m hB (by simpa using hmn) (fun x => putAll (l.take m) 0 x a0) R (held (l.take m) a0) (putAll_held a0 _ 0 _ ?_).symm (fun i o x v hi ho => ?_) hR hD (fun i o x w hi ho hb hd => ?_) hend
  · intro k o ho d hd
    unfold held
    rw [Nat.zero_add, ho]
    simp only [hd]
  · have := putAll_upd (l.take m) 0 i x a0 o v hnd (htk i o hi ho)
    rw [Nat.zero_add] at this
    exact this
  · have := ConfStepsX.at _ 0 hstep i o (htk i o hi ho) x w hb hd
    rw [Nat.zero_add] at this
    exact this
/-- an operation that yields a value and leaves the world -/
theorem conf_valueX {Rel : World → World → Prop} (hT : Kept Rel) {F : (Nat → Value) → Act} {R : Nat → (Nat → Value) → World → Prop} {i : Nat} {o : Oper} {x : Nat → Value} {w : World} {v : Value} (hw : Region.wanted o (yielded ops (F x).tmps) = true)
    (hr : (execOp (F x).eval o).run P w = .ok (.value v) w) (h : R i (updv x i v) w) : ConfStepX Rel P ops Q F R i o x w := by
  unfold ConfStepX
  rw [if_pos hw]
  unfold Oper.wp
  rw [hr]
  exact ⟨v, rfl, hT.1 _, h⟩
/-- .. that makes memory -/
theorem conf_makeX {Rel : World → World → Prop} {F : (Nat → Value) → Act} {R : Nat → (Nat → Value) → World → Prop} {i : Nat} {o : Oper} {x : Nat → Value} {w w' : World} {v : Value} (hw : Region.wanted o (yielded ops (F x).tmps) = true)
    (hr : (execOp (F x).eval o).run P w = .ok (.value v) w') (hb : Rel w w') (h : R i (updv x i v) w') : ConfStepX Rel P ops Q F R i o x w := by
  unfold ConfStepX
  rw [if_pos hw]
  unfold Oper.wp
  rw [hr]
  exact ⟨v, rfl, hb, h⟩
/-- a call -/
theorem conf_callX {Rel : World → World → Prop} {F : (Nat → Value) → Act} {R : Nat → (Nat → Value) → World → Prop} {i : Nat} {o : Oper} {x : Nat → Value} {w : World} {f : FuncId} {args : Array Value} (hw : Region.wanted o (yielded ops (F x).tmps) = true)
    (hr : (execOp (F x).eval o).run P w = .ok (.enter f args) w) (hc : Calls P f args w fun e w' => ∃ v, e = .returned v ∧ Rel w w' ∧ R i (updv x i v) w') : ConfStepX Rel P ops Q F R i o x w := by
  unfold ConfStepX
  rw [if_pos hw]
  unfold Oper.wp
  rw [hr]
  exact hc.mono fun e w' ⟨v, he, hb, h⟩ => by subst he; exact ⟨v, rfl, hb, h⟩
theorem conf_skipX {Rel : World → World → Prop} {F : (Nat → Value) → Act} {R : Nat → (Nat → Value) → World → Prop} {i : Nat} {o : Oper} {x : Nat → Value} {w : World} (hw : Region.wanted o (yielded ops (F x).tmps) = false) (h : R i (updv x i undef) w) : ConfStepX Rel P ops Q F R i o x w := by
  unfold ConfStepX
  rw [if_neg (by rw [hw]; exact Bool.false_ne_true)]
  exact h
end
/-- a store's fact speaks of the value at k, all others of their own -/
def RX (S : Nat → Value → World → Prop) (j k : Nat) (S2 : Value → World → Prop) : Nat → (Nat → Value) → World → Prop := fun i x w => if i = j then S2 (x k) w else S i (x i) w
theorem RX.keep {Rel : World → World → Prop} {S : Nat → Value → World → Prop} {j k m : Nat} {S2 : Value → World → Prop} (h1 : ∀ i v w w', i < m → S i v w → Rel w w' → S i v w') (h2 : ∀ v w w', S2 v w → Rel w w' → S2 v w') :
    ∀ i x w w', i < m → RX S j k S2 i x w → Rel w w' → RX S j k S2 i x w' := by
  intro i x w w' hi h hb
  unfold RX at *
  split
  · rename_i e; rw [if_pos e] at h; exact h2 _ _ _ h hb
  · rename_i e; rw [if_neg e] at h; exact h1 _ _ _ _ hi h hb
theorem RX.dep {ops : Array Oper} {S : Nat → Value → World → Prop} {j k m : Nat} {S2 : Value → World → Prop} (hw : WaitsFor ops j k) :
    ∀ i x y w, i < m → (∀ q, (q = i ∨ WaitsFor ops i q) → x q = y q) → RX S j k S2 i x w → RX S j k S2 i y w := by
  intro i x y w hi hq h
  unfold RX at *
  split
  · rename_i e; rw [if_pos e] at h; subst e; rw [← hq k (.inr hw)]; exact h
  · rename_i e; rw [if_neg e] at h; rw [← hq i (.inl rfl)]; exact h
theorem waits_of {ops : Array Oper} {i k : Nat} (h : (match ops[i]? with | some o => o.after.toList.any (fun e => Region.binds .any e && e.on == k) | none => false) = true) : WaitsFor ops i k := by
  cases ho : ops[i]? with
  | none => rw [ho] at h; cases h
  | some o =>
    rw [ho] at h
    obtain ⟨e, he, hb⟩ := List.any_eq_true.1 h
    simp only [Bool.and_eq_true, beq_iff_eq] at hb
    exact ⟨o, e, ho, Array.mem_toList_iff.1 he, hb.1, hb.2⟩
section
variable {P : Program} {ops : Array Oper} {Q : Exit → Act → World → Prop} {Rel : World → World → Prop} {F : (Nat → Value) → Act} {R : Nat → (Nat → Value) → World → Prop} {i : Nat} {o : Oper} {x : Nat → Value} {w : World}
/-- a whole block is stored -/
theorem conf_storeX {T : TypeId} {n g : Nat} {cs old : Array Value} (hA : AggT P T n) (hw : Region.wanted o (yielded ops (F x).tmps) = true) (hl : StoreT o (F x) T g cs) (hg : Blk w g old T) (ho : old.size = n) (hn : cs.size = n)
    (h1 : cs.all (·.oneCell') = true) (hb : Rel w (w.setRow g cs)) (h : R i (updv x i undef) (w.setRow g cs)) : ConfStepX Rel P ops Q F R i o x w := by
  obtain ⟨-, hi⟩ := hA
  unfold StoreT at hl
  split at hl
  · rename_i t a b hop
    obtain ⟨rfl, hx, hy⟩ := hl
    unfold ConfStepX
    rw [if_pos hw]
    have hrun : (execOp (F x).eval o).run P w = .ok .skip (w.setRow g cs) := by
      unfold execOp
      simp only [hop, hx, hy, Instr.storeAt, Instr.sureAddr, Sem.run_bind, Sem.run_pure, Result.andThen_ok, run_storeVar_row _ g t t old cs hg (by rw [hi, hn]) (by rw [ho, hn]) h1]
    unfold Oper.wp
    rw [hrun]
    exact ⟨undef, rfl, hb, h⟩
  · exact hl.elim
/-- a whole block is loaded -/
theorem conf_loadX (hT : Kept Rel) {T : TypeId} {n g : Nat} {cs : Array Value} (hA : AggT P T n) (hw : Region.wanted o (yielded ops (F x).tmps) = true)
    (hl : LoadT o (F x) T g) (hg : Blk w g cs T) (hn : cs.size = n) (h : R i (updv x i (.agg cs)) w) : ConfStepX Rel P ops Q F R i o x w := by
  obtain ⟨⟨d, hu, hd⟩, hi⟩ := hA
  unfold LoadT at hl
  split at hl
  · rename_i t y ho
    obtain ⟨rfl, hx⟩ := hl
    refine conf_valueX hT hw ?_ h
    have hrun : (loadVar t ⟨g, 0, none⟩).run P w = .ok (.agg cs) w := by
      cases d <;> first | (cases hd; done) | exact run_loadVar_row w g t t cs (0, 0) _ hg hu rfl (by rw [hi, hn])
    unfold execOp
    simp only [ho, hx, Instr.loadAt, Instr.sureAddr, Sem.run_bind, Sem.run_pure, Result.andThen_ok, hrun]
  · exact hl.elim
/-- a part of a block is loaded -/
theorem conf_midX (hT : Kept Rel) {T TB : TypeId} {n g off : Nat} {cs big : Array Value} (hA : AggT P T n) (hw : Region.wanted o (yielded ops (F x).tmps) = true)
    (hl : LoadMid o (F x) T g off) (hg : Blk w g big TB) (hn : cs.size = n) (he : big.extract off (off + n) = cs) (h : R i (updv x i (.agg cs)) w) : ConfStepX Rel P ops Q F R i o x w := by
  obtain ⟨⟨d, hu, hd⟩, hi⟩ := hA
  unfold LoadMid at hl
  split at hl
  · rename_i t y ho
    obtain ⟨rfl, hx⟩ := hl
    refine conf_valueX hT hw ?_ h
    subst he
    have hrun := run_loadVar_mid w g off t _ d (World.rangeAt_of_block hg off n) hu (by cases d <;> first | rfl | cases hd) (by rw [hi, Array.length_toList, hn])
    rw [Array.toArray_toList] at hrun
    unfold execOp
    simp only [ho, hx, Instr.loadAt, Instr.sureAddr, Sem.run_bind, Sem.run_pure, Result.andThen_ok, hrun]
  · exact hl.elim
end
/-- what one block alone may turn, behind b0 -/
def OneR (b0 : Nat) (T : TypeId) (cs : Array Value) (w w' : World) : Prop :=
  w.heap.size ≤ w'.heap.size ∧ (b0 ≤ w.heap.size → Below b0 w w') ∧
  ∀ (g : Nat) (c : Array Value) (S : TypeId), Blk w g c S → Blk w' g c S ∨ (b0 ≤ g ∧ S = T ∧ c.size = cs.size ∧ Blk w' g cs S)
theorem oneR_kept {b0 : Nat} {T : TypeId} {cs : Array Value} : Kept (OneR b0 T cs) := by
  refine ⟨fun w => ⟨Nat.le_refl _, fun _ => Below.refl _ _, fun g c S h => .inl h⟩, ?_, fun w => ⟨Nat.le_refl _, fun _ => (Below.refl _ _).drew, fun g c S h => .inl h⟩⟩
  rintro a b c ⟨h1, h2, h3⟩ ⟨k1, k2, k3⟩
  refine ⟨Nat.le_trans h1 k1, fun h => (h2 h).trans (k2 (Nat.le_trans h h1)), fun g d S hg => ?_⟩
  rcases h3 g d S hg with h | ⟨l, e, z, h⟩
  · exact k3 g d S h
  · rcases k3 g cs S h with h' | ⟨l', e', z', h'⟩
    · exact .inr ⟨l, e, z, h'⟩
    · exact .inr ⟨l, e, z, h'⟩
theorem oneR_below {b0 : Nat} {T : TypeId} {cs : Array Value} {w w' : World} (hb : Below w.heap.size w w') : OneR b0 T cs w w' := ⟨hb.size, fun h => hb.mono h, fun g c S h => .inl (h.below hb)⟩
theorem oneR_store {b0 g : Nat} {T : TypeId} {cs old : Array Value} {w : World} (hk : Blk w g old T) (hg : b0 ≤ g) (hs : old.size = cs.size) : OneR b0 T cs w (w.setRow g cs) := by
  refine ⟨by simp, fun h => below_setRow (g := g) (Below.refl b0 w) hg cs, fun k c S h => ?_⟩
  by_cases e : k = g
  · subst e
    have e2 := (show some (Obj.cells c S (0, 0)) = some (Obj.cells old T (0, 0)) from h.symm.trans hk)
    injection e2 with e2
    injection e2 with e3 e4
    subst e3 e4
    exact .inr ⟨hg, rfl, hs, hk.setRow cs⟩
  · exact .inl (h.setRow_other g cs e)
theorem oneR_blk {b0 g : Nat} {T S : TypeId} {cs c : Array Value} {w w' : World} (h : OneR b0 T cs w w') (hk : Blk w g c S) (hn : g < b0 ∨ S ≠ T ∨ c.size ≠ cs.size) : Blk w' g c S := by
  rcases h.2.2 g c S hk with h1 | ⟨l, e, z, -⟩
  · exact h1
  · rcases hn with hn | hn | hn
    · omega
    · exact absurd e hn
    · exact absurd z hn
theorem oneR_some {b0 g : Nat} {T : TypeId} {cs c : Array Value} {w w' : World} (h : OneR b0 T cs w w') (hk : Blk w g c T) (hs : c.size = cs.size) : ∃ c', c'.size = cs.size ∧ Blk w' g c' T := by
  rcases h.2.2 g c T hk with h1 | ⟨-, -, -, h1⟩
  · exact ⟨c, hs, h1⟩
  · exact ⟨cs, rfl, h1⟩
theorem oneR_same {b0 g : Nat} {T : TypeId} {cs : Array Value} {w w' : World} (h : OneR b0 T cs w w') (hk : Blk w g cs T) : Blk w' g cs T := by
  rcases h.2.2 g cs T hk with h1 | ⟨-, -, -, h1⟩
  · exact h1
  · exact h1
end Go.Proofs.YtapednkmefbldaaDoor
