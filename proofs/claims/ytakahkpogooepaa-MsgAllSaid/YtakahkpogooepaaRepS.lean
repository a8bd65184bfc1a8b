/- msg.PutReply of any reply: the plain law. -/
import Derived.Test.YtakahkpogooepaaRepR
import Derived.Test.YtakahkpogooepaaMsgS
namespace Go.Proofs.Ytakahkpogooepaa
open Go.RowKit

def z14 (k : Int) : List Int := [k, 0, 0, 0, 0, 0, 0, 0, 0, 0, 0, 0, 0, 0]
/-- the bytes of a reply, if it may be -/
def putR8 (l : List Int) : Option (List Int) :=
  match repliedOf (l.getD 0 0) with
  | none => none
  | some ds => match outsD ds l with
    | none => none
    | some ps => if zeroed ds l = z14 (l.getD 0 0) then some (l.getD 0 0 :: ps) else none
structure FD.goodR (d : FD) : Prop where
  ok : d.okR
  off1 : 1 ≤ d.off
  neg : d.lo < 0 → -32768 ≤ d.lo ∧ d.hi ≤ 32767
  pos : 0 ≤ d.lo → 1 ≤ d.size ∧ d.size ≤ 7 ∧ d.hi < 256 ^ d.size.toNat
theorem replied_good {k : Int} {ds : List FD} (h : repliedOf k = some ds) : 129 ≤ k ∧ k ≤ 136 ∧ ds.length ≤ 8 ∧ ∀ d ∈ ds, d.goodR := by
  unfold repliedOf at h
  repeat' split at h
  all_goals first
    | (cases h; done)
    | (injection h with h
       subst h
       refine ⟨by omega, by omega, by decide, fun d hd => ?_⟩
       simp only [List.mem_cons, List.not_mem_nil, or_false] at hd)
  · rcases hd with rfl | rfl | rfl | rfl | rfl | rfl | rfl | rfl <;> exact ⟨⟨by decide, by decide, by decide⟩, by decide, by decide, by decide⟩
  · rcases hd with rfl | rfl | rfl <;> exact ⟨⟨by decide, by decide, by decide⟩, by decide, by decide, by decide⟩
  · subst hd; exact ⟨⟨by decide, by decide, by decide⟩, by decide, by decide, by decide⟩
  · rcases hd with rfl | rfl <;> exact ⟨⟨by decide, by decide, by decide⟩, by decide, by decide, by decide⟩
  · subst hd; exact ⟨⟨by decide, by decide, by decide⟩, by decide, by decide, by decide⟩
  · rcases hd with rfl | rfl <;> exact ⟨⟨by decide, by decide, by decide⟩, by decide, by decide, by decide⟩
  · rcases hd with rfl | rfl <;> exact ⟨⟨by decide, by decide, by decide⟩, by decide, by decide, by decide⟩
theorem gets_ofR {w : World} {base gl gm : Nat} {fs : List (FD × Nat)} {l : List Int} (h : FLs w base gl gm fs) (hl : IsRepL l) (hm : Blk w gm (repV l) 40) (hd : ∀ p ∈ fs, p.1.goodR) : ∀ a ∈ fs.map (afOf l), a.ok ∧ Gets w a.G a.gp a.n := by
  intro a ha
  obtain ⟨p, hp, rfl⟩ := List.mem_map.1 ha
  have hg := hd p hp
  obtain ⟨i, hi, he⟩ := List.getElem_of_mem hp
  refine ⟨⟨hg.neg, hg.pos⟩, enters_get p.1, fun W hW => ?_⟩
  have hb := (h.2.2 i hi).2
  rw [he] at hb
  exact get_rfld p.1 p.2 gm l W hg.ok hl (Blk.below hb hW) (hm.below hW)
theorem zeroed_rep (ds : List FD) (l : List Int) (h : IsRepL l) : IsRepL (zeroed ds l) := by
  refine ⟨(zeroed_len ds l).trans h.1, fun i h6 h14 => ?_⟩
  rcases zeroed_at ds l i with h1 | h1
  · rw [h1]; omega
  · rw [h1]; exact h.2 i h6 h14
theorem isRep_z14 (k : Int) : IsRepL (z14 k) := by
  refine ⟨rfl, fun i h6 h14 => ?_⟩
  have h : i = 6 ∨ i = 7 ∨ i = 8 ∨ i = 9 ∨ i = 10 ∨ i = 11 ∨ i = 12 ∨ i = 13 := by omega
  rcases h with rfl | rfl | rfl | rfl | rfl | rfl | rfl | rfl <;> exact (show (0 : Int) ≤ 0 ∧ (0 : Int) ≤ 255 from ⟨by decide, by decide⟩)
theorem built_rep (k : Int) : Try.prog.built 40 [(0, .int .i64 k)] = some (repV (z14 k)) := by kernel_rfl
theorem built_rzero : Try.prog.built 40 [] = some (repV (z14 0)) := by kernel_rfl
end Go.Proofs.Ytakahkpogooepaa
