/-
  For every input the law sidesticktop.TopReplays returns true, and each argument reads afterwards as before. No condition.
-/
import Derived.Test.YtclmichaaiohjaaGreatDoorRows
import Derived.Test.YtclmichaaiohjaaGreatDoorTie
import Derived.Test.YtclmichaaiohjaaGreatDoorCards
import Derived.Test.YtclmichaaiohjaaGreatDoorS10
import Derived.ProofKit
import Derived.OpenShut
import Derived.ChangeOld
import Derived.Below
import Derived.LaidMore
import Derived.Stop.Joined
import Derived.SevenTiedAt
namespace Go.Proofs.YtclmichaaiohjaaGreatDoor.lawTopReplays
open Go.ChangeShapes Go.WideShapes Go.ChangeAt Go.RowKit
set_option linter.unusedVariables false
theorem lA{H:Type}{enc:TypeId×Value→H}{P:Program}{w:World}{t e:TypeId}{n fuel:Nat}{sp:Nat→Bool}{held:Bool}{cs:List Value}{ds:List (DataW H)}{q:List MemPlace}
 (ht:P.underlying t=some (.array n e)) (hc:P.cellsOf e=1) (hcn:P.cellsOf t=n) (h:DataW.trod enc P w 0 sp held fuel t cs=some (.agg ds,q)):
 ∀(i:Nat) d,ds[i]?=some d→ ∃m c q',cs[i]?=some c∧DataW.trod enc P w 0 sp held m e [c]=some (d,q'):=by
 obtain⟨xs,m,hm,hx,hl,hn,hel⟩:=DataW.trod_array ht h
 intro i d hd
 simp only[Prod.mk.injEq,DataW.agg.injEq] at hx
 have hx1:=hx.1
 rw[hx1] at hd
 have hi:i<xs.length:=by
  rcases Nat.lt_or_ge i xs.length with h|h
  ·exact h
  ·rw[List.getElem?_eq_none (by simpa using h)] at hd;cases hd
 have h1:=hel i (by omega)
 rw[hc] at h1
 rw[List.getElem?_eq_getElem hi] at h1
 have hi2:i<cs.length:=by omega
 have e1:(cs.drop (i*1)).take 1=[cs[i]]:=by
  rw[Nat.mul_one,List.drop_eq_getElem_cons hi2];rfl
 rw[e1] at h1
 have:xs[i].1=d:=by simpa[hi] using hd
 exact⟨m,cs[i],xs[i].2,by simp[hi2],by rw[h1,←this]⟩
theorem lG:Tryz.prog.globalNamed "sidestick/gate.commands" =some 1:=by kernel_rfl
theorem lT:(Tryz.prog.globals[1]?).map (·.type)=some 279:=by kernel_rfl
theorem lH:Tryz.prog.globalNamed "sidestick/sha.roots" =some 0:=by kernel_rfl
theorem lU:(Tryz.prog.globals[0]?).map (·.type)=some 250:=by kernel_rfl
set_option maxRecDepth 100000 in
theorem laid2{W:World}(h:laidMetH Tryz.prog [("sidestick/gate.commands",Rows.laid_sidestick_gate_commands),("sidestick/sha.roots",Rows.laid_sidestick_sha_roots)] W):Ju W∧Xs W:=by
 rw[MakeChecks.laidMetH_plain _ _ _ (by kernel_rfl)] at h
 obtain⟨ps,⟨g0,t0,cs0,f0,p0,q0,hg0,ht0,hv0,hd0,⟨g1,t1,cs1,f1,p1,q1,hg1,ht1,hv1,hd1,-⟩,-⟩,-⟩:=h
 obtain rfl:=Option.some.inj (lG.symm.trans hg0)
 obtain rfl:=Option.some.inj (lT.symm.trans ht0)
 obtain rfl:=Option.some.inj (lH.symm.trans hg1)
 obtain rfl:=Option.some.inj (lU.symm.trans ht1)
 refine⟨fun i hi=> ?_,fun i hi=> ?_⟩
 ·have hcell:=World.var?_cell hg1 hv1 i
  have hl:(lE.map fun n=>(DataW.lit (.int .u32 n):DataW Unit))[i]?=some (DataW.lit (.int .u32 (lE.getD i 0))):=by
   have:i<lE.length:=hi
   simp[this]
  obtain⟨m,c,q',h1,h2⟩:=lA Tryz.underlying250 (by kernel_rfl) (by kernel_rfl) hd1 i _ hl
  obtain⟨b,e1,e2,_⟩:=DataW.trod_int Tryz.underlying210 h2
  simp only[List.cons.injEq,and_true] at e1
  simp only[Prod.mk.injEq,DataW.lit.injEq,Lit.int.injEq] at e2
  rw[hcell,←Array.getElem?_toList,h1,e1,←e2.1.2]
 ·have hcell:=World.var?_cell hg0 hv0 i
  have hl: ∀j:Fin 12,([.lit (.bool false),.lit (.bool false),.lit (.bool false),.lit (.bool false),.lit (.bool false),.lit (.bool false),.lit (.bool false),.lit (.bool false),.lit (.bool false),.lit (.bool false),.lit (.bool true),.lit (.bool true)]:List (DataW Unit))[j.1]?=some (.lit (.bool (j.1==10||j.1==11))):=by
   intro⟨j,hj⟩
   rcases(show j=0∨j=1∨j=2∨j=3∨j=4∨j=5∨j=6∨j=7∨j=8∨j=9∨j=10∨j=11 by omega) with rfl|rfl|rfl|rfl|rfl|rfl|rfl|rfl|rfl|rfl|rfl|rfl<;>rfl
  obtain⟨m,c,q',h1,h2⟩:=lA Tryz.underlying279 (by kernel_rfl) (by kernel_rfl) hd0 i _ (hl ⟨i,hi⟩)
  obtain⟨b,e1,e2⟩:=DataW.trod_bool Tryz.underlying4 h2
  simp only[List.cons.injEq,and_true] at e1
  simp only[Prod.mk.injEq,DataW.lit.injEq,Lit.bool.injEq] at e2
  rw[hcell,←Array.getElem?_toList,h1,e1,←e2.1]
abbrev lM:=fun w=>laidMetH Tryz.prog [("sidestick/gate.commands",Rows.laid_sidestick_gate_commands),("sidestick/sha.roots",Rows.laid_sidestick_sha_roots)] w
theorem own:ownKnob Tryz.prog.godebug=none:=by kernel_rfl
theorem laidOut:laidOutB Tryz.prog=true:=by kernel_rfl
theorem door_met(os:Os)(args:Array Value):lM ((World.doorLaid Tryz.prog 400 os).forCall (fun _ _=>0) ⟨#[],args,[]⟩).memory:=
 laidMetH_of_parts3 (fuel:=8) (laidMet_of_run' 8 (by kernel_rfl) (by kernel_rfl)) (by kernel_rfl) (by kernel_rfl)
set_option maxRecDepth 100000 in
set_option maxHeartbeats 1000000 in
theorem lifted(os:Os)(started:os.Started)(H:Type)(enc:TypeId×Value→H):
 ReturnsInHanded {} Tryz.checked os 6 .any (fun w args=>(Rows.topReplaysSpec.pre enc Tryz.prog Tryz.f6 [] false w args∧lM w)∧sizedMet enc Tryz.prog Tryz.f6 (OpenSpec.ofChange Rows.topReplaysSpec) false w args) (Rows.topReplaysSpec.post enc Tryz.prog Tryz.f6 false true false false):=by
 refine returnsInHanded_of_change_and (C:=Tryz.checked) (X:=fun w _=>lM w) (fun _ _ _ hh h=>h.of_heap hh) own started (by kernel_rfl) Tryz.func6
  (ChangeSpec.witness_shaped (enc:=enc) (C:=Tryz.checked) (os:=os) (X:=fun w _=>lM w) false (World.doorLaid Tryz.prog 400 os) #[.agg hH,.slice none 0 0] 8 rfl (World.shaped_of_RefB (by kernel_rfl) (by kernel_rfl)) (by kernel_rfl) (by kernel_rfl) (by kernel_rfl) (door_met os _)) ?_
 intro W base args ds gs before hval0 hW hX1 hX2 hL hX3
 have hval: ∀(j:Nat) t v,Tryz.f6.params[j]?=some t→args[j]?=some v→Value.okWide Tryz.prog W .any base t v:=hval0
 have hW':=hW
 obtain⟨p,q,hA0,hV,rfl,hfz,hnd⟩:=hW
 have hA:DataW.TrodAll enc Tryz.prog W 0 (fun _=>true) true Tryz.f6.params.toList args.toList ds p:=hA0
 rw[Tryz.params6] at hA hval
 obtain⟨v0,vs0,d0,ds0,p0,q0,hargs,rfl,rfl,h0,r0⟩:=trodAll_cons hA
 obtain⟨v1,vs1,d1,ds1,p1,q1,rfl,rfl,rfl,h1,r1⟩:=trodAll_cons r0
 obtain⟨rfl,rfl,rfl⟩:=trodAll_nil r1
 obtain rfl:args= #[v0,v1]:=by cases args;simp_all
 obtain⟨rfl,rfl⟩:=trodVars_none hV
 have lt0: ∀x∈p0,x.block<W.heap.size:=by obtain⟨m,hm⟩:=h0;exact DataW.trod_lt m _ _ _ hm
 have g0:=mk_pol (hval 0 28 v0 rfl rfl) h0
 have lt1: ∀x∈p1,x.block<W.heap.size:=by obtain⟨m,hm⟩:=h1;exact DataW.trod_lt m _ _ _ hm
 have g1:=mk_sl_api_Event (hval 1 29 v1 rfl rfl) h1
 refine(walk_TopReplays v0 v1 W (laid2 hL).1 (laid2 hL).2 g0 g1).mono fun e W' ⟨he,bel⟩=> ?_
 subst he
 exact⟨_,rfl,_,_,_,[],_,[],hW',trodAll_mk1 (shut_bool Tryz.underlying4 _),(trodAll_cons_mk (Below.trod laidOut (by kernel_rfl) (of_decide_eq_true (by kernel_rfl)) h0 bel lt0) (trodAll_cons_mk (Below.trod laidOut (by kernel_rfl) (of_decide_eq_true (by kernel_rfl)) h1 bel lt1) trodAll_mk0)),rfl,bel.frame _,fun h=>by cases h⟩
theorem over:Rows.topReplaysRow.holds Tryz.pinned (OpenSpec.ofChange Rows.topReplaysSpec):=
 OpenClaim.holds_of_wide 6 Tryz.f6 rfl rfl rfl rfl rfl rfl rfl ⟨rfl,rfl,rfl,rfl,rfl⟩ rfl rfl rfl rfl rfl (by kernel_rfl) Tryz.func6 (by kernel_rfl)
  (of_decide_eq_true (by kernel_rfl)) (by unfold Func.isWrapper;first|(rw[if_pos (by decide+kernel)];kernel_rfl)|(rw[if_neg (by decide+kernel)];exact⟨rfl,rfl⟩))
  (fun os started H enc _=>lifted os started H enc)
theorem proved:Rows.TopReplaysCardSaid:=
 Claim7.holds_tied_plain_at .later [] [.data,.data] true (true, "5b7171130d1b8b79e546cf094d78f34e281fdbd17378f635901a93026d40db4d") true
  over (fun _ h=>by cases h) (by kernel_rfl) (fun _ h=>by cases h) topReplays_row_tie rfl ⟨rfl,rfl⟩ (by kernel_rfl) rfl
  (fun f fn hf hfn=>by
   obtain rfl:f=6:=Option.some.inj ((show Tryz.prog.funcNamed "sidestick/sidesticktop.TopReplays" =some 6 by kernel_rfl).symm.trans hf)|>.symm
   obtain rfl:fn=Tryz.f6:=(Option.some.inj (Tryz.func6.symm.trans hfn)).symm
   exact⟨by kernel_rfl,fun j t ht=>by
    rw[Tryz.params6] at ht
    have hm:t∈[28,29]:=by simpa using Array.mem_of_getElem? ht
    have hall:([28,29].all fun u=> !Tryz.prog.wantsStandIn u)=true:=by kernel_rfl
    exact(show Tryz.prog.wantsStandIn t=false by simpa using List.all_eq_true.1 hall t hm)⟩)
  (by kernel_rfl)
#print axioms proved
end Go.Proofs.YtclmichaaiohjaaGreatDoor.lawTopReplays
