import Derived.Test.YtclmichaaiohjaaGreatDoorR01
import Derived.Laws.BytesArg
import Derived.Laws.EntriesVeiled
import Derived.Lib.BitFns
import Derived.Lib.Slices
import Derived.Lib.Small
import Derived.Lib.Strings
import Derived.Maps.AppendAt
import Derived.OwnWalk
set_option maxRecDepth 100000
set_option linter.unusedVariables false
set_option linter.unusedSimpArgs false
set_option maxHeartbeats 6400000
namespace Go.Proofs.YtclmichaaiohjaaGreatDoor
open RowKit
open _root_.Array renaming getElem?_eq_none->g_,getElem?_eq_some_iff->Jt,getElem?_eq_getElem->dY,replicate->Zn
open Bool renaming true->u,false->B,and_eq_true->Oc,or_eq_true->kI,false_eq_true->kn
open Classical renaming byContradiction->jZ
open Go renaming bits->Ix,World->M,Calls->Ef,TypeId->EC,Value->V,Addr->Eu,Program->Js,heap_alloc_new->fL,bodyPost_ret->ET,results->Xa,Exit->UW,Act->E6,Oper->EN,yielded->Jd,execOp->Iw,wpList->IZ,undef->I6,mem_ready->Uo,getD_set_ne->XL,Operand->UH,info_parts->bQ,madeCells->aS,below_setRow->E3,wpQuiet_nil->IM,method->X8,callFunc->Jj,wp_loop_rounds->O9,rounds_succ->Ic,results_none->U1,Ending->Ut
open Act renaming put->In
open Builtin renaming append_->bP
open Code renaming region->ZP
open DataW renaming trod->ZN
open Ending renaming returned->Eg
open Instr renaming loadAt->fN,sureAddr->dU
open IntKind renaming wrap->oD,bits->j7,signed->j8,i64->I,u8->IP,u64->Il
open Lib renaming hid->O
open Obj renaming cells->EJ
open Oper renaming wp->ah
open Go.Proofs.Tryz renaming prog->EU,underlying23->bR
open Region renaming wanted->I_,binds->Oq,ready->d_
open Result renaming andThen_ok->Uf
open RowKit renaming Below->Io,Hid->Ea,intOf->Iv
open RowKit.Below renaming refl->IE,heap_setCell->XM,alloc->JH,setCell->JK
open Sem renaming run_bind->Ud,run_pure->UU,run->UC
open Value renaming bool->Ec,int->E,agg->EZ,slice->EI,tuple->Et,pointer->Y,oneCell'->OC,ownBlock->mQ
open World renaming setCell->dW,alloc->UN,ownsRow_nil->cJ,ownsRow_lit->pE
open Int renaming toNat_natCast->mo,eq_ofNat_of_zero_le->ji
open List renaming getElem?_eq_none->aM,eq_nil_of_length_eq_zero->aN,getElem?_eq_getElem->Ok,range->UA,all_eq_true->UY,mem_range->Z6,drop_of_length_le->mq,eq_nil_iff_forall_not_mem->mr,drop_eq_getElem_cons->kJ,length_filter_le->mA,mem_filterMap->mB,mem_cons_of_mem->ai,mem_cons_self->hO,nodup_cons->mC,getElem?_eq_some_iff->UG,mem_iff_getElem?->aP,take_append_drop->hU,length_take->aj,replicate->hX,getD_eq_getElem?_getD->UK,getElem?_append_left->bM,getElem?_take_of_lt->bN,getElem?_append_right->ak,map_cons->UL,map_nil->Xu,mem_map->da,getElem?_toArray->Og,setIfInBounds_toArray->Ip,length_append->I2,flatMap_cons->kj,length_cons->ZV,filter_cons->mM,mem_cons->Ui,getElem_mem->hH,append_assoc->U9,set_cons_succ->Ig,set_cons_zero->Ih,mem_append->XP,map_append->ku,nil_append->Z8,length_drop->mV,getElem?_cons_zero->kx,not_mem_nil->UP
open Nat renaming lt_or_ge->JG,le_trans->EA,le_refl->E7,strongRecOn->mx,zero_add->JV,zero_le->bY
open Ne renaming symm->Zr
open Option renaming some->D,none->Z
open KQ
variable{ops:Array EN}{cs:Array V}{ks:List (Nat×Nat)}{Ph:Nat->M->Prop}{F:(Nat->V)->E6}{R:Nat->(Nat->V)->M->Prop}{id g hi n0 n i base cap lo:Nat}{l:List EN}{a0:E6}{w0 w w' W:M}{S:EC}{o:EN}{x:One}{L:List One}{rest:List V}{A:Option Eu}{xs:List Int}{Q:UW->E6->M->Prop}{P:Js}{gp:V}
def fW(ops:Array EN):Nat->Nat->Nat->Bool
 |0,_,_=>B
 |f+1,i,k=>match ops[i]? with
  |none=>B
  |some o=>o.after.any fun e=>Oq .any e&&(e.on==k||fW ops f e.on k)
theorem rR{ops:Array EN}{listed:Array Bool}(hcl:bK ops listed): ∀(f i k:Nat),fW ops f i k=u->i<ops.size->listed.getD i u=u->listed.getD k u=u
 |0,_,_,h,_,_=>XZ
 |f+1,i,k,h,hi,hl=>by
  unfold fW at h;rw[dY hi] at h;simp only at h;obtain⟨e,he,hb⟩:=Array.any_eq_true'.1 h;simp only[Oc,kI,beq_iff_eq] at hb;have h1:=hcl i _ (dY hi) hl e he hb.1;rcases hb.2 with h2|h2;·rw[<-h2];exact h1
  ·by_cases he2:e.on<ops.size;·exact rR hcl f e.on k h2 he2 h1
   ·cases f with
    |zero=>cases h2
    |succ f=>unfold fW at h2;rw[g_ X] at h2;cases h2
def jf(ops:Array EN)(cs:List Nat)(ks:List (Nat×Nat)):Bool:=ks.length==ops.size&&cs.all (fun c=>decide (c<ops.size))&&decide cs.Nodup&&(UA ops.size).all fun i=>match ks[i]? with
 |some (lo,hi)=>(UA cs.length).all (fun j=>match cs[j]? with
  |some c=>if c=i then decide (lo=j)&&decide (hi=j) else(decide (lo<=j)||fW ops ops.size i c)&&(decide (j<hi)||fW ops ops.size c i)
  |none=>B)
 |none=>B
def cnt(cs:List Nat)(listed:Array Bool):Nat:=(cs.filter fun c=>listed.getD c u).length
theorem ul{listed:Array Bool}: ∀(cs:List Nat) (lo:Nat),lo<=cs.length->(∀j c,j<lo->cs[j]?=D c->listed.getD c u=u)->lo<=cnt cs listed
 |_,0,_,_=>bY _
 |[],_+1,h,_=>absurd h Eh
 |c::cs,lo+1,h,hl=>by have h0:=hl 0 c X U;have ih:=ul cs lo Un (fun j c' hj hc=>hl (j+1) c' X y_);unfold cnt at*;rw[mM,if_pos h0];simpa using ih
theorem mN{listed:Array Bool}: ∀(cs:List Nat) (hi:Nat),(∀j c,hi<=j->cs[j]?=D c->listed.getD c u=B)->cnt cs listed<=hi
 |[],_,_=>bY _
 |c::cs,0,hl=>by have h0:=hl 0 c (E7 _) U;have ih:=mN cs 0 (fun j c' _ hc=>hl (j+1) c' X y_);unfold cnt at*;rw[mM,if_neg (by rw[h0];exact Bool.false_ne_true)];exact ih
 |c::cs,hi+1,hl=>by
  have ih:=mN cs hi (fun j c' hj hc=>hl (j+1) c' X y_);unfold cnt at*;rw[mM];split;·simpa using ih
  ·omega
theorem um{listed:Array Bool}{i:Nat}: ∀(cs:List Nat),i∉cs->cnt cs (listed.setIfInBounds i u)=cnt cs listed
 |[],_=>rfl
 |c::cs,h=>by
  have hne:i≠c:=fun e=>h (by rw[e];exact hO);have ih:=um (listed:=listed) cs (fun hm=>h (ai _ hm));unfold cnt at*;rw[mM,mM,XL u hne];split;·rw[ZV,ZV,ih]
  ·exact ih
theorem zE{listed:Array Bool}{i:Nat}(hi:i<listed.size)(hu:listed.getD i u=B): ∀(cs:List Nat),cs.Nodup->i∈cs->cnt cs (listed.setIfInBounds i u)=cnt cs listed+1
 |[],_,h=>XZ
 |c::cs,hn,h=>by
  have hset:(listed.setIfInBounds i u).getD i u=u:=by simp[hi]
  by_cases e:i=c;·subst e;have ho:=um (listed:=listed) cs (mC.1 hn).1;unfold cnt at*;rw[mM,if_pos hset,mM,if_neg (by rw[hu];exact Bool.false_ne_true),ZV,ho]
  ·have hm:i∈cs:=by
    rcases Ui.1 h with h|h;·exact absurd h e
    ·exact h
   have ih:=zE hi hu cs (mC.1 hn).2 hm;unfold cnt at*;rw[mM,mM,XL u e];split;·rw[ZV,ZV,ih]
   ·exact ih
theorem zI{cs:List Nat}(h:jf ops cs ks=u):(∀c∈cs,c<ops.size)/\cs.Nodup/\ ∀i,i<ops.size-> ∃lo hi,ks[i]?=D (lo,hi)/\ ∀j c,cs[j]?=D c->(c=i->lo=j/\hi=j)/\(c≠i->(lo<=j\/fW ops ops.size i c=u)/\(j<hi\/fW ops ops.size c i=u)):=by
 unfold jf at h;simp only[Oc] at h;obtain⟨⟨⟨-,h1⟩,h2⟩,h3⟩:=h;refine⟨fun c hc=>of_decide_eq_true (UY.1 h1 c hc),of_decide_eq_true h2,fun i hi=> ?_⟩;have h4:=UY.1 h3 i (Z6.2 hi);cases hk:ks[i]? with
 |none=>rw[hk] at h4;cases h4
 |some p=>
  obtain⟨lo,hi'⟩:=p;rw[hk] at h4;refine⟨lo,hi',U,fun j c hj=> ?_⟩;have hjl:=(UG.1 hj).1;have h5:=UY.1 h4 j (Z6.2 hjl);rw[hj] at h5;by_cases e:c=i;·simp only[if_pos e,Oc,decide_eq_true_eq] at h5;exact⟨fun _=>h5,fun h=>absurd e h⟩
  ·simp only[if_neg e,Oc,kI,decide_eq_true_eq] at h5;exact⟨fun h=>absurd h e,fun _=>h5⟩
section
variable{P:Program}{ops:Array Oper}{Q:Exit->Act->World->Prop}
def zJ(Ph:Nat->M->Prop)(Rel Ij:M->M->Prop)(P:Js)(ops:Array EN)(Q:UW->E6->M->Prop)(F:(Nat->V)->E6)(R:Nat->(Nat->V)->M->Prop)(c:Bool)(lo hi i:Nat)(o:EN):Prop:=match c with
 |true=> ∀x w,Ph lo w->mG R o x w->Xb (fun w w'=>Ij w w'/\Ph (lo+1) w') P ops Q F R i o x w
 |false=> ∀x w p,lo<=p->p<=hi->Ph p w->mG R o x w->Xb Rel P ops Q F R i o x w
theorem EJt{Rel Ij:M->M->Prop}{cs:List Nat}(hB:fV ops=u)(hK:jf ops cs ks=u)(hlk: ∀(i lo hi:Nat),ks[i]?=D (lo,hi)->lo<=cs.length) (hPh: ∀b w w',Ph b w->Rel w w'->Ph b w') (hF: ∀i o x v,i<ops.size->ops[i]?=D o->(F x).put o.dst v=F (J4 x i v)) (hR: ∀i x w w',i<ops.size->R i x w->Rel w w'->R i x w') (hR2: ∀i x w w',i<ops.size->R i x w->Ij w w'->R i x w') (hD: ∀i x y w,i<ops.size->(∀k,(k=i\/jc ops i k)->x k=y k)->R i x w->R i y w) (hcw: ∀c o x,c∈cs->ops[c]?=D o->I_ o (Jd ops (F x).tmps)=u) (hstep: ∀(i:Nat) (o:EN) (lo hi:Nat),ops[i]?=D o->ks[i]?=D (lo,hi)->zJ Ph Rel Ij P ops Q F R (decide (i∈cs)) lo hi i o) (hend: ∀x w,Ph cs.length w->(∀i,i<ops.size->R i x w)->IZ P ops Q [] (F x) w): ∀(fuel:Nat) (listed:Array Bool) (x:Nat->V) (w:M),(UX ops listed).length<=fuel->listed.size=ops.size->bK ops listed->Ph (cnt cs listed) w-> (∀i,i<ops.size->listed.getD i u=u->R i x w)->wpAny P .any ops Q fuel listed (F x) w:=by
 obtain⟨hcs,hcn,hKs⟩:=zI hK
 have done: ∀(fuel:Nat) (listed:Array Bool) (x:Nat->V) (w:M),(∀j,j<ops.size->listed.getD j u=u)->Ph (cnt cs listed) w->(∀i,i<ops.size->listed.getD i u=u->R i x w)->wpAny P .any ops Q fuel listed (F x) w:=by
  intro fuel listed x w hall hb hr;have hcl:cnt cs listed=cs.length:=by exact EpE
  rw[hcl] at hb;exact Ep3
 intro fuel;induction fuel with
 |zero=>
  intro listed x w hf hs hcl hb hr;refine done 0 listed x w (fun j hj=> ?_) hb hr;cases hlj:listed.getD j u;·exact En3
  ·rfl
 |succ fuel ih=>
  intro listed x w hf hs hcl hb hr;by_cases hall: ∀j,j<ops.size->listed.getD j u=u;·exact EoQ
  ·refine⟨fun h0=> ?_,fun i hi=> ?_⟩
   ·exfalso
    have hex: ∃j,j<ops.size/\listed.getD j u=B:=by
     apply jZ;intro hno
     exact hall fun j hj=>by
      cases hlj:listed.getD j u;·exact absurd ⟨j,hj,hlj⟩ hno
      ·rfl
    have hmin: ∃j,(j<ops.size/\listed.getD j u=B)/\ ∀k,k<j-> ¬(k<ops.size/\listed.getD k u=B):=by
     obtain⟨j,hj⟩:=hex;induction j using mx with
     |ind j fE=>
      by_cases h: ∃k,k<j/\(k<ops.size/\listed.getD k u=B);·exact EmN
      ·exact Emz
    obtain⟨j,⟨hjn,hj⟩,hlt⟩:=hmin;have ho:ops[j]?=D ops[j]:=dY hjn
    have:j∈d_ .any ops listed:=by
     refine Uo.2 ⟨hj,_,ho,fun e he hbe=> ?_⟩;have h1:=rQ hB ho e he hbe;have h2:=hlt e.on h1;have h3:e.on<listed.size:=X;cases hlj:listed.getD e.on u;·exact absurd ⟨X,hlj⟩ h2
     ·simpa[h3] using hlj
    rw[h0] at this;cases this
   ·obtain⟨h1,o,ho,dX⟩:=Uo.1 hi;have hin:=(Jt.1 ho).1;have hdr:mG R o x w:=by intro e he hb';have h3:=dX e he hb';have h4:=rQ hB ho e he hb';have h5:e.on<listed.size:=X;exact hr e.on X oK
    obtain⟨lo,hi',hk,hkc⟩:=hKs i hin;have st:=hstep i o lo hi' ho hk;have un:=hcl.set hs hi;have hset:(listed.setIfInBounds i u).getD i u=u:=by exact Enc
    have next: ∀v w',Ph (cnt cs (listed.setIfInBounds i u)) w'->(∀j,j<ops.size->j≠i->listed.getD j u=u->R j x w')->R i (J4 x i v) w'->wpAny P .any ops Q fuel (listed.setIfInBounds i u) ((F x).put o.dst v) w':=by
     intro v w' hb' hrs hv;rw[hF i o x v hin ho];have hlt:=mw hs hin h1;refine ih _ _ w' X hI un hb' (fun j hj hl=> ?_);by_cases hji:j=i;·subst hji;exact hv
     ·rw[XL u (fun e=>hji e.symm)] at hl;refine hD j x _ w' hj (fun q hq=> ?_) (hrs j hj hji hl);rw[jX];intro hqi;rw[hqi] at hq;rcases hq with hq|⟨oj,e,hoj,he,hbe,uj⟩;·exact hji hq.symm
      ·exact EnK
    have early: ∀j c,cs[j]?=D c->c≠i->j<lo->listed.getD c u=u:=by
     intro j c hj hne hlt;rcases((hkc j c hj).2 hne).1 with h|h;·omega
     ·exact Eo4
    have late: ∀j c,cs[j]?=D c->c≠i->hi'<=j->listed.getD c u=B:=by
     intro j c hj hne hle;rcases((hkc j c hj).2 hne).2 with h|h;·omega
     ·cases hlc:listed.getD c u;·rfl
      ·exact EoN
    by_cases hic:i∈cs
    ·obtain⟨j0,hj0⟩:=aP.1 hic;obtain⟨e1,e2⟩:=(hkc j0 i hj0).1 rfl;have hjl:=(UG.1 hj0).1;have uniq: ∀j,cs[j]?=D i->j=j0:=by intro j hj;have EJu:=(UG.1 hj).1;have h5:=(UG.1 hj).2;have h6:=(UG.1 hj0).2;exact(List.getElem_inj hcn).1 (h5.trans h6.symm)
     have hcnt:cnt cs listed=lo:=by
      refine Nat.le_antisymm (mN cs lo fun j c hj hc=> ?_) (ul cs lo X fun j c hj hc=> ?_)
      ·by_cases e:c=i;·subst e;exact h1
       ·exact late j c hc e X
      ·by_cases e:c=i;·subst e;have:=uniq j hc;omega
       ·exact early j c hc e hj
     rw[Ib hic] at st;rw[hcnt] at hb;have st:=st x w hb hdr;unfold wpOp;simp only[ho];unfold Xb at st;rw[if_pos (hcw i o x hic ho)] at st⊢;refine .inl (Oper.wp_mono (fun a' w' h'=> ?_) st);obtain⟨v,rfl,⟨hb',zO⟩,hv⟩:=h';exact next v w' (by rw[zE X h1 cs hcn hic,hcnt];exact zO) (fun j hj _ hl=>hR2 j _ w w' hj (hr j hj hl) hb') hv
    ·rw[IJ hic] at st;have hne: ∀j c,cs[j]?=D c->c≠i:=fun j c hj e=>hic PB;have hlo2:lo<=cnt cs listed:=ul cs lo (hlk i lo hi' hk) fun j c hj hc=>early j c hc (hne j c hc) hj;have FT:cnt cs listed<=hi':=mN cs hi' fun j c hj hc=>late j c hc (hne j c hc) hj;have st:=st x w _ hlo2 FT hb hdr;unfold wpOp;simp only[ho];unfold Xb at st;split;·rename_i hw;rw[if_pos hw] at st;refine .inl (Oper.wp_mono (fun a' w' h'=> ?_) st);obtain⟨v,rfl,hb',hv⟩:=h';exact next v w' PD (fun j hj _ hl=>hR j _ w w' hj (hr j hj hl) hb') hv
     ·exact En7
def fY(Ph:Nat->M->Prop)(Rel Ij:M->M->Prop)(P:Js)(ops:Array EN)(Q:UW->E6->M->Prop)(F:(Nat->V)->E6)(R:Nat->(Nat->V)->M->Prop)(cs:List Nat):Nat->List EN->List (Nat×Nat)->Prop
 |i,o::l,(lo,hi)::ks=>zJ Ph Rel Ij P ops Q F R (decide (i∈cs)) lo hi i o/\fY Ph Rel Ij P ops Q F R cs (i+1) l ks
 |_,_,_=>True
theorem fY.at{Ph:Nat->M->Prop}{Rel Ij:M->M->Prop}{F:(Nat->V)->E6}{R:Nat->(Nat->V)->M->Prop}{cs:List Nat}: ∀(l:List EN) (ks:List (Nat×Nat)) (i:Nat),fY Ph Rel Ij P ops Q F R cs i l ks-> ∀j o lo hi,l[j]?=D o->ks[j]?=D (lo,hi)->zJ Ph Rel Ij P ops Q F R (decide (i+j∈cs)) lo hi (i+j) o
 |[],_,_,_,_,_,_,_,h,_=>oL
 |_::_,[],_,_,_,_,_,_,_,h=>oL
 |p::l,(a,b)::ks,i,hs,0,o,lo,hi,h,h2=>by simp at h h2;obtain⟨rfl,rfl⟩:=h2;subst h;exact hs.1
 |p::l,(a,b)::ks,i,hs,j+1,o,lo,hi,h,h2=>by have:=fY.at l ks (i+1) hs.2 j o lo hi Un (by simpa using h2);rw[show i+(j+1)=i+1+j from X];exact this
theorem PG{Rel Ij:M->M->Prop}(cs:List Nat)(ks:List (Nat×Nat))(hm:P.follows .mixedOrders=u)(hB:fV l.toArray=u)(hK:jf l.toArray cs ks=u)(hlk:(ks.all fun p=>decide (p.1<=cs.length))=u)(hnd:(O4 l).Nodup)(R:Nat->(Nat->V)->M->Prop) (hcg:(cs.all fun c=>match l[c]? with|some o=>o.guard.isNone|none=>false)=u) (hPh: ∀b w w',Ph b w->Rel w w'->Ph b w') (hR: ∀i x w w',i<l.length->R i x w->Rel w w'->R i x w') (hR2: ∀i x w w',i<l.length->R i x w->Ij w w'->R i x w') (hD: ∀i x y w,i<l.length->(∀k,(k=i\/jc l.toArray i k)->x k=y k)->R i x w->R i y w) (h0:Ph 0 w0.drew) (hstep:fY Ph Rel Ij P l.toArray Q (fun x=>EL l 0 x a0) R cs 0 l ks) (hend: ∀x w,Ph cs.length w->(∀i,i<l.length->R i x w)->IZ P l.toArray Q [] (EL l 0 x a0) w):(ZP id l.toArray u).wp P Q a0 w0:=by
 have oP:EL l 0 (held l a0) a0=a0:=ja a0 _ 0 _ (fun k o ho d hd=>by unfold held;rw[JV,ho];simp only[hd]);refine wp_region_any hm ?_
 have key:=EJt (P:=P) (Q:=Q) (ops:=l.toArray) (Ph:=Ph) (Rel:=Rel) (Ij:=Ij) (cs:=cs) (ks:=ks) (F:=fun x=>EL l 0 x a0) (R:=R) hB hK (by
  intro i lo hi h;have:=UY.1 hlk (lo,hi) (aP.2 ⟨i,h⟩);simpa using this) hPh
  (fun i o x v hi ho=>by have:=kO l 0 i x a0 o v hnd oM;rw[JV] at this;exact this) (fun i x w w' hi=>hR i x w w' Ug) (fun i x w w' hi=>hR2 i x w w' Ug) (fun i x y w hi=>hD i x y w Ug)
  (fun c o x hc ho=>by
   have h1:=UY.1 hcg c hc;have:l[c]?=D o:=oM;rw[this] at h1;simp only at h1;unfold I_;cases hg:o.guard with
   |none=>rfl
   |some g=>rw[hg] at h1;cases h1)
  (fun i o lo hi ho hk=>by have:=fY.at l ks 0 hstep i o lo hi oM hk;rwa [JV] at this)
  (fun x w hp hr=>hend x w hp fun i hi=>hr i Ug)
  l.toArray.size (Zn l.toArray.size B) (held l a0) w0.drew ?_ Eh ?_ ?_ ?_
 ·exact Epz
 ·exact Em4
 ·intro j o ho h;by_cases hj:j<l.toArray.size;·have:j<l.length:=yR;simp[this] at h
  ·exact absurd (Jt.1 ho).1 hj
 ·have hz:cnt cs (Zn l.toArray.size B)=0:=by
   refine Nat.le_zero.1 (mN cs 0 fun j c _ hj=> ?_);have:=(zI hK).1 c (aP.2 ⟨j,hj⟩);have h2:c<l.length:=by exact En4
   simp[h2]
  rw[hz];exact h0
 ·exact EpH
end
structure JW(Y8:Nat->EC->Option (Array V))(w w':M):Prop where
 os:w'.os=w.os
 tape:w'.tape=w.tape
 output:w'.output=w.output
 size:w.heap.size<=w'.heap.size
 keep: ∀k,k<w.heap.size->(∀c S,H w k c S->Y8 k S=Z)->w'.heap[k]?=w.heap[k]?
 rS: ∀k c S,H w k c S->H w' k c S\/ ∃cs,Y8 k S=D cs/\cs.size=c.size/\H w' k cs S
section
variable{Y8:Nat->TypeId->Option (Array Value)}{w w' w'':World}
theorem JW.refl(w:M):JW Y8 w w:=⟨U,U,U,E7 _,fun _ _ _=>rfl,fun _ _ _ h=> .inl h⟩
theorem JW.trans(h:JW Y8 w w')(k:JW Y8 w' w''):JW Y8 w w'':=by
 refine⟨k.os.trans h.os,k.tape.trans h.tape,k.output.trans h.output,EA h.size k.size,fun i hi hm=> ?_,fun i c S hb=> ?_⟩;·have e:=h.keep i hi hm;refine(k.keep i (Nat.lt_of_lt_of_le hi h.size) fun c S hb=>hm c S ?_).trans e;unfold H at*;rw[<-e];exact hb
 ·rcases h.rS i c S hb with h1|⟨cs,e,s,h1⟩;·exact k.rS i c S h1
  ·rcases k.rS i cs S h1 with h2|⟨cs',e',s',h2⟩;·exact .inr ⟨cs,e,s,h2⟩
   ·exact .inr ⟨cs',e',s'.trans s,h2⟩
theorem JW.kept:Kept (JW Y8):=⟨JW.refl,fun _ _ _ h k=>h.trans k,fun w=>⟨U,U,U,E7 _,fun _ _ _=>rfl,fun _ _ _ h=> .inl h⟩⟩
theorem JW.G(h:El w w'):JW Y8 w w':=⟨h.os,h.tape,h.output,h.size,fun k hk _=>h.block k hk,fun _ _ _ hb=> .inl (hb.G h)⟩
theorem JW.Ek(h:JW Y8 w w'){g:Nat}{c:Array V}{S:EC}(k:H w g c S)(hm:Y8 g S=Z):H w' g c S:=by
 rcases h.rS g c S k with h1|⟨cs,e,-⟩;·exact h1
 ·rw[hm] at e;cases e
theorem JW.same(h:JW Y8 w w'){g:Nat}{c:Array V}{S:EC}(k:H w g c S)(hm: ∀cs,Y8 g S=D cs->cs=c):H w' g c S:=by
 rcases h.rS g c S k with h1|⟨cs,e,-,h1⟩;·exact h1
 ·rw[hm cs e] at h1;exact h1
theorem JW.some(h:JW Y8 w w'){g:Nat}{c:Array V}{S:EC}(k:H w g c S): ∃c',c'.size=c.size/\H w' g c' S:=by
 rcases h.rS g c S k with h1|⟨cs,-,s,h1⟩;·exact⟨c,U,h1⟩
 ·exact⟨cs,s,h1⟩
theorem JW.setRow{old:Array V}(k:H w g old S)(hm:Y8 g S=Option.some cs)(hs:cs.size=old.size):JW Y8 w (w.setRow g cs):=by
 refine⟨U,U,U,Eh,fun i hi hn=>setRow_other w g i cs fun e=> ?_,fun i c T hb=> ?_⟩;·subst e;have:=hn old S k;rw[hm] at this;cases this
 ·by_cases e:i=g;·subst e;have e2:=(show Option.some (EJ c T (0,0))=Option.some (EJ old S (0,0)) from hb.symm.trans k);injection e2 with e2;injection e2 with e3 e4;subst e3 e4;exact .inr ⟨cs,hm,hs,k.setRow cs⟩
  ·exact .inl (hb.setRow_other g cs e)
theorem JW.PH(h:JW Y8 w w')(hh:hi<=w.heap.size)(hm: ∀k S cs,Y8 k S=Option.some cs->hi<=k):Io hi w w':=
 ⟨h.os,h.tape,h.output,h.size,fun k hk=>h.keep k X fun c S _=>by
  cases e:Y8 k S with
  |none=>rfl
  |some cs=>have:=hm k S cs e;omega⟩
end
def EJv(n0:Nat)(T:EC)(n:Nat)(v:V)(w:M):Prop:= ∃(b:Nat) (c:Array V),v=Y (D ⟨b,0,Z⟩)/\n0<=b/\c.size=n/\H w b c T
def EJw(n0:Nat)(T:EC)(cs:Array V)(v:V)(w:M):Prop:= ∃b:Nat,v=Y (D ⟨b,0,Z⟩)/\n0<=b/\H w b cs T
inductive Kn where
 |val (p:V->Prop)
 |made (T:EC) (n:Nat)
 |into (k:Nat) (T:EC) (cs:Array V)
 |onto (g:Nat) (T:EC) (cs:Array V)
instance(x):CoeDep KQ (KQ.kq x) Kn:=⟨.val fun v=>v=x⟩
instance(g i):CoeDep KQ (KQ.kp g i) Kn:=⟨.val fun v=>v=Y (D ⟨g,i,Z⟩)⟩
def RK(n0:Nat)(K:Nat->Kn)(i:Nat)(x:Nat->V)(w:M):Prop:=match K i with
 | .val p=>p (x i)
 | .made T n=>EJv n0 T n (x i) w
 | .into k T cs=>EJw n0 T cs (x k) w
 | .onto g T cs=>H w g cs T
theorem RK.keep{K:Nat->Kn}{Rel:M->M->Prop}(h1: ∀i T m,i<n->K i= .made T m-> ∀b c w w',H w b c T->Rel w w'-> ∃c',c'.size=c.size/\H w' b c' T) (h2: ∀i k T cs,i<n->K i= .into k T cs-> ∀b w w',n0<=b->H w b cs T->Rel w w'->H w' b cs T) (h3: ∀i g T cs,i<n->K i= .onto g T cs-> ∀w w',H w g cs T->Rel w w'->H w' g cs T): ∀i x w w',i<n->RK n0 K i x w->Rel w w'->RK n0 K i x w':=by
 intro i x w w' hi h hr;unfold RK at*;cases e:K i with
 |val p=>rw[e] at h;exact h
 |made T m=> rw[e] at h;obtain⟨b,c,hv,hb,hs,hk⟩:=h;obtain⟨c',hs',hk'⟩:=h1 i T m hi e b c w w' hk hr;exact⟨b,c',hv,hb,hs'.trans hs,hk'⟩
 |into k T cs=> rw[e] at h;obtain⟨b,hv,hb,hk⟩:=h;exact⟨b,hv,hb,h2 i k T cs hi e b w w' hb hk hr⟩
 |onto g T cs=>rw[e] at h;exact h3 i g T cs hi e w w' h hr
def kM(n0:Nat)(Ks:List Kn)(b:Nat)(S:EC):Option (Array V):=Ks.findSome? fun k=>match k with
 | .into _ T cs=>if n0<=b/\S=T then D cs else Z
 | .onto g T cs=>if b=g/\S=T then D cs else Z
 |_=>Z
theorem PK{Ks:List Kn}{b:Nat}(h:kM n0 Ks b S=D cs): ∃k∈Ks,(∃j,k= .into j S cs/\n0<=b)\/(k= .onto b S cs):=by
 unfold kM at h;obtain⟨k,hk,hv⟩:=List.exists_of_findSome?_eq_some h;refine⟨k,hk,?_⟩;cases k with
 |val p=>cases hv
 |made T n=>cases hv
 |into j T c=>
  simp only at hv;split at hv;·rename_i he;obtain⟨h1,rfl⟩:=he;injection hv with hv;subst hv;exact .inl ⟨j,rfl,h1⟩
  ·cases hv
 |onto g T c=>
  simp only at hv;split at hv;·rename_i he;obtain⟨rfl,rfl⟩:=he;injection hv with hv;subst hv;exact .inr rfl
  ·cases hv
theorem EJx{Ks:List Kn}{b:Nat}(h:kM n0 Ks b S=D cs)(hon: ∀g T c,Kn.onto g T c∈Ks->hi<=g)(hn:hi<=n0):hi<=b:=by
 obtain⟨k,hk,⟨j,-,h1⟩|e⟩:=PK h;·exact EA hn h1
 ·subst e;exact hon b S cs hk
def Kn.st:Kn->Option EC
 | .into _ T _=>D T
 | .onto _ T _=>D T
 |_=>Z
def Kn.ty:Kn->Option EC
 | .made T _=>D T
 | .into _ T _=>D T
 | .onto _ T _=>D T
 |_=>Z
theorem PM: ∀{Ks:List Kn},(Ks.filterMap Kn.st).Nodup-> ∀{b:Nat} {T:EC} {cs c':Array V} {k:Kn},k∈Ks->(k.st=D T)->(∀c,(∃j,k= .into j T c)\/(∃g,k= .onto g T c)->c=cs)->kM n0 Ks b T=D c'->c'=cs:=by
 intro Ks hn b T cs c' k hk ht hc h;obtain⟨k',hk',h'⟩:=PK h;have ht':k'.st=D T:=by rcases h' with⟨j,rfl,-⟩|rfl<;>rfl
 have e:k=k':=by
  obtain⟨i,hi⟩:=aP.1 hk;obtain⟨i',hi'⟩:=aP.1 hk';clear hc h h' hk hk';induction Ks generalizing i i' with
  |nil=>simp at hi
  |cons a r ih=>
   have hr:(r.filterMap Kn.st).Nodup:=by
    cases ha:a.st with
    |none=>rw[List.filterMap_cons_none ha] at hn;exact hn
    |some s=>rw[List.filterMap_cons_some ha] at hn;exact(mC.1 hn).2
   have hmem: ∀(q:Kn) (Y3:Nat),r[Y3]?=D q->q.st=D T->a.st≠D T:=by intro q Y3 hu hq ha;rw[List.filterMap_cons_some ha] at hn;exact(mC.1 hn).1 (mB.2 ⟨q,aP.2 ⟨Y3,hu⟩,hq⟩)
   cases i with
   |zero=>
    cases i' with
    |zero=>simp at hi hi';exact hi.symm.trans hi'
    |succ Y3=>simp at hi hi';subst hi;exact absurd ht (hmem k' Y3 hi' ht')
   |succ v=>
    cases i' with
    |zero=>simp at hi hi';subst hi';exact absurd ht' (hmem k v hi ht)
    |succ Y3=>exact ih hr v Ug Y3 (by simpa using hi')
 subst e;rcases h' with⟨j,e,-⟩|e;·exact hc c' (.inl ⟨j,e⟩)
 ·exact hc c' (.inr ⟨b,e⟩)
def kN(Ks:List Kn)(i:Nat):Kn:=Ks.getD i (.val fun _=>True)
theorem uo{Ks:List Kn}(h:i<Ks.length):kN Ks i∈Ks:=by unfold kN;rw[UK,Ok h];exact hH h
section
variable{P:Program}{Q:Exit->Act->World->Prop}
def PR(o:EN)(a:E6)(T:EC)(g off:Nat)(cs:Array V):Prop:=match o.op with| .store t x y=>t=T/\a.eval x=Y (D ⟨g,off,Z⟩)/\a.eval y=EZ cs|_=>False
theorem PT{Rel:M->M->Prop}{x:Nat->V}{T:EC}{off:Nat}(hA:IW P T n)(hw:I_ o (Jd ops (F x).tmps)=u)(hl:PR o (F x) T g off cs)(ht:w.there g off n)(hn:cs.size=n) (h1:cs.all (·.oneCell')=u) (hb:Rel w (w.setCells g off cs.toList)) (h:R i (J4 x i I6) (w.setCells g off cs.toList)):Xb Rel P ops Q F R i o x w:=by
 obtain⟨-,hi⟩:=hA;unfold PR at hl;split at hl
 ·rename_i t a b hop;obtain⟨rfl,hx,hy⟩:=hl;unfold Xb;rw[if_pos hw];subst hn;have hrun:(Iw (F x).eval o).run P w= .ok .skip (w.setCells g off cs.toList):=by unfold Iw;simp only[hop,hx,hy,Ud,run_storeAt_mid w g off t cs ht hi h1,UU,Uf]
  unfold ah;rw[hrun];exact⟨I6,rfl,hb,h⟩
 ·exact EpD
theorem PW{Ij:M->M->Prop}(n0:Nat)(Ks:List Kn)(cs:List Nat)(ks:List (Nat×Nat))(hm:P.follows .mixedOrders=u)(hB:fV l.toArray=u)(hK:jf l.toArray cs ks=u)(hlk:(ks.all fun p=>decide (p.1<=cs.length))=u)(hnd:(O4 l).Nodup) (hcg:(cs.all fun c=>match l[c]? with|some o=>o.guard.isNone|none=>false)=u) (hlen:Ks.length=l.length) (hst:(Ks.filterMap Kn.st).Nodup) (hwt:((UA Ks.length).all fun i=>match kN Ks i with| .into k _ _=>(match l.toArray[i]? with|some o=>o.after.toList.any (fun e=>Oq .any e&&e.on==k)|none=>false)|_=>true)=u) (hPh: ∀b w w',Ph b w->JW (kM n0 Ks) w w'->Ph b w') (hR2: ∀T,T∈Ks.filterMap Kn.ty-> ∀b c w w',H w b c T->Ij w w'->H w' b c T) (h0:Ph 0 w0.drew) (hstep:fY Ph (JW (kM n0 Ks)) Ij P l.toArray Q (fun x=>EL l 0 x a0) (RK n0 (kN Ks)) cs 0 l ks) (hend: ∀x w,Ph cs.length w->(∀i,i<l.length->RK n0 (kN Ks) i x w)->IZ P l.toArray Q [] (EL l 0 x a0) w):(ZP id l.toArray u).wp P Q a0 w0:=by
 refine PG cs ks hm hB hK hlk hnd (RK n0 (kN Ks)) hcg hPh (RK.keep ?_ ?_ ?_) (RK.keep ?_ ?_ ?_) ?_ h0 hstep hend;·intro i T m _ _ b c w w' hb hr;exact hr.some hb
 ·intro i k T c hi he b w w' _ hb hr;refine hr.same hb fun c' hc'=> ?_
  exact PM hst (uo (X:i<Ks.length)) mP (fun c2 h=>by
   rw[he] at h;rcases h with⟨j,e⟩|⟨g,e⟩;·cases e;rfl
   ·cases e) hc'
 ·intro i g T c hi he w w' hb hr;refine hr.same hb fun c' hc'=> ?_
  exact PM hst (uo (X:i<Ks.length)) mP (fun c2 h=>by
   rw[he] at h;rcases h with⟨j,e⟩|⟨g,e⟩;·cases e
   ·cases e;rfl) hc'
 ·intro i T m hi he b c w w' hb hr;exact⟨c,U,hR2 T (mB.2 ⟨_,uo (X:i<Ks.length),mP⟩) b c w w' hb hr⟩
 ·intro i k T c hi he b w w' _ hb hr;exact hR2 T (mB.2 ⟨_,uo (X:i<Ks.length),mP⟩) b c w w' hb hr
 ·intro i g T c hi he w w' hb hr;exact hR2 T (mB.2 ⟨_,uo (X:i<Ks.length),mP⟩) g c w w' hb hr
 ·intro i x y w hi hq h;unfold RK at*;cases e:kN Ks i with
  |val p=>rw[e] at h;simp only at h⊢;rw[<-hq i (.inl U)];exact h
  |made T m=>rw[e] at h;simp only at h⊢;rw[<-hq i (.inl U)];exact h
  |into k T c=> rw[e] at h;simp only at h⊢;have h1:=UY.1 hwt i (Z6.2 X);rw[e] at h1;rw[<-hq k (.inr (uk h1))];exact h
  |onto g T c=>rw[e] at h;exact h
theorem FW{Rel:M->M->Prop}{x:Nat->V}(hw:I_ o (Jd ops (F x).tmps)=u) (hr:(Iw (F x).eval o).run P w= .ok .skip w') (hb:Rel w w') (h:R i (J4 x i I6) w'):Xb Rel P ops Q F R i o x w:=by unfold Xb;rw[if_pos hw];unfold ah;rw[hr];exact⟨I6,U,hb,h⟩
inductive rT(Rel Ij:M->M->Prop) where
 |val (p:V->Prop)
 |dep (s:V->M->Prop) (h1: ∀v w w',s v w->Rel w w'->s v w') (h2: ∀v w w',s v w->Ij w w'->s v w')
instance{Rel Ij}(x):CoeDep KQ (KQ.kq x) (rT Rel Ij):=⟨.val fun v=>v=x⟩
instance{Rel Ij}(g i):CoeDep KQ (KQ.kp g i) (rT Rel Ij):=⟨.val fun v=>v=Y (D ⟨g,i,Z⟩)⟩
def RS{Rel Ij:M->M->Prop}(K:Nat->rT Rel Ij)(i:Nat)(x:Nat->V)(w:M):Prop:=match K i with
 | .val p=>p (x i)
 | .dep s _ _=>s (x i) w
def kS{Rel Ij:M->M->Prop}(Ks:List (rT Rel Ij))(i:Nat):rT Rel Ij:=Ks.getD i (.val fun _=>True)
theorem FY{Rel Ij:M->M->Prop}(Ks:List (rT Rel Ij))(cs:List Nat)(ks:List (Nat×Nat))(hm:P.follows .mixedOrders=u)(hB:fV l.toArray=u)(hK:jf l.toArray cs ks=u)(hlk:(ks.all fun p=>decide (p.1<=cs.length))=u)(hnd:(O4 l).Nodup) (hcg:(cs.all fun c=>match l[c]? with|some o=>o.guard.isNone|none=>false)=u) (hPh: ∀b w w',Ph b w->Rel w w'->Ph b w') (h0:Ph 0 w0.drew) (hstep:fY Ph Rel Ij P l.toArray Q (fun x=>EL l 0 x a0) (RS (kS Ks)) cs 0 l ks) (hend: ∀x w,Ph cs.length w->(∀i,i<l.length->RS (kS Ks) i x w)->IZ P l.toArray Q [] (EL l 0 x a0) w):(ZP id l.toArray u).wp P Q a0 w0:=by
 refine PG cs ks hm hB hK hlk hnd (RS (kS Ks)) hcg hPh ?_ ?_ ?_ h0 hstep hend
 ·intro i x w w' _ h hr;unfold RS at*;split at h;·exact h
  ·rename_i s h1 h2 _;exact EoV
 ·intro i x w w' _ h hr;unfold RS at*;split at h;·exact h
  ·exact Eo2
 ·intro i x y w _ hq h;unfold RS at*;exact EoF
end
def Ln(W:M)(g:Nat)(L:List One)(rest:List V):Prop:=H W g (ID L++rest).toArray 171
def less(a b:One):Bool:=if a.r=b.r then decide (a.n<b.n) else decide (a.r<b.r)
theorem EJy(pre old post:List V)(o n:Nat)(ho:pre.length=o)(hn:old.length=n):(pre++(old++post)).toArray.extract o (o+n)=old.toArray:=by subst ho hn;simp
theorem EJz(L:List One)(i:Nat)(h:i<L.length)(rest:List V)(j:Nat)(hj:j<5):(ID L++rest)[i*5+j]?=(L[i]).v[j]?:=by
 induction L generalizing i with
 |nil=>simp at h
 |cons x r ih=>
  cases i with
  |zero=> simp only[ID,kj,U9,Nat.zero_mul,JV,List.getElem_cons_zero];rw[bM zU]
  |succ i=> have:=ih i Un;simp only[ID,kj,U9,List.getElem_cons_succ] at*;rw[ak zU,show(i+1)*5+j-x.v.length=i*5+j from zU];exact this
theorem Ln.cell(K:Ln W g L rest)(i:Nat)(h:L[i]?=D x):W.cell? ⟨g,i*5,Z⟩=D (E I x.s)/\W.cell? ⟨g,i*5+1,Z⟩=D (E I x.r)/\W.cell? ⟨g,i*5+2,Z⟩=D (E I x.a)/\W.cell? ⟨g,i*5+3,Z⟩=D (E I x.m)/\W.cell? ⟨g,i*5+4,Z⟩=D (E Il x.n):=by
 obtain⟨hl,rfl⟩:=UG.1 h;have hk: ∀j,j<5->W.cell? ⟨g,i*5+j,Z⟩=(L[i]).v[j]?:=fun j hj=>by rw[H.cell K,Og];exact EJz L i hl rest j hj
 exact⟨hk 0 X,hk 1 X,hk 2 X,hk 3 X,hk 4 X⟩
theorem fX(A:Option Eu)(n c:Nat)(w:M): Ef EU 272 #[EI A n c] w fun e w'=>e=Eg (E I n)/\w=w':=by go_enter Tryz.func272,Tryz.ntmps272;exact Els
theorem jg(g:Nat)(L:List One)(rest:List V)(n c:Nat)(i j:Nat)(x z:One)(hi:L[i]?=D x)(hj:L[j]?=D z)(hn:L.length=n)(w:M)(K:Ln w g L rest): Ef EU 273 #[EI (D ⟨g,0,Z⟩) n c,E I i,E I j] w fun e w'=>e=Eg (Ec (less x z))/\El w w':=by
 have hi2:i<n:=PY;have hj2:j<n:=P1;have CI:Ea (∀W,Ln W g L rest->W.cell? ⟨g,i*5+1,Z⟩=D (E I x.r)/\W.cell? ⟨g,i*5+4,Z⟩=D (E Il x.n)):=O fun W k=>by have:=Ln.cell k i hi;exact⟨this.2.1,this.2.2.2.2⟩
 have CJ:Ea (∀W,Ln W g L rest->W.cell? ⟨g,j*5+1,Z⟩=D (E I z.r)/\W.cell? ⟨g,j*5+4,Z⟩=D (E Il z.n)):=O fun W k=>by have:=Ln.cell k j hj;exact⟨this.2.1,this.2.2.2.2⟩
 have KK:=O K;have BB:=O<|IE w.heap.size w;clear K hi hj hn;by_cases hr:x.r=z.r
 ·have d1:(x.r !=z.r)=B:=by rw[hr];simp
  have ci: ∀y:Ext w,(Ey w y).cell? ⟨g,i*5+1,Z⟩=D (E I x.r):=fun y=>(CI.out _ (H.G KK.out (ED y))).1;have cj: ∀y:Ext w,(Ey w y).cell? ⟨g,j*5+1,Z⟩=D (E I z.r):=fun y=>(CJ.out _ (H.G KK.out (ED y))).1;have er:less x z=decide (x.n<z.n):=by unfold less;rw[if_pos hr]
  rw[er];clear er hr;go_enter Tryz.func273,Tryz.ntmps273;go_wp2_with fail;refine Xs Ed Ed ?_
  repeat (first
   |go_big_quiet_skip
   |(go_big_quiet_want
     first
      |(go_big_quiet_op
        first
         |go_big_quiet_on
         |go_big_quiet_call (fail))))
  refine IM ?_;intro _ hw';obtain⟨y9,rfl⟩:=hw';have Em:=ED y9;replace KK:Ea (Ln (Ey w y9) g L rest):=EQ KK Em;replace BB:=EW BB Em;clear ci cj;generalize Ey w y9=w1 at*;go_wp2_with fail;have ci: ∀y:Ext w1,(Ey w1 y).cell? ⟨g,i*5+4,Z⟩=D (E Il x.n):=fun y=>(CI.out _ (H.G KK.out (ED y))).2;have cj: ∀y:Ext w1,(Ey w1 y).cell? ⟨g,j*5+4,Z⟩=D (E Il z.n):=fun y=>(CJ.out _ (H.G KK.out (ED y))).2;clear Em;refine Xs Ed Ed ?_
  repeat (first
   |go_big_quiet_skip
   |(go_big_quiet_want
     first
      |(go_big_quiet_op
        first
         |go_big_quiet_on
         |go_big_quiet_call (fail))))
  refine IM ?_;exact EnE
 ·have d1:(x.r !=z.r)=u:=by simp[hr]
  have ci: ∀y:Ext w,(Ey w y).cell? ⟨g,i*5+1,Z⟩=D (E I x.r):=fun y=>(CI.out _ (H.G KK.out (ED y))).1;have cj: ∀y:Ext w,(Ey w y).cell? ⟨g,j*5+1,Z⟩=D (E I z.r):=fun y=>(CJ.out _ (H.G KK.out (ED y))).1;have er:less x z=decide (x.r<z.r):=by unfold less;rw[if_neg hr]
  rw[er];clear er hr;go_enter Tryz.func273,Tryz.ntmps273;go_wp2_with fail;refine Xs Ed Ed ?_
  repeat (first
   |go_big_quiet_skip
   |(go_big_quiet_want
     first
      |(go_big_quiet_op
        first
         |go_big_quiet_on
         |go_big_quiet_call (fail))))
  refine IM ?_;intro _ hw';obtain⟨y9,rfl⟩:=hw';have Em:=ED y9;replace KK:Ea (Ln (Ey w y9) g L rest):=EQ KK Em;replace BB:=EW BB Em;clear ci cj;generalize Ey w y9=w1 at*;go_wp2_with fail;have ci: ∀y:Ext w1,(Ey w1 y).cell? ⟨g,i*5+1,Z⟩=D (E I x.r):=fun y=>(CI.out _ (H.G KK.out (ED y))).1;have cj: ∀y:Ext w1,(Ey w1 y).cell? ⟨g,j*5+1,Z⟩=D (E I z.r):=fun y=>(CJ.out _ (H.G KK.out (ED y))).1;clear Em;refine Xs Ed Ed ?_
  repeat (first
   |go_big_quiet_skip
   |(go_big_quiet_want
     first
      |(go_big_quiet_op
        first
         |go_big_quiet_on
         |go_big_quiet_call (fail))))
  refine IM ?_;exact EnE
theorem b_:IW EU 171 5:=⟨⟨_,Tryz.underlying171,U⟩,Ed⟩
theorem P2(L:List One)(i:Nat){x:One}(h:L[i]?=D x)(y:One):ID L=ID (L.take i)++(x.v++ID (L.drop (i+1)))/\ID (L.set i y)=ID (L.take i)++(y.v++ID (L.drop (i+1))):=by
 obtain⟨hl,rfl⟩:=UG.1 h;have e: ∀(Y8:List One) (z:One),ID (Y8++z::L.drop (i+1))=ID Y8++(z.v++ID (L.drop (i+1))):=fun Y8 z=>by simp[ID]
 refine⟨?_,?_⟩;·rw[<-e,<-kJ hl,hU]
 ·rw[<-e,List.set_eq_take_append_cons_drop,if_pos hl]
theorem Ln.set(K:Ln W g L rest)(i:Nat)(h:L[i]?=D x)(y:One):Ln (W.setCells g (i*5) y.v) g (L.set i y) rest:=by have hl:=(UG.1 h).1;obtain⟨e1,e2⟩:=P2 L i h y;unfold Ln at*;rw[e1,U9,U9] at K;rw[e2,U9,U9];exact Zp y.v x.v _ (i*5) W K U P4
theorem Ln.there(K:Ln W g L rest)(i:Nat)(h:i<L.length):W.there g (i*5) 5:=by refine XN K ?_;rw[List.size_toArray,I2,bV];omega
theorem Ln.ext(i:Nat)(h:L[i]?=D x):(ID L++rest).toArray.extract (i*5) (i*5+5)=x.v.toArray:=by have hl:=(UG.1 h).1;obtain⟨e1,-⟩:=P2 L i h x;rw[e1,U9,U9];exact EJy _ _ _ _ _ P4 U
theorem One.one(x:One):x.v.toArray.all (·.oneCell')=u:=F0
theorem fZ(g:Nat)(L:List One)(rest:List V)(n c:Nat)(i j:Nat)(x z:One)(hi:L[i]?=D x)(hj:L[j]?=D z)(hn:L.length=n)(w:M)(K:Ln w g L rest): Ef EU 274 #[EI (D ⟨g,0,Z⟩) n c,E I i,E I j] w fun e w'=>e=Eg (Et #[])/\Ln w' g ((L.set i z).set j x) rest/\EH g w w':=by
 have hi2:i<n:=PY;have hj2:j<n:=P1;have LI:=O (show i<L.length from X);have LJ:=O (show j<L.length from X);have HI:=O hi;have HJ:=O hj;obtain⟨z2,hz2⟩: ∃z2,(L.set i z)[j]?=D z2:=⟨_,Ok (by simpa using LJ.out)⟩;have HJ2:=O hz2;have KK:=O K;clear K hi hj hn hz2;go_enter Tryz.func274,Tryz.ntmps274;refine PW (Ph:=fun p wq=>match p with|0=>Ln wq g L rest/\EH g w wq|1=>Ln wq g (L.set i z) rest/\EH g w wq|_=>Ln wq g ((L.set i z).set j x) rest/\EH g w wq) (Ij:=fun _ _=>True) (w.heap.size) [kq (EI (D ⟨g,0,Z⟩) n c),kq (E I (i:Int)),kq (EI (D ⟨g,0,Z⟩) n c),kq (E I (j:Int)),kq (EI (D ⟨g,0,Z⟩) n c),kq (E I (j:Int)),kq (Y (D ⟨g,j*5,Z⟩)),kq (EZ z.v.toArray),kq (EI (D ⟨g,0,Z⟩) n c),kq (E I (i:Int)),kq (Y (D ⟨g,i*5,Z⟩)),kq (EZ x.v.toArray),kq (Y (D ⟨g,i*5,Z⟩)),.val (fun _=>True),kq (Y (D ⟨g,j*5,Z⟩)),.val (fun _=>True)] [13,15] [(0,0),(0,0),(0,1),(0,1),(0,0),(0,0),(0,0),(0,0),(0,0),(0,0),(0,0),(0,0),(0,0),(0,0),(1,1),(1,1)] Ed Ed Ed Ed U_ Ed U (show List.Nodup ([]:List EC) from Eb) hM ?hPh ?hR2 ?h0 ?hstep ?hend
 case hPh=>
  exact fun p w1 w2 h hr=>by
   have hb:=hr.PH (E7 _) (fun k S cs hk=>by simp[kM] at hk);match p,h with
   |0,h=>exact⟨H.G h.1 hb,h.2.trans (EH.Ew hb)⟩
   |1,h=>exact⟨H.G h.1 hb,h.2.trans (EH.Ew hb)⟩
   |_+2,h=>exact⟨H.G h.1 hb,h.2.trans (EH.Ew hb)⟩
 case hR2=> intro T hT;simp[Kn.ty] at hT
 case h0=> exact⟨KK.out.drew,EH.Ew (Jk w)⟩
 case hstep=>
  refine⟨?_,?_,?_,?_,?_,?_,?_,?_,?_,?_,?_,?_,?_,?_,?_,?_,trivial⟩;all_goals first|intro xv wq p hlo hhi hp hd|intro xv wq hp hd
  all_goals simp only[EL,In,Ip,Ig,Ih]
  ·exact EmR
  ·exact EmR
  ·exact EnU
  ·exact EnU
  ·exact EmR
  ·exact EmR
  ·obtain rfl:p=0:=X;have d4:xv 4=EI (D ⟨g,0,Z⟩) n c:=hd.at 4 rfl;have d5:xv 5=E I (j:Int):=hd.at 5 rfl;exact IQ JW.kept (Ei U) (by simp[go_sem,d4,d5,hj2]) U
  ·obtain rfl:p=0:=X;have d6:xv 6=Y (D ⟨g,j*5,Z⟩):=hd.at 6 rfl;exact aV JW.kept b_ (Ei U) ⟨U,d6⟩ (hp.1) U (Ln.ext j HJ.out) U
  ·exact EmR
  ·exact EmR
  ·obtain rfl:p=0:=X;have d8:xv 8=EI (D ⟨g,0,Z⟩) n c:=hd.at 8 rfl;have d9:xv 9=E I (i:Int):=hd.at 9 rfl;exact IQ JW.kept (Ei U) (by simp[go_sem,d8,d9,hi2]) U
  ·obtain rfl:p=0:=X;have d10:xv 10=Y (D ⟨g,i*5,Z⟩):=hd.at 10 rfl;exact aV JW.kept b_ (Ei U) ⟨U,d10⟩ (hp.1) U (Ln.ext i HI.out) U
  ·obtain rfl:p=0:=X;have d0:xv 0=EI (D ⟨g,0,Z⟩) n c:=hd.at 0 rfl;have d1:xv 1=E I (i:Int):=hd.at 1 rfl;exact IQ JW.kept (Ei U) (by simp[go_sem,d0,d1,hi2]) U
  ·have d12:xv 12=Y (D ⟨g,i*5,Z⟩):=hd.at 12 rfl;have d7:xv 7=EZ z.v.toArray:=hd.at 7 rfl;exact PT b_ (Ei U) ⟨U,d12,d7⟩ (Ln.there hp.1 i (by simpa using LI.out)) U (One.one _) ⟨trivial,⟨Ln.set hp.1 i HI.out z,hp.2.trans (Jq _ _ _)⟩⟩ trivial
  ·obtain rfl:p=1:=X;have d2:xv 2=EI (D ⟨g,0,Z⟩) n c:=hd.at 2 rfl;have d3:xv 3=E I (j:Int):=hd.at 3 rfl;exact IQ JW.kept (Ei U) (by simp[go_sem,d2,d3,hj2]) U
  ·have d14:xv 14=Y (D ⟨g,j*5,Z⟩):=hd.at 14 rfl;have d11:xv 11=EZ x.v.toArray:=hd.at 11 rfl;exact PT b_ (Ei U) ⟨U,d14,d11⟩ (Ln.there hp.1 j (by simpa using LJ.out)) U (One.one _) ⟨trivial,⟨Ln.set hp.1 j HJ2.out x,hp.2.trans (Jq _ _ _)⟩⟩ trivial
 case hend=> intro x2 W6 hp hr;clear hr;simp only[EL,In,Ip,Ig,Ih];have HP:=O hp;clear hp;go_wp2_with fail;go_end0;exact⟨U,HP.out⟩
def Ju:List One->List One
 |[a,b]=>if less b a then [b,a] else [a,b]
 |[a,b,c]=>if less b a then(if less c a then(if less c b then [c,b,a] else [b,c,a]) else [b,a,c]) else(if less c b then(if less c a then [c,a,b] else [a,c,b]) else [a,b,c])
 |l=>l
theorem h_: ∀(L:List One),(Ju L).length=L.length
 |[]=>rfl
 |[_]=>rfl
 |[a,b]=>by simp only[Ju];split<;>rfl
 |[a,b,c]=>by
  simp only[Ju];repeat' split
  all_goals rfl
 |_::_::_::_::_=>rfl
theorem EJA(g:Nat)(a b:One)(rest:List V)(c:Nat)(w:M)(K:Ln w g [a,b] rest): Ef EU 191 #[.iface 149 (EI (D ⟨g,0,Z⟩) 2 c),E I 0,E I 2] w fun e w'=>e=Eg (Et #[])/\Ln w' g (Ju [a,b]) rest/\EH g w w':=by
 have mL: ∀w,UC EU (X8 460 149 (EI (D ⟨g,0,Z⟩) 2 c) "Less") w= .ok (273,EI (D ⟨g,0,Z⟩) 2 c) w:=fun _=>Ed;have mS: ∀w,UC EU (X8 460 149 (EI (D ⟨g,0,Z⟩) 2 c) "Swap") w= .ok (274,EI (D ⟨g,0,Z⟩) 2 c) w:=fun _=>Ed;have eL: ∀(args:Array V) (W:M),(Jj 273 args).run EU W= .ok (.enter 273 args) W:=fun _ _=>Ed;have eS: ∀(args:Array V) (W:M),(Jj 274 args).run EU W= .ok (.enter 274 args) W:=fun _ _=>Ed;have K:=O K;have ON:=O<|EH.refl g w;go_enter Tryz.func191,Tryz.ntmps191;(iterate 2 go_wp2_with fail;refine O9 3 ?_;rw[Ic]);go_wp2_with fail;have C1:Ef EU 273 #[EI (D ⟨g,0,Z⟩) 2 c,E I 1,E I 0] w _:=jg g [a,b] rest 2 c 1 0 b a U U U w K.out;replace C1:=O C1;cases l1:less b a;·rw[l1] at C1;refine C1.out.mono ?_;rintro e w1 ⟨rfl,b1⟩;replace K:Ea (Ln w1 g [a,b] rest):=EQ K b1;replace ON:=O<|ON.out.trans (EH.Ew b1);have h1:=O l1;clear b1 C1 l1;go_wp2_with fail;rw[Ic];exact EoI
 ·rw[l1] at C1;refine C1.out.mono ?_;rintro e w1 ⟨rfl,b1⟩;replace K:Ea (Ln w1 g [a,b] rest):=EQ K b1;replace ON:=O<|ON.out.trans (EH.Ew b1);have h1:=O l1;clear b1 C1 l1;go_wp2_with fail;have C2:Ef EU 274 #[EI (D ⟨g,0,Z⟩) 2 c,E I 1,E I 0] w1 _:=fZ g [a,b] rest 2 c 1 0 b a U U U w1 K.out;refine C2.mono ?_;rintro e w2 ⟨rfl,k2,o2⟩;replace K:Ea (Ln w2 g [b,a] rest):=O k2;replace ON:=O<|ON.out.trans o2;clear k2 o2 C2;(iterate 2 go_wp2_with fail;rw[Ic]);exact EoI
theorem EJB(g:Nat)(a b d:One)(rest:List V)(c:Nat)(w:M)(K:Ln w g [a,b,d] rest): Ef EU 191 #[.iface 149 (EI (D ⟨g,0,Z⟩) 3 c),E I 0,E I 3] w fun e w'=>e=Eg (Et #[])/\Ln w' g (Ju [a,b,d]) rest/\EH g w w':=by
 have mL: ∀w,UC EU (X8 460 149 (EI (D ⟨g,0,Z⟩) 3 c) "Less") w= .ok (273,EI (D ⟨g,0,Z⟩) 3 c) w:=fun _=>Ed;have mS: ∀w,UC EU (X8 460 149 (EI (D ⟨g,0,Z⟩) 3 c) "Swap") w= .ok (274,EI (D ⟨g,0,Z⟩) 3 c) w:=fun _=>Ed;have eL: ∀(args:Array V) (W:M),(Jj 273 args).run EU W= .ok (.enter 273 args) W:=fun _ _=>Ed;have eS: ∀(args:Array V) (W:M),(Jj 274 args).run EU W= .ok (.enter 274 args) W:=fun _ _=>Ed;have K:=O K;have ON:=O<|EH.refl g w;go_enter Tryz.func191,Tryz.ntmps191;go_wp2_with fail;refine O9 4 ?_;rw[Ic];go_wp2_with fail;refine O9 3 ?_;rw[Ic];go_wp2_with fail;have C1:Ef EU 273 #[EI (D ⟨g,0,Z⟩) 3 c,E I 1,E I 0] w _:=jg g [a,b,d] rest 3 c 1 0 b a U U U w K.out;replace C1:=O C1;cases l1:less b a
 ·
   rw[l1] at C1;refine C1.out.mono ?_;rintro e w1 ⟨rfl,b1⟩;replace K:Ea (Ln w1 g [a,b,d] rest):=EQ K b1;replace ON:=O<|ON.out.trans (EH.Ew b1);have h1:=O l1;clear b1 C1 l1;go_wp2_with fail;rw[Ic];go_wp2_with fail;refine O9 3 ?_;rw[Ic];go_wp2_with fail;have C2:Ef EU 273 #[EI (D ⟨g,0,Z⟩) 3 c,E I 2,E I 1] w1 _:=jg g [a,b,d] rest 3 c 2 1 d b U U U w1 K.out;replace C2:=O C2;cases l2:less d b;·rw[l2] at C2;refine C2.out.mono ?_;rintro e w2 ⟨rfl,b2⟩;replace K:Ea (Ln w2 g [a,b,d] rest):=EQ K b2;replace ON:=O<|ON.out.trans (EH.Ew b2);have h2:=O l2;clear b2 C2 l2;go_wp2_with fail;rw[Ic];go_wp2_with fail;go_end0;refine⟨U,?_,ON.out⟩;simp only[Ju,h1.out,h2.out,if_true,kn,if_false];exact K.out
   ·
     rw[l2] at C2;refine C2.out.mono ?_;rintro e w2 ⟨rfl,b2⟩;replace K:Ea (Ln w2 g [a,b,d] rest):=EQ K b2;replace ON:=O<|ON.out.trans (EH.Ew b2);have h2:=O l2;clear b2 C2 l2;go_wp2_with fail;have C3:Ef EU 274 #[EI (D ⟨g,0,Z⟩) 3 c,E I 2,E I 1] w2 _:=fZ g [a,b,d] rest 3 c 2 1 d b U U U w2 K.out;refine C3.mono ?_;rintro e w3 ⟨rfl,k3,o3⟩;replace K:Ea (Ln w3 g [a,d,b] rest):=O k3;replace ON:=O<|ON.out.trans o3;clear k3 o3 C3;go_wp2_with fail;rw[Ic];go_wp2_with fail;have C4:Ef EU 273 #[EI (D ⟨g,0,Z⟩) 3 c,E I 1,E I 0] w3 _:=jg g [a,d,b] rest 3 c 1 0 d a U U U w3 K.out;replace C4:=O C4;cases l4:less d a;·rw[l4] at C4;refine C4.out.mono ?_;rintro e w4 ⟨rfl,b4⟩;replace K:Ea (Ln w4 g [a,d,b] rest):=EQ K b4;replace ON:=O<|ON.out.trans (EH.Ew b4);have h4:=O l4;clear b4 C4 l4;go_wp2_with fail;rw[Ic];exact EnW
     ·rw[l4] at C4;refine C4.out.mono ?_;rintro e w4 ⟨rfl,b4⟩;replace K:Ea (Ln w4 g [a,d,b] rest):=EQ K b4;replace ON:=O<|ON.out.trans (EH.Ew b4);have h4:=O l4;clear b4 C4 l4;go_wp2_with fail;have C5:Ef EU 274 #[EI (D ⟨g,0,Z⟩) 3 c,E I 1,E I 0] w4 _:=fZ g [a,d,b] rest 3 c 1 0 d a U U U w4 K.out;refine C5.mono ?_;rintro e w5 ⟨rfl,k5,o5⟩;replace K:Ea (Ln w5 g [d,a,b] rest):=O k5;replace ON:=O<|ON.out.trans o5;clear k5 o5 C5;(iterate 2 go_wp2_with fail;rw[Ic]);exact EnW
 ·
   rw[l1] at C1;refine C1.out.mono ?_;rintro e w1 ⟨rfl,b1⟩;replace K:Ea (Ln w1 g [a,b,d] rest):=EQ K b1;replace ON:=O<|ON.out.trans (EH.Ew b1);have h1:=O l1;clear b1 C1 l1;go_wp2_with fail;have C6:Ef EU 274 #[EI (D ⟨g,0,Z⟩) 3 c,E I 1,E I 0] w1 _:=fZ g [a,b,d] rest 3 c 1 0 b a U U U w1 K.out;refine C6.mono ?_;rintro e w6 ⟨rfl,k6,o6⟩;replace K:Ea (Ln w6 g [b,a,d] rest):=O k6;replace ON:=O<|ON.out.trans o6;clear k6 o6 C6;(iterate 2 go_wp2_with fail;rw[Ic]);go_wp2_with fail;refine O9 3 ?_;rw[Ic];go_wp2_with fail;have C7:Ef EU 273 #[EI (D ⟨g,0,Z⟩) 3 c,E I 2,E I 1] w6 _:=jg g [b,a,d] rest 3 c 2 1 d a U U U w6 K.out;replace C7:=O C7;cases l7:less d a;·rw[l7] at C7;refine C7.out.mono ?_;rintro e w7 ⟨rfl,b7⟩;replace K:Ea (Ln w7 g [b,a,d] rest):=EQ K b7;replace ON:=O<|ON.out.trans (EH.Ew b7);have h7:=O l7;clear b7 C7 l7;go_wp2_with fail;rw[Ic];go_wp2_with fail;go_end0;refine⟨U,?_,ON.out⟩;simp only[Ju,h1.out,h7.out,if_true,kn,if_false];exact K.out
   ·
     rw[l7] at C7;refine C7.out.mono ?_;rintro e w7 ⟨rfl,b7⟩;replace K:Ea (Ln w7 g [b,a,d] rest):=EQ K b7;replace ON:=O<|ON.out.trans (EH.Ew b7);have h7:=O l7;clear b7 C7 l7;go_wp2_with fail;have C8:Ef EU 274 #[EI (D ⟨g,0,Z⟩) 3 c,E I 2,E I 1] w7 _:=fZ g [b,a,d] rest 3 c 2 1 d a U U U w7 K.out;refine C8.mono ?_;rintro e w8 ⟨rfl,k8,o8⟩;replace K:Ea (Ln w8 g [b,d,a] rest):=O k8;replace ON:=O<|ON.out.trans o8;clear k8 o8 C8;go_wp2_with fail;rw[Ic];go_wp2_with fail;have C9:Ef EU 273 #[EI (D ⟨g,0,Z⟩) 3 c,E I 1,E I 0] w8 _:=jg g [b,d,a] rest 3 c 1 0 d b U U U w8 K.out;replace C9:=O C9;cases l9:less d b;·rw[l9] at C9;refine C9.out.mono ?_;rintro e w9 ⟨rfl,b9⟩;replace K:Ea (Ln w9 g [b,d,a] rest):=EQ K b9;replace ON:=O<|ON.out.trans (EH.Ew b9);have h9:=O l9;clear b9 C9 l9;go_wp2_with fail;rw[Ic];exact EnV
     ·rw[l9] at C9;refine C9.out.mono ?_;rintro e w9 ⟨rfl,b9⟩;replace K:Ea (Ln w9 g [b,d,a] rest):=EQ K b9;replace ON:=O<|ON.out.trans (EH.Ew b9);have h9:=O l9;clear b9 C9 l9;go_wp2_with fail;have P5:Ef EU 274 #[EI (D ⟨g,0,Z⟩) 3 c,E I 1,E I 0] w9 _:=fZ g [b,d,a] rest 3 c 1 0 d b U U U w9 K.out;refine P5.mono ?_;rintro e UD ⟨rfl,k10,o_⟩;replace K:Ea (Ln UD g [d,b,a] rest):=O k10;replace ON:=O<|ON.out.trans o_;clear k10 o_ P5;(iterate 2 go_wp2_with fail;rw[Ic]);exact EnV
theorem EJC(w:M):Ef EU 190 #[E Il 2] w fun e w'=>e=Eg (E I 2)/\w=w':=by go_enter Tryz.func190,Tryz.ntmps190;go_wp2;go_ret;refine⟨congrArg Eg (congrArg (E IntKind.i64) ?_),U⟩;show wrap64 (wrap64 (Lib.len8 2))=2;rw[Lib.len8_of 2 X X];have e:Lib.bitLenAux 64 2=2:=hM;simp[Lib.bitLen,wrap64,e]
theorem EJD(w:M):Ef EU 190 #[E Il 3] w fun e w'=>e=Eg (E I 2)/\w=w':=by go_enter Tryz.func190,Tryz.ntmps190;go_wp2;go_ret;refine⟨congrArg Eg (congrArg (E IntKind.i64) ?_),U⟩;show wrap64 (wrap64 (Lib.len8 3))=2;rw[Lib.len8_of 3 X X];have e:Lib.bitLenAux 64 3=2:=hM;simp[Lib.bitLen,wrap64,e]
theorem EJF(A:Option Eu)(c:Nat)(w:M): Ef EU 109 #[.iface 149 (EI A 0 c)] w fun e w'=>e=Eg (Et #[])/\w=w':=by have mL: ∀w,UC EU (X8 460 149 (EI A 0 c) "Len") w= .ok (272,EI A 0 c) w:=fun _=>Ed;have eL: ∀(args:Array V) (W:M),(Jj 272 args).run EU W= .ok (.enter 272 args) W:=fun _ _=>Ed;go_enter Tryz.func109,Tryz.ntmps109;go_wp2_with fail;refine(fX A 0 c _).mono ?_;rintro e w2 ⟨rfl,rfl⟩;rw[show((0:Nat):Int)=0 from rfl];exact EpB
theorem sort_1(A:Option Eu)(c:Nat)(w:M): Ef EU 109 #[.iface 149 (EI A 1 c)] w fun e w'=>e=Eg (Et #[])/\w=w':=by have mL: ∀w,UC EU (X8 460 149 (EI A 1 c) "Len") w= .ok (272,EI A 1 c) w:=fun _=>Ed;have eL: ∀(args:Array V) (W:M),(Jj 272 args).run EU W= .ok (.enter 272 args) W:=fun _ _=>Ed;go_enter Tryz.func109,Tryz.ntmps109;go_wp2_with fail;refine(fX A 1 c _).mono ?_;rintro e w2 ⟨rfl,rfl⟩;rw[show((1:Nat):Int)=1 from rfl];exact EpB
theorem EJG(g:Nat)(a b:One)(rest:List V)(c:Nat)(w:M)(K:Ln w g [a,b] rest): Ef EU 109 #[.iface 149 (EI (D ⟨g,0,Z⟩) 2 c)] w fun e w'=>e=Eg (Et #[])/\Ln w' g (Ju [a,b]) rest/\EH g w w':=by have K:=O K;have mL: ∀w,UC EU (X8 460 149 (EI (D ⟨g,0,Z⟩) 2 c) "Len") w= .ok (272,EI (D ⟨g,0,Z⟩) 2 c) w:=fun _=>Ed;have eL: ∀(args:Array V) (W:M),(Jj 272 args).run EU W= .ok (.enter 272 args) W:=fun _ _=>Ed;go_enter Tryz.func109,Tryz.ntmps109;go_wp2_with fail;refine(fX _ 2 c _).mono ?_;rintro e w2 ⟨rfl,rfl⟩;go_wp2_with (first|(go_at_call 190;(with_reducible refine(EJC _).mono ?_);rintro e w2 ⟨rfl,rfl⟩)|(go_at_call 153;go_in)|(go_at_call 154;go_in));refine O9 1 ?_;rw[Ic];go_wp2_with fail;refine(EJA g a b rest c _ K.out).mono ?_;exact EnT
theorem EJH(g:Nat)(a b d:One)(rest:List V)(c:Nat)(w:M)(K:Ln w g [a,b,d] rest): Ef EU 109 #[.iface 149 (EI (D ⟨g,0,Z⟩) 3 c)] w fun e w'=>e=Eg (Et #[])/\Ln w' g (Ju [a,b,d]) rest/\EH g w w':=by have K:=O K;have mL: ∀w,UC EU (X8 460 149 (EI (D ⟨g,0,Z⟩) 3 c) "Len") w= .ok (272,EI (D ⟨g,0,Z⟩) 3 c) w:=fun _=>Ed;have eL: ∀(args:Array V) (W:M),(Jj 272 args).run EU W= .ok (.enter 272 args) W:=fun _ _=>Ed;go_enter Tryz.func109,Tryz.ntmps109;go_wp2_with fail;refine(fX _ 3 c _).mono ?_;rintro e w2 ⟨rfl,rfl⟩;go_wp2_with (first|(go_at_call 190;(with_reducible refine(EJD _).mono ?_);rintro e w2 ⟨rfl,rfl⟩)|(go_at_call 153;go_in)|(go_at_call 154;go_in));refine O9 1 ?_;rw[Ic];go_wp2_with fail;refine(EJB g a b d rest c _ K.out).mono ?_;exact EnT
theorem EV:IW EU 109 8:=⟨⟨_,Tryz.underlying109,U⟩,Ed⟩
def Uj(h e o oa om la lm:Int)(b:Bool):Array V:= #[E I h,E I e,E I o,E I oa,E I om,E I la,E I lm,Ec b]
def EG.a(t:EG):V:=EZ (Uj t.h t.e t.o t.oa t.om t.la t.lm t.bad)
theorem f9(h e o oa om la lm:Int)(b:Bool):(Uj h e o oa om la lm b).all (·.oneCell')=u:=by simp[Uj,OC]
theorem F1(t:EG)(IY e2:Int)(w:M): Ef EU 67 #[t.a,E I IY,E I e2] w fun x w'=>x=Eg (t.pass IY e2).a/\El w w':=by unfold EG.a EG.pass Uj;obtain⟨h,e,o,oa,om,la,lm,b⟩:=t;simp only;go_enter Tryz.func67,Tryz.ntmps67;go_wp2_with fail;refine ET (by simp[Xa,Tryz.results67,go_sem]) U ⟨U,?_⟩;exact af _ _ _ _
theorem rV(t:EG)(IY:Int)(w:M)(he: -9223372036854775808<=t.e): Ef EU 140 #[t.a,E I IY] w fun x w'=>x=Eg (Et #[(t.Uq IY).1.a,E I (t.Uq IY).2])/\El w w':=by
 have CP:=O<|fun e2 W=>F1 t IY e2 W;unfold EG.Uq;unfold EG.a at*;obtain⟨h,e,o,oa,om,la,lm,b⟩:=t;simp only[EG.pass] at*;by_cases h1:IY<0;·rw[if_pos (.inl h1)];have d1:decide (IY<0)=u:=Ib h1;clear CP;exact Emf
 have d1:decide (IY<0)=B:=IJ h1;by_cases h2:5<=IY;·rw[if_pos (.inr h2)];have d2:decide (5<=IY)=u:=Ib h2;clear h1 h2 CP;exact Emf
 have d2:decide (5<=IY)=B:=IJ h2;rw[if_neg X];by_cases h3:IY=h
 ·rw[if_pos h3];have d3:(IY==h)=u:=by rw[h3];exact beq_self_eq_true _
  clear h1 h2 h3 CP;exact Emf
 have d3:(IY==h)=B:=beq_eq_false_iff_ne.2 h3;rw[if_neg h3];by_cases h4:65535<=e;·rw[if_pos h4];have d4:decide (65535<=e)=u:=Ib h4;clear h1 h2 h3 h4 CP;exact Emf
 have d4:decide (65535<=e)=B:=IJ h4;rw[if_neg h4];have we:IntKind.i64.wrap (e+1)=e+1:=rW;clear h1 h2 h3 h4 he;replace CP:=O<|CP.out (e+1);obtain⟨r,hr⟩:=En (Uj IY (e+1) (-1) 0 0 0 0 b);rw[<-hr] at CP⊢;have SR:Ea (r.size=8):=O uq;have OR:Ea (r.all (·.oneCell')=u):=O zZ;clear hr;unfold Uj at*;go_enter Tryz.func140,Tryz.ntmps140;go_wp2_with fail;have K4:=O<|H.new' (w.alloc (EJ #[E I h,E I e,E I o,E I oa,E I om,E I la,E I lm,Ec b] 109)) #[E I 0,E I 0,E I 0,E I 0,E I 0,E I 0,E I 0,Ec B] 109 (g:=w.heap.size+1) Eh;have BB:=O<|J9 w (EJ #[E I h,E I e,E I o,E I oa,E I om,E I la,E I lm,Ec b] 109) (EJ #[E I 0,E I 0,E I 0,E I 0,E I 0,E I 0,E I 0,Ec B] 109);generalize (w.alloc (EJ #[E I h,E I e,E I o,E I oa,E I om,E I la,E I lm,Ec b] 109)).alloc (EJ #[E I 0,E I 0,E I 0,E I 0,E I 0,E I 0,E I 0,Ec B] 109)=w1 at*;refine(CP.out _).mono ?_;rintro x w2 ⟨rfl,b2⟩;replace K4:=O<|K4.out.G b2;replace BB:=EW BB b2;clear b2;go_wp2_with (with_reducible refine wS (cs:=r) EV K4 ?_ (hn:=SR.out) (h1:=OR.out));refine ET (UM EV U _ _ (w.heap.size+1) r _ U U (K4.out.setRow r) SR.out) U ⟨U,?_⟩;exact Eo3
theorem ur(t:EG)(w:M)(h1: -9223372036854775808<=t.e): Ef EU 96 #[t.a] w fun x w'=>x=Eg t.bT.a/\El w w':=by
 have CP:=O<|fun e2 W=>F1 t 4 e2 W;have CS:=O<|fun W=>uJ t.e 65535 W h1 X;unfold EG.bT;unfold EG.a at*;obtain⟨h,e,o,oa,om,la,lm,b⟩:=t;simp only[EG.pass] at*;clear h1;by_cases h4:h=4
 ·rw[if_neg iI];have d4:(h !=4)=B:=by rw[h4];rfl
  clear CS;subst h4;replace CP:=O<|CP.out e;obtain⟨r,hr⟩:=En (Uj 4 e (-1) 0 0 0 0 b);rw[<-hr] at CP⊢;have SR:Ea (r.size=8):=O uq;have OR:Ea (r.all (·.oneCell')=u):=O zZ;clear hr;unfold Uj at*;go_enter Tryz.func96,Tryz.ntmps96;go_wp2_with fail;have K4:=O<|H.new' (w.alloc (EJ #[E I 4,E I e,E I o,E I oa,E I om,E I la,E I lm,Ec b] 109)) #[E I 0,E I 0,E I 0,E I 0,E I 0,E I 0,E I 0,Ec B] 109 (g:=w.heap.size+1) Eh;have BB:=O<|J9 w (EJ #[E I 4,E I e,E I o,E I oa,E I om,E I la,E I lm,Ec b] 109) (EJ #[E I 0,E I 0,E I 0,E I 0,E I 0,E I 0,E I 0,Ec B] 109);generalize (w.alloc (EJ #[E I 4,E I e,E I o,E I oa,E I om,E I la,E I lm,Ec b] 109)).alloc (EJ #[E I 0,E I 0,E I 0,E I 0,E I 0,E I 0,E I 0,Ec B] 109)=w1 at*;exact Emc
 ·rw[if_pos h4];have d4:(h !=4)=u:=iI;generalize sat e 65535=e2 at*;replace CP:=O<|CP.out e2;obtain⟨r,hr⟩:=En (Uj 4 e2 (-1) 0 0 0 0 b);rw[<-hr] at CP⊢;have SR:Ea (r.size=8):=O uq;have OR:Ea (r.all (·.oneCell')=u):=O zZ;clear hr h4;unfold Uj at*;go_enter Tryz.func96,Tryz.ntmps96;go_wp2_with fail;refine(CS.out _).mono ?_;rintro x w2 ⟨rfl,rfl⟩;go_wp2_with fail;have K4:=O<|H.new' (w.alloc (EJ #[E I h,E I e,E I o,E I oa,E I om,E I la,E I lm,Ec b] 109)) #[E I 0,E I 0,E I 0,E I 0,E I 0,E I 0,E I 0,Ec B] 109 (g:=w.heap.size+1) Eh;have BB:=O<|J9 w (EJ #[E I h,E I e,E I o,E I oa,E I om,E I la,E I lm,Ec b] 109) (EJ #[E I 0,E I 0,E I 0,E I 0,E I 0,E I 0,E I 0,Ec B] 109);generalize (w.alloc (EJ #[E I h,E I e,E I o,E I oa,E I om,E I la,E I lm,Ec b] 109)).alloc (EJ #[E I 0,E I 0,E I 0,E I 0,E I 0,E I 0,E I 0,Ec B] 109)=w1 at*;exact Emc
theorem EJK(t:EG)(s:Int)(w:M): Ef EU 146 #[t.a,E I s] w fun x w'=>x=Eg (Et #[(t.drop s).1.a,Ec (t.drop s).2])/\El w w':=by
 unfold EG.drop;unfold EG.a;obtain⟨h,e,o,oa,om,la,lm,b⟩:=t;simp only[EG.end_];by_cases h1:o<0;·rw[if_pos (.inl h1)];have d1:decide (0<=o)=B:=IJ X;unfold Uj;clear h1;exact Ep5
 have d1:decide (0<=o)=u:=Ib X;by_cases h2:o=s;·rw[if_neg X];have d2:(o !=s)=B:=za;unfold Uj;clear h1;subst h2;go_enter Tryz.func146,Tryz.ntmps146;go_wp2;refine ET (v:=EZ #[E I h,E I e,E I (-1),E I 0,E I 0,E I la,E I lm,Ec b]) F3 U ?_;exact Ep7
 ·rw[if_pos (.inr h2)];have d2:(o !=s)=u:=by simp[h2]
  unfold Uj;clear h1 h2;exact Ep5
theorem EJL(t:EG)(s:Int)(w:M): Ef EU 180 #[t.a,E I s] w fun x w'=>x=Eg (Et #[(t.oW s).1.a,E I (t.oW s).2])/\El w w':=by
 unfold EG.oW;unfold EG.a;obtain⟨h,e,o,oa,om,la,lm,b⟩:=t;simp only[EG.end_];by_cases h1:o<0;·rw[if_pos (.inl h1)];have d1:decide (0<=o)=B:=IJ X;unfold Uj;clear h1;exact Ep4
 have d1:decide (0<=o)=u:=Ib X;by_cases h2:o=s;·rw[if_neg X];have d2:(o !=s)=B:=za;unfold Uj;clear h1;subst h2;go_enter Tryz.func180,Tryz.ntmps180;go_wp2;refine ET (v:=EZ #[E I h,E I e,E I (-1),E I 0,E I 0,E I la,E I lm,Ec b]) F3 U ?_;exact Ep6
 ·rw[if_pos (.inr h2)];have d2:(o !=s)=u:=by simp[h2]
  unfold Uj;clear h1 h2;exact Ep4
theorem EJM(t:EG)(w:M):Ef EU 150 #[t.a] w fun x w'=>x=Eg t.end_.a/\El w w':=by unfold EG.a;obtain⟨h,e,o,oa,om,la,lm,b⟩:=t;simp only[EG.end_];unfold Uj;go_enter Tryz.func150,Tryz.ntmps150;go_wp2;refine ET F3 U ⟨U,?_⟩;exact Elx
theorem EJN(t:EG)(w:M)(h1: -9223372036854775808<=t.oa)(h3:t.om<=9223372036854775807): Ef EU 104 #[t.a] w fun x w'=>x=Eg (Et #[t.UB.1.a,E I t.UB.2])/\El w w':=by
 have CS:=O<|fun W=>uJ t.oa t.om W h1 h3;have CE:=O<|fun W=>EJM {t with oa:=sat t.oa t.om} W;unfold EG.UB;unfold EG.a at*;obtain⟨h,e,o,oa,om,la,lm,b⟩:=t;simp only[EG.end_] at*;clear h1 h3;by_cases h1:o<0;·rw[if_pos h1];have d1:decide (0<=o)=B:=IJ X;unfold Uj;clear h1 CS CE;go_enter Tryz.func104,Tryz.ntmps104;go_wp2;refine ET P6 U ⟨U,?_⟩;exact Elx
 have d1:decide (0<=o)=u:=Ib X;rw[if_neg h1];generalize sat oa om=a2 at*;clear h1;by_cases h2:a2<om;·rw[if_pos h2];have d2:decide (om<=a2)=B:=IJ X;clear h2 CE;unfold Uj at*;go_enter Tryz.func104,Tryz.ntmps104;go_wp2_with (first|(go_at_call 90;(with_reducible refine(CS.out _).mono ?_);rintro x w9 ⟨rfl,rfl⟩)|go_in);refine ET (v:=EZ #[E I a2,E I om]) FG U ?_;go_wp2;refine ET P6 U ⟨U,?_⟩;exact Elx
 ·rw[if_neg h2];have d2:decide (om<=a2)=u:=Ib X;clear h2;obtain⟨r,hr⟩:=En (Uj h e (-1) 0 0 la lm b);rw[<-hr] at CE⊢;have SR:Ea (r.size=8):=O uq;have OR:Ea (r.all (·.oneCell')=u):=O zZ;clear hr;unfold Uj at*;go_enter Tryz.func104,Tryz.ntmps104;go_wp2_with (first|(go_at_call 90;(with_reducible refine(CS.out _).mono ?_);rintro x w9 ⟨rfl,rfl⟩)|go_in);refine ET (v:=EZ #[E I a2,E I om]) FG U ?_;go_wp2_with (first|(go_at_call 90;(with_reducible refine(CS.out _).mono ?_);rintro x w9 ⟨rfl,rfl⟩)|go_in);generalize hW:UN _ _=W at*;have K1:Ea (H W w.heap.size #[E I h,E I e,E I o,E I a2,E I om,E I la,E I lm,Ec b] 109):=O (by subst hW;repeat (first|exact H.new _ _ _|refine H.alloc ?_ _));have K2:Ea (H W (w.heap.size+1) #[E I 0,E I 0,E I 0,E I 0,E I 0,E I 0,E I 0,Ec B] 109):=O (by subst hW;repeat (first|exact H.new' (w.alloc _) _ _ Eh|refine H.alloc ?_ _));have BB:Ea (El w W):=O (by subst hW;(repeat (first|exact IE _ _|(refine JH ?_ Iu _)|(refine JK ?_ Iu _))));clear hW;refine PW (Ph:=fun _ wq=>H wq w.heap.size #[E I h,E I e,E I o,E I a2,E I om,E I la,E I lm,Ec b] 109/\(∃c,c.size=8/\H wq (w.heap.size+1) c 109)/\El w wq) (Ij:=fun w w'=>w=w') (W.heap.size) [kq (EZ #[E I h,E I e,E I o,E I a2,E I om,E I la,E I lm,Ec b]),kq (EZ r),kq (Y (D ⟨w.heap.size,2,Z⟩)),kq (E I o),.onto (w.heap.size+1) 109 (r),kq (E I o)] [] [(0,0),(0,0),(0,0),(0,0),(0,0),(0,0)] Ed Ed Ed Ed U_ Ed U (show List.Nodup ([109]:List EC) from Eb) hM ?hPh ?hR2 ?h0 ?hstep ?hend;case hPh=>exact fun _ w1 w2 h hr=>⟨hr.Ek h.1 (by simp[kM]),by obtain⟨c,hs,hk⟩:=h.2.1;obtain⟨c2,hs2,hk2⟩:=hr.some hk;exact⟨c2,hs2.trans hs,hk2⟩,h.2.2.trans (hr.PH h.2.2.size (fun k S cs hk=>EJx hk (by intro g T c hm;simp at hm;obtain⟨rfl,-⟩:=hm;omega) F5))⟩
  case hR2=>exact fun _ _ _ _ _ _ h k=>k▸h
  case h0=>exact⟨K1.out.drew,⟨_,U,K2.out.drew⟩,BB.out.drew⟩
  case hstep=>
   refine⟨?_,?_,?_,?_,?_,?_,trivial⟩;·intro x wq p hlo hhi hp hd;simp only[EL,In,Ip,Ig,Ih];exact mH JW.kept EV (Ei U) ⟨U,U⟩ (hp.1) U U
   ·intro x wq p hlo hhi hp hd;simp only[EL,In,Ip,Ig,Ih];have d0:x 0=EZ #[E I h,E I e,E I o,E I a2,E I om,E I la,E I lm,Ec b]:=hd.at 0 rfl;refine JR (f:=150) (args:= #[x 0]) (Ei U) Ez ?_;rw[d0];exact(CE.out wq).mono fun e w2 ⟨he,hb⟩=>⟨_,he,JW.G hb,U⟩
   ·intro x wq p hlo hhi hp hd;simp only[EL,In,Ip,Ig,Ih];exact EnU
   ·intro x wq p hlo hhi hp hd;simp only[EL,In,Ip,Ig,Ih];have d2:x 2=Y (D ⟨w.heap.size,2,Z⟩):=hd.at 2 rfl;have cc:wq.cell? ⟨w.heap.size,2,Z⟩=D (E I o):=(H.cell hp.1 2).trans U;exact IQ JW.kept (Ei U) cE U
   ·intro x wq p hlo hhi hp hd;simp only[EL,In,Ip,Ig,Ih];have d1:x 1=EZ r:=hd.at 1 rfl;obtain⟨cz,hz,kz⟩:=hp.2.1;exact db EV (Ei U) ⟨U,U,d1⟩ (kz) hz SR.out OR.out (JW.setRow (kz) (by simp[kM]) (by rw[SR.out,hz])) (H.setRow (kz) _)
   ·intro x wq p hlo hhi hp hd;simp only[EL,In,Ip,Ig,Ih];have d3:x 3=E I o:=hd.at 3 rfl;exact IQ JW.kept (Ei U) cI U
  case hend=> intro x W6 hp hr;have d5:x 5=E I o:=hr 5 Eb;have k4:H W6 (w.heap.size+1) r 109:=hr 4 Eb;simp only[EL,In,Ip,Ig,Ih];rw[d5];have zc:=O hp.2.2;clear hr hp d5 K1 K2;go_wp2_with fail;refine ET (UM EV U _ _ (w.heap.size+1) r _ U U k4 SR.out) U ⟨U,zc.out⟩
def Own(w:M)(base:Nat)(A:Option Eu)(cap:Nat)(xs:List Int):Prop:=
 w.ownsRow base 5 1 (EI A xs.length cap) xs.length (xs.map (E .u8))/\ ∀x∈xs,0<=x/\x<=255
theorem Own.row(h:Own w base A cap xs):Row w A xs:=by
 obtain⟨h,hb⟩:=h;refine⟨?_,hb⟩;rcases h.2 with⟨hv,hn⟩|⟨g,cap',cur,hv,hg,hh,hl,hm,hs,ht⟩;·exact .inl (aN hn)
 ·right;injection hv with h1 h2 h3;refine⟨g,0,h1,fun i hi=> ?_⟩;subst h1;have:=h.cellAt i X;rw[JV,this];simp[hi]
theorem Own.EJP(h:Own w base A cap xs):yG w (EI A xs.length cap):=by
 refine⟨A,xs,cap,U,?_,?_,h.row,?_⟩
 all_goals
  rcases h.1.2 with⟨hv,hn⟩|⟨g,cap',cur,hv,hg,hh,hl,hm,hs,ht⟩
  ·simp at hv;first|omega|(intro _;exact hv.2.2)
  ·injection hv with h1 h2 h3;subst h1 h3;unfold maxLen at hm;first|omega|(intro h;cases h)
theorem X9(w:M)(base:Nat):Own w base Z 0 []:=⟨cJ _ _ _ _,fun x hx=>uO⟩
theorem F6(w:M)(base:Nat)(hb:base<=w.heap.size):Own (w.alloc (EJ #[] 5)) base (D ⟨w.heap.size,0,Z⟩) 0 []:=
 ⟨pE w #[] 0 hb OD U,fun x hx=>uO⟩
theorem ZW(h:Own w base A cap xs)(hb:El w w'):Own w' base A cap xs:=by
 refine⟨?_,h.2⟩;obtain⟨h1,h2⟩:=h.1;refine⟨h1,?_⟩;rcases h2 with h2|⟨g,cap',cur,hv,hg,hh,hl⟩;·exact .inl h2
 ·refine .inr ⟨g,cap',cur,hv,hg,?_,hl⟩;rw[hb.block g ?_];·exact hh
  ·rcases JG g w.heap.size with h|h;·exact h
   ·rw[g_ h] at hh;cases hh
theorem EJQ(w:M)(base:Nat)(A:Option Eu)(cap:Nat)(xs:List Int)(hown:Own w base A cap xs)(Y4:Option Eu)(c:Nat)(ys:List Int)(hr:Row w Y4 ys) (hsmall:xs.length+ys.length<=1000000000) (hbase:base<=w.heap.size) (ty:EC): ∃A' cap' w',(bP #[23,23] ty #[EI A xs.length cap,EI Y4 ys.length c]).run EU w= .ok (EI A' (xs.length+ys.length) cap') w'/\ Own w' base A' cap' (xs++ys)/\Io base w w':=by
 obtain⟨i0,hi,hz0,hz1,hz2⟩:=bQ mn
 have hbb: ∀x∈xs++ys,0<=x/\x<=255:=by
  intro x hx;rcases XP.1 hx with h|h;·exact hown.2 x h
  ·exact hr.2 x h
 rcases Y4 with _|ad
 ·have hy:ys=[]:=by
   rcases hr.1 with h|⟨b,off,h,_⟩;·exact h
   ·cases h
  subst hy;refine⟨A,cap,w,?_,F7,IE _ _⟩;rcases hown.1.2 with⟨hv,hn⟩|⟨g,cap',cur,hv,_,_,hnc,_⟩;·exact EnA
  ·exact EnB
 ·have hcells: ∀(j:Nat) Y3,(ys.map (E .u8))[j]?=D Y3->w.cell? (ad.add j)=D Y3:=by
   intro j Y3 hu
   have hj:j<ys.length:=by
    rcases JG j ys.length with h|h;·exact h
    ·rw[aM Un] at hu;cases hu
   rcases hr.1 with h|⟨b,off,h,hc⟩;·subst h;simp at hj
   ·exact En1
  obtain⟨v',w',hrun,h2,h3,_,h5⟩:=run_append_own_at (P:=EU) w base 23 ty 5 i0 (E IP 0) 1 1 bR hi hz0 hz1 hz2 U X _ _ _ hown.1 ad ys.length c (ys.map (E .u8)) Eh hcells
   P7 OD X hbase
  have hbel:Io base w w':=by refine(IE _ _).grown h3 hbase (fun k hk=> ?_);exact(hown.1.lt k hk).1
  rcases h2.2 with⟨hv,hn⟩|⟨g,cap',cur,hv,hrest⟩
  ·refine⟨Z,0,w',?_,⟨?_,hbb⟩,hbel⟩;·rw[hrun,hv,hn]
   ·have e:(xs++ys).length=0:=by simpa using hn
    have e2:xs++ys=[]:=aN e;rw[e2];exact cJ _ _ _ _
  ·refine⟨D ⟨g,0,Z⟩,cap',w',by rw[hrun,hv],⟨?_,hbb⟩,hbel⟩;rw[hv] at h2;rw[I2,ku];exact h2
theorem us{rest:List EN}{a:E6}(w:M)(hgd:o.guard=Z)(s x:UH) (ho:o.op= .call {callee:= .builtin .append,args:= #[s,x],argTypes:= #[23,23]}) (base:Nat) (A:Option Eu) (cap n:Nat) (xs:List Int) (hn:xs.length=n) (hs:a.eval s=EI A n cap) (hown:Own w base A cap xs) (Y4:Option Eu) (c m:Nat) (ys:List Int) (hm:ys.length=m) (hx:a.eval x=EI Y4 m c) (hr:Row w Y4 ys) (hsmall:n+m<=1000000000) (hbase:base<=w.heap.size) (h: ∀A' cap' w',Own w' base A' cap' (xs++ys)->Io base w w'->IZ EU ops Q rest (a.put o.dst (EI A' (n+m) cap')) w'):IZ EU ops Q (o::rest) a w:=by subst hn hm;refine wpList_plain hgd fun K hK=> ?_;obtain⟨A',cap',w',hrun,h2,h3⟩:=EJQ w base A cap xs hown Y4 c ys hr hsmall hbase o.type;unfold ah Iw;simp only[ho,resolve,invoke,builtin,Ud,UU,Uf,List.map_toArray,UL,Xu,hs,hx,hrun];exact hK _ _ (h A' cap' w' h2 h3)
def pI(A:Option Eu)(k:Nat):Prop:= ∀a,A=D a->a.block≠k
theorem EJR(h:Own w base A cap xs): ∀a,A=D a->base<=a.block/\a.block<w.heap.size:=by
 intro a ha;subst ha;rcases h.1.2 with⟨hv,hn⟩|⟨g,cap',cur,hv,hg,hh,hl⟩;·simp at hv
 ·injection hv with h1 h2 h3;injection h1 with h1;subst h1;exact⟨hg,mh hh⟩
theorem zd(w:M)(base:Nat)(A:Option Eu)(cap:Nat)(xs:List Int)(hown:Own w base A cap xs)(Y4:Option Eu)(c:Nat)(ys:List Int)(hr:Row w Y4 ys) (hsmall:xs.length+ys.length<=1000000000) (hbase:base<=w.heap.size) (ty:EC): ∃A' cap' w',(bP #[23,23] ty #[EI A xs.length cap,EI Y4 ys.length c]).run EU w= .ok (EI A' (xs.length+ys.length) cap') w'/\ Own w' base A' cap' (xs++ys)/\Io base w w'/\(∀k,k<w.heap.size->pI A k->w'.heap[k]?=w.heap[k]?/\pI A' k):=by
 obtain⟨i0,hi,hz0,hz1,hz2⟩:=bQ mn
 have hbb: ∀x∈xs++ys,0<=x/\x<=255:=by
  intro x hx;rcases XP.1 hx with h|h;·exact hown.2 x h
  ·exact hr.2 x h
 rcases Y4 with _|ad
 ·have hy:ys=[]:=by
   rcases hr.1 with h|⟨b,off,h,_⟩;·exact h
   ·cases h
  subst hy;refine⟨A,cap,w,?_,F7,IE _ _,fun k _ hA=>⟨U,hA⟩⟩;rcases hown.1.2 with⟨hv,hn⟩|⟨g,cap',cur,hv,_,_,hnc,_⟩;·exact EnA
  ·exact EnB
 ·have hcells: ∀(j:Nat) Y3,(ys.map (E .u8))[j]?=D Y3->w.cell? (ad.add j)=D Y3:=by
   intro j Y3 hu
   have hj:j<ys.length:=by
    rcases JG j ys.length with h|h;·exact h
    ·rw[aM Un] at hu;cases hu
   rcases hr.1 with h|⟨b,off,h,hc⟩;·subst h;simp at hj
   ·exact En1
  obtain⟨v',w',hrun,h2,h3,h4,h5⟩:=run_append_own_at (P:=EU) w base 23 ty 5 i0 (E IP 0) 1 1 bR hi hz0 hz1 hz2 U X _ _ _ hown.1 ad ys.length c (ys.map (E .u8)) Eh hcells
   P7 OD X hbase
  have hbel:Io base w w':=(IE _ _).grown h3 hbase (fun k hk=>(hown.1.lt k hk).1)
  have hblk: ∀k,k<w.heap.size->pI A k->w'.heap[k]?=w.heap[k]?:=by
   intro k hk hA;refine h3.block k hk ?_;cases A with
   |none=>simp[mQ]
   |some a=>simpa[mQ] using Zr (hA a U)
  rcases h2.2 with⟨hv,hn⟩|⟨g,cap',cur,hv,hrest⟩
  ·refine⟨Z,0,w',?_,⟨?_,hbb⟩,hbel,fun k hk hA=>⟨hblk k hk hA,fun a ha=>by cases ha⟩⟩;·rw[hrun,hv,hn]
   ·have e:(xs++ys).length=0:=by simpa using hn
    have e2:xs++ys=[]:=aN e;rw[e2];exact cJ _ _ _ _
  ·refine⟨D ⟨g,0,Z⟩,cap',w',by rw[hrun,hv],⟨?_,hbb⟩,hbel,fun k hk hA=>⟨hblk k hk hA,?_⟩⟩;·rw[hv] at h2;rw[I2,ku];exact h2
   ·intro a ha;injection ha with ha;subst ha;rw[hv] at h5;rcases h5 with h5|h5
    ·cases A with
     |none=>simp[mQ] at h5
     |some a=>simp[mQ] at h5;rw[h5];exact hA a U
    ·simp[mQ] at h5;rw[h5];show w.heap.size≠k;omega
theorem mR{rest:List EN}{a:E6}(w:M)(hgd:I_ o (Jd ops a.tmps)=u)(s x:UH) (ho:o.op= .call {callee:= .builtin .append,args:= #[s,x],argTypes:= #[23,23]}) (base:Nat) (A:Option Eu) (cap n:Nat) (xs:List Int) (hn:xs.length=n) (hs:a.eval s=EI A n cap) (hown:Own w base A cap xs) (Y4:Option Eu) (c m:Nat) (ys:List Int) (hm:ys.length=m) (hx:a.eval x=EI Y4 m c) (hr:Row w Y4 ys) (hsmall:n+m<=1000000000) (hbase:base<=w.heap.size) (h: ∀A' cap' w',Own w' base A' cap' (xs++ys)->Io base w w'->(∀k,k<w.heap.size->pI A k->w'.heap[k]?=w.heap[k]?/\pI A' k)->IZ EU ops Q rest (a.put o.dst (EI A' (n+m) cap')) w'):IZ EU ops Q (o::rest) a w:=by subst hn hm;obtain⟨A',cap',w',hrun,h2,h3,h4⟩:=zd w base A cap xs hown Y4 c ys hr hsmall hbase o.type;refine Ol hgd (v:=EI A' (xs.length+ys.length) cap') (w':=w') ?_ (h A' cap' w' h2 h3 h4);exact Eos
def jh(b0:Nat)(T:EC)(N:Nat)(ys:List V)(w w':M):Prop:=
 w.heap.size<=w'.heap.size/\(b0<=w.heap.size->Io b0 w w')/\
 ∀(g:Nat) (cs:Array V) (S:EC),w.heap[g]?=D (EJ cs S (0,0))-> ∃cs':Array V,w'.heap[g]?=D (EJ cs' S (0,0))/\cs'.size=cs.size/\(S≠T->cs'=cs)/\ ∀j:Nat,cs'[j]?=cs[j]?\/(N<=j/\j<N+ys.length/\cs'[j]?=ys[j-N]?)
section
variable{b0:Nat}{T:TypeId}{N:Nat}{ys:List Value}
theorem iJ:Kept (jh b0 T N ys):=by
 refine⟨fun w=>⟨E7 _,fun _=>IE _ _,fun g cs S h=>⟨cs,h,U,fun _=>rfl,fun j=> .inl U⟩⟩,?_,fun w=>⟨E7 _,fun _=>(IE _ _).drew,fun g cs S h=>⟨cs,h,U,fun _=>rfl,fun j=> .inl U⟩⟩⟩;rintro a b c ⟨h1,h2,h3⟩ ⟨k1,k2,k3⟩;refine⟨EA h1 k1,fun h=>(h2 h).trans (k2 (EA h h1)),fun g cs S h=> ?_⟩;obtain⟨cs1,e1,s1,t1,j1⟩:=h3 g cs S h;obtain⟨cs2,e2,s2,t2,j2⟩:=k3 g cs1 S e1;refine⟨cs2,e2,s2.trans s1,fun hS=>(t2 hS).trans (t1 hS),fun j=> ?_⟩;rcases j2 j with h|h
 ·rcases j1 j with h'|⟨p,q,r⟩;·exact .inl (h.trans h')
  ·exact .inr ⟨p,q,h.trans r⟩
 ·exact .inr h
theorem ut(hb:El w w'):jh b0 T N ys w w':=
 ⟨hb.size,fun h=>hb.mono h,fun g cs S h=>⟨cs,Xr h hb,U,fun _=>rfl,fun j=> .inl U⟩⟩
theorem X_(h:jh b0 T N ys w w')(hk:H w g cs S)(hS:S≠T):H w' g cs S:=by obtain⟨cs',e,-,t,-⟩:=h.2.2 g cs S hk;rw[t hS] at e;exact e
theorem mT(h:jh b0 T N ys w w'){size:Nat}{v:V}{xs:List V}(ho:w.ownsRow base T size v n xs) (hx: ∀j,N<=j->j<N+ys.length->j<xs.length->xs[j]?=ys[j-N]?):w'.ownsRow base T size v n xs:=by
 obtain⟨h1,h2⟩:=ho;refine⟨h1,?_⟩;rcases h2 with h2|⟨g,cap,cur,rfl,hg,hh,hnc,hm,hs,ht⟩;·exact .inl h2
 ·obtain⟨cs',e,s,-,hj⟩:=h.2.2 g cur T hh;refine .inr ⟨g,cap,cs',U,hg,e,hnc,hm,s.trans hs,?_⟩;apply List.ext_getElem?;intro j;by_cases hlt:j<xs.length
  ·have h3:xs[j]?=cur[j]?:=by rw[<-ht,bN X];simp
   rw[bN X,Array.getElem?_toList];rcases hj j with h4|⟨p,q,r⟩;·rw[h4,h3]
   ·rw[r,hx j p q hlt]
  ·rw[aM Jn,aM X]
end
theorem dc(w:M)(b0 base:Nat)(t ty e:EC)(i:TypeInfo)(z:V)(size bytes:Nat)(ht:P.underlying t=D (.slice e))(hi:P.info? e=D i)(hz:i.zero=D z) (hsize:i.size=size) (hby:i.bytes=bytes) (hzs:z.cells.size=size) (A:Option Eu) (cap n:Nat) (xs:List V) (hown:w.ownsRow base e size (EI A n cap) n xs) (a:Eu) (m c:Nat) (news:List V) (hl:news.length=m*size) (hnews: ∀j Y3,news[j]?=D Y3->w.cell? (a.add j)=D Y3) (h1: ∀Y3∈news,Y3.oneCell'=u) (hm:A=Z->0<m) (h63:n+m<=maxLen) (hbytes:(n+m)*bytes<=140737488355328) (hbase:base<=w.heap.size) (hb0:b0<=base): ∃A' cap' w',(bP #[t,t] ty #[EI A n cap,EI (D a) m c]).run P w= .ok (EI A' (n+m) cap') w'/\w'.ownsRow base e size (EI A' (n+m) cap') (n+m) (xs++news)/\jh b0 e (n*size) news w w'/\A'≠Z/\(cap<n+m->El w w'):=by
 subst hsize;subst hby;have hsmall:n+m<=9223372036854775807:=F8;have hlen:(xs++news).length=(n+m)*i.size:=by rw[I2,hown.1,hl,Nat.add_mul]
 have made: ∀old:Nat,(w.drew.alloc (EJ (xs.toArray++news.toArray++Builtin.zeroCells z.cells (grownCap w (n+m) old e-(n+m))) e)).ownsRow base e i.size (EI (D ⟨w.heap.size,0,Z⟩) (n+m) (grownCap w (n+m) old e)) (n+m) (xs++news):=by
  intro old;have hge:=grownCap_ge w (n+m) old e;refine⟨hlen,.inr ⟨w.heap.size,_,_,U,hbase,fL w.drew _,hge,grownCap_le_maxLen w (n+m) old e h63,?_,?_⟩⟩;·simp only[Array.size_append,List.size_toArray,size_zeroCells,hzs,hown.1,hl,<-Nat.add_mul];congr 1;omega
  ·simp only[Array.toList_append];rw[<-hlen];exact List.take_left
 have P8: ∀o:Obj,El w (w.drew.alloc o):=fun o=>((IE _ w).drew).alloc (E7 _) o;have bel: ∀o:Obj,jh b0 e (n*i.size) news w (w.drew.alloc o):=fun o=>ut (((IE _ w).drew).alloc (E7 _) o);rcases hown.2 with⟨hv,hn⟩|⟨g,cap',cur,hv,hbg,hg,hnc,hcm,hcs,htake⟩;·subst hn;have hx:xs=[]:=aN F9;subst hx;rw[hv];have hr:=run_append_nil (P:=P) w t ty e i z ht hi hz a m c news hl hnews (hm zg) X F_;have hmd:=made 0;simp only[JV,Z8,Array.empty_append] at hmd⊢;exact⟨_,_,_,hr,hmd,bel _,fun h=>XZ,fun _=>P8 _⟩
 ·rw[hv];by_cases hroom:n+m<=cap'
  ·have hfit:n*i.size+news.length<=cur.size:=GE;have hr:=run_append_room (P:=P) w t ty e i ht hi g n cap' cur hg a m c news hl hnews h1 hroom hfit;have hnew:=setRow_heap w g cur (cur.toList.take (n*i.size)++news++cur.toList.drop (n*i.size+news.length)).toArray e _ hg;have hsz:(cur.toList.take (n*i.size)++news++cur.toList.drop (n*i.size+news.length)).toArray.size=cur.size:=by simp only[List.size_toArray,I2,aj,mV,Array.length_toList];omega
   refine⟨_,_,_,hr,⟨hlen,.inr ⟨g,cap',_,U,hbg,hnew,hroom,hcm,hsz.trans hcs,?_⟩⟩,⟨?_,?_,?_⟩,fun h=>XZ,fun h=>absurd h (by injection hv with _ _ h3;omega)⟩;·rw[htake,<-hlen];exact List.take_left
   ·simp
   ·intro _;exact(IE _ _).trans ⟨U,U,U,Eh,fun k hk=>setRow_other w g k _ X⟩
   ·intro k cs S hk;by_cases e1:k=g
    ·subst e1;rw[hg] at hk;injection hk with hk;injection hk with k1 k2 k3;subst k1 k2;refine⟨_,hnew,hsz,fun hS=>absurd U hS,fun j=> ?_⟩;have tl:(cur.toList.take (n*i.size)).length=n*i.size:=Jn;simp only[Og];rcases JG j (n*i.size) with h|h;·left;rw[U9,bM X,bN h];simp
     ·rcases JG j (n*i.size+news.length) with h2|h2;·right;refine⟨h,h2,?_⟩;rw[bM P9,ak X,tl]
      ·left;rw[ak P9,List.getElem?_drop,I2,tl,<-Array.getElem?_toList];congr 1;omega
    ·exact⟨cs,(setRow_other w g k _ X).trans hk,U,fun _=>rfl,fun j=> .inl U⟩
  ·have holds: ∀j Y3,xs[j]?=D Y3->w.cell? ((⟨g,0,Z⟩:Eu).add j)=D Y3:=by have h5:=hown;rw[hv] at h5;exact h5.cells (g:=g) U
   have hr:=run_append_grow (P:=P) w t ty e i z ht hi hz ⟨g,0,Z⟩ n cap' xs hown.1 holds a m c news hl hnews X X (growslice_fits X hbytes);exact⟨_,_,_,hr,made cap',bel _,fun h=>XZ,fun _=>P8 _⟩
def be(n:Int)(k:Nat):List Int:=(UA k).map fun i=>n/2^(8*(k-1-i))%256
def al(n:Int)(k i:Nat):Array V:=((UA k).map fun j=>E .u8 (if j<i then n/2^(8*(k-1-j))%256 else 0)).toArray
theorem EJS(n:Int)(k i:Nat):(al n k i).size=k:=by simp[al]
theorem EJT(n:Int)(k i:Nat)(h:i<k):(al n k i)[i]?=D (E IP 0):=by simp[al,h]
theorem EJV(n:Int)(k:Nat):aS #[E IP 0] k=al n k 0:=by
 apply Array.ext;·simp[aS,al]
 ·intro i h1 h2;simp[aS,al,Nat.mod_one]
theorem EJW(n:Int)(k i:Nat)(h:i<k):(al n k i).setIfInBounds i (E IP (n/2^(8*(k-1-i))%256))=al n k (i+1):=by
 apply Array.ext;·simp[al]
 ·intro j h1 h2;have hj:j<k:=by simpa[al] using h2
  rw[Array.getElem_setIfInBounds (by simpa[al] using hj)];simp only[al,List.getElem_toArray,List.getElem_map,List.getElem_range];by_cases e:i=j;·subst e;simp
  ·rw[if_neg e];by_cases e2:j<i;·rw[if_pos e2,if_pos X]
   ·rw[if_neg e2,if_neg X]
theorem EJY(n:Int)(k:Nat):al n k k=((be n k).map (E .u8)).toArray:=by unfold al be;rw[List.map_map];congr 1;apply List.map_congr_left;intro j hj;simp at hj;simp[hj]
theorem EJ0(n:Int)(k:Nat)(hk:k<=1000)(W:M): (Instr.makeSlice 23 (E I (k:Int)) (E I (k:Int))).run EU W= .ok (EI (D ⟨W.heap.size,0,Z⟩) k k) (W.alloc (EJ (al n k 0) 5)):=by obtain⟨i0,hi,hz0,hz1,hz2⟩:=bQ mn;have h:=run_make (P:=EU) W 23 5 i0 _ bR hi hz0 .i64 .i64 k k X X (by rw[hz2];omega) X;rw[h,hz1,mo,Nat.mul_one];have e:(E IntKind.u8 0).cells= #[E IP 0]:=rfl;rw[e,EJV n]
theorem P_(n:Int)(k:Nat)(w:M)(h0:0<=n)(h1:n<=18446744073709551615)(hk:k<=8)(hn:n/2^(8*k)=0): Ef EU 111 #[E Il n,E I k] w fun e w'=>e=Eg (Et #[EI (D ⟨w.heap.size,0,Z⟩) k k,E I 0])/\w.alloc (EJ ((be n k).map (E .u8)).toArray 5)=w':=by
 have hmk:=EJ0 n k X;have hn':(n/2^(8*k) !=0)=B:=by rw[hn];rfl
 go_enter Tryz.func111,Tryz.ntmps111;go_wp2;clear hmk hn';go_loopw[24] (fun y wr=> ∃i:Nat,i<=k/\y=E I i/\wr=w.alloc (EJ (al n k i) 5)) (fun y _=>k-(Iv y).toNat);case atStart=>exact⟨0,X,U,U⟩
 case round=>
  obtain⟨i,hi,rfl,rfl⟩:=hrel;by_cases hlt:i<k
  ·have hc:=EJT n k i hlt;have hs:=EJS n k i;have hp:=EJW n k i hlt;go_wp2;go_roundw;case rel=>exact⟨i+1,X,by go_num,by first|rfl|rw[hp]⟩
   case measure=>simp[Iv];omega
  ·obtain rfl:i=k:=X;have hp:=EJY n i;go_wp2;go_ret2;exact⟨U,by first|rfl|rw[hp]⟩
def num(xs:List Int):Int:=xs.foldl (fun n x=>n*256+x) 0
theorem QE(xs:List Int)(x:Int):num (xs++[x])=num xs*256+x:=by simp[num]
theorem QI(xs:List Int)(i:Nat)(h:i<xs.length):num (xs.take (i+1))=num (xs.take i)*256+xs[i]:=by rw[List.take_succ_eq_append_getElem h,QE]
theorem uu(xs:List Int)(h: ∀x∈xs,0<=x/\x<=255)(i:Nat)(hi:i<=xs.length):0<=num (xs.take i)/\num (xs.take i)<256^i:=by
 induction i with
 |zero=>simp[num]
 |succ i ih=> have:=ih X;have hx:=h xs[i] (hH _);rw[QI xs i X,Int.pow_succ];omega
theorem EJ1(n x:Int)(h0:0<=n)(h1:n<72057594037927936)(x0:0<=x)(x1:x<=255):Ix .or .u64 (n*256) x=n*256+x:=by obtain⟨m,rfl⟩:=ji h0;obtain⟨y,rfl⟩:=ji x0;have e:((m:Int)*256)=((m*256:Nat):Int):=Eh;rw[e,u64_or_nat _ _ X X,nat_join 8 _ _ X X];simp
theorem EJ2(xs:List Int)(i:Nat)(h:i<xs.length)(h8:xs.length<=8)(nb:0<=num (xs.take i)/\num (xs.take i)<256^i)(hx:0<=xs[i]/\xs[i]<=255): Ix .or .u64 (IntKind.u64.wrap (num (xs.take i)*256)) xs[i]=num (xs.take (i+1)):=by
 have hp:(256:Int)^i<=72057594037927936:=by
  have h1:256^i<=256^7:=Nat.pow_le_pow_right X X;have h2:(256:Int)^i=((256^i:Nat):Int):=by rw[Int.natCast_pow];rfl
  rw[show(256:Nat)^7=72057594037927936 from Eb] at h1;rw[h2];exact Int.ofNat_le.2 h1
 rw[QI xs i h,IntWalk.u64_in _ X,EJ1 _ _ nb.1 X hx.1 hx.2]
theorem QJ(a:Option Eu)(xs:List Int)(c:Nat)(w:M)(hr:Row w a xs)(hl:xs.length<=8): Ef EU 239 #[EI a xs.length c] w fun e w'=>e=Eg (Et #[E Il (num xs),E I 0])/\w=w':=by
 obtain⟨hr,hb⟩:=hr;have NB:=O<|uu xs hb;have HR:=O hr;have HB:=O hb;clear hr hb;go_enter Tryz.func239,Tryz.ntmps239;go_wp2;go_loop [4,11] (fun x y=> ∃i:Nat,i<=xs.length/\y=E I i/\x=E Il (num (xs.take i))) (fun _ y=>xs.length-(Iv y).toNat);case atStart=>exact⟨0,X,U,U⟩
 case round=>
  obtain⟨i,hi,rfl,rfl⟩:=hrel;by_cases hlt:i<xs.length
  ·rcases HR.out with e|⟨b,off,rfl,hc⟩;·rw[e] at hlt;simp at hlt
   ·have hc:=hc i hlt;have nb:=NB.out i hi;have hx:=HB.out xs[i] (hH _);have STEP:=O<|EJ2 xs i hlt hl nb hx;go_wp2;go_round;case rel=>exact⟨i+1,X,by go_num,by rw[STEP.out]⟩
    case measure=>simp[Iv];omega
  ·obtain rfl:i=xs.length:=X;rw[List.take_length];go_wp2;exact EpZ
theorem EJ3(n:Int)(w:M)(h0: -32768<=n)(h1:n<=32767): Ef EU 252 #[E I n] w fun e w'=>e=Eg (Et #[EI (D ⟨w.heap.size,0,Z⟩) 2 2,E I 0])/\w.alloc (EJ ((be (n%65536) 2).map (E .u8)).toArray 5)=w':=by
 have hp:=O<|P_ (n%65536) 2 w X X X (by show n%65536/65536=0;omega);by_cases c:n<0;·have e:n%65536=n+65536:=X;exact EnO
 ·have e:n%65536=n:=X;exact EnO
def sig(xs:List Int):Int:=if 32767<num xs then num xs-65536 else num xs
theorem EJ4(a:Option Eu)(xs:List Int)(c:Nat)(w:M)(hr:Row w a xs)(hl:xs.length=2): Ef EU 238 #[EI a 2 c] w fun e w'=>e=Eg (Et #[E I (sig xs),E I 0])/\w=w':=by
 have h:=QJ a xs c w hr X;rw[hl] at h;have Y9:=O h;have hb:=uu xs hr.2 xs.length X;rw[List.take_length,hl] at hb;obtain⟨hb1,hb2⟩:=hb;have hb3:num xs<65536:=hb2;clear h hr hl hb2;go_enter Tryz.func238,Tryz.ntmps238;go_wp2_with (go_at_call 239;refine(Y9.out).mono ?_;rintro e w' ⟨rfl,rfl⟩)
 all_goals
  go_ret2
  refine⟨?_,U⟩
  unfold sig
  first|(rw[if_pos (by assumption)];rfl)|(rw[if_neg X];rfl)
theorem Ua(n:Int)(k:Nat):(be n k).length=k:=by simp[be]
theorem uw(n:Int)(k:Nat): ∀x∈be n k,0<=x/\x<=255:=by intro x hx;simp only[be,da] at hx;obtain⟨i,_,rfl⟩:=hx;omega
theorem GI(n:Int)(k:Nat):be n (k+1)=n/2^(8*k)%256::be n k:=by unfold be;rw[List.range_succ_eq_map,UL,List.map_map];congr 1;apply List.map_congr_left;intro i hi;simp only[Function.comp_apply,Nat.add_sub_cancel];rw[show k-(i+1)=k-1-i from X]
theorem EJ5(n:Int):be n 0=[]:=rfl
theorem EJ6(n a b:Int)(ha:0<=a):n/a/b=n/(a*b):=by rw[Int.ediv_ediv,if_neg X];simp
theorem EJ7(n:Int)(k:Nat):be n (k+1)=be (n/256) k++[n%256]:=by
 induction k with
 |zero=>simp[be]
 |succ k ih=> rw[GI,ih,GI (n/256) k,List.cons_append];congr 2;rw[EJ6 _ _ _ X,Nat.mul_add,Int.pow_add,Int.mul_comm];rfl
theorem QO{P:List Int->Prop}(h0:P [])(h1: ∀l x,P l->P (l++[x]))(l:List Int):P l:=by
 have: ∀l:List Int,P l.reverse:=by
  intro l;induction l with
  |nil=>exact h0
  |cons x l ih=>rw[List.reverse_cons];exact h1 _ _ ih
 have:=this l.reverse;rwa [List.reverse_reverse] at this
theorem EJ8(xs:List Int):(∀x∈xs,0<=x/\x<=255)->be (num xs) xs.length=xs:=by refine QO (P:=fun xs=>(∀x∈xs,0<=x/\x<=255)->be (num xs) xs.length=xs) (fun _=>rfl) (fun l x ih h=> ?_) xs;have hx:=h x Eh;have hl:=ih (fun y hy=>h y (by simp[hy]));rw[I2,List.length_singleton,EJ7,QE];have e1:(num l*256+x)/256=num l:=X;have e2:(num l*256+x)%256=x:=X;rw[e1,e2,hl]
theorem QU(k:Nat)(hk:k<=63)(n:Int)(h0:0<=n)(h1:n<=18446744073709551615): Ix .and .u64 n (IntKind.u64.wrap (IntKind.u64.wrap (2^k)-1))=n%2^k:=by
 obtain⟨m,rfl⟩:=ji h0;have hp:2^k<=2^63:=Nat.pow_le_pow_right X hk;have hp0:0<2^k:=Nat.two_pow_pos k;have c1:((2:Int)^k)=((2^k:Nat):Int):=Eh;have w1:IntKind.u64.wrap ((2^k:Nat):Int)=((2^k:Nat):Int):=IntWalk.u64_in _ ⟨X,X⟩;have w2:IntKind.u64.wrap (((2^k:Nat):Int)-1)=((2^k-1:Nat):Int):=by rw[IntWalk.u64_in _ ⟨X,X⟩];omega
 rw[c1,w1,w2,u64_and_nat _ _ X X,Nat.and_two_pow_sub_one_eq_mod];simp
theorem kw(n:Int)(k:Nat)(w:M)(h0:0<=n)(h1:n<=18446744073709551615)(hk:k<=8)(hn:n/2^(8*k)=0): Ef EU 111 #[E Il n,E I k] w fun e w'=>e=Eg (Et #[EI (D ⟨w.heap.size,0,Z⟩) k k,E I 0])/\Row w' (D ⟨w.heap.size,0,Z⟩) (be n k)/\El w w':=
 (P_ n k w h0 h1 hk hn).mono fun _ _ ⟨he,hw⟩=>⟨he,by subst hw;exact Fh (fL w _) U (uw n k),QX⟩
theorem EJ9(n:Int)(w:M)(h0: -32768<=n)(h1:n<=32767): Ef EU 252 #[E I n] w fun e w'=>e=Eg (Et #[EI (D ⟨w.heap.size,0,Z⟩) 2 2,E I 0])/\Row w' (D ⟨w.heap.size,0,Z⟩) (be (n%65536) 2)/\El w w':=
 (EJ3 n w h0 h1).mono fun _ _ ⟨he,hw⟩=>⟨he,by subst hw;exact Fh (fL w _) U (uw _ 2),QX⟩
theorem GJ{a:Option Eu}(n c:Nat)(hn:xs.length=n)(hr:Row w a xs)(hl:n<=8): Ef EU 239 #[EI a n c] w fun e w'=>e=Eg (Et #[E Il (num xs),E I 0])/\w=w':=by subst hn;exact QJ a xs c w hr hl
def EF(l:List Int):Array V:=((UA 12).map fun i=>if i=7 then Ec (l.getD 7 0==1) else E I (l.getD i 0)).toArray
theorem JJ(l:List Int):(EF l).size=12:=by simp[EF]
theorem Zs(l:List Int)(i:Nat)(h:i<12):(EF l)[i]?=D (if i=7 then Ec (l.getD 7 0==1) else E I (l.getD i 0)):=by simp[EF,h]
theorem ZY(l:List Int):(EF l).all (·.oneCell')=u:=by rw[Array.all_eq_true];intro i hi;simp only[EF,List.getElem_toArray,List.getElem_map];split<;>rfl
theorem EJ_(l:List Int)(hl:l.length=12)(o:Nat)(ho:o<12)(n:Int):(EF l).setIfInBounds o (if o=7 then Ec (n==1) else E I n)=EF (l.set o n):=by
 apply Array.ext_getElem?;intro j;rw[Array.getElem?_setIfInBounds];by_cases h:o=j
 ·subst h;rw[if_pos U,if_pos (by rw[JJ];exact ho),Zs _ _ ho];by_cases h7:o=7;·subst h7;simp[hl]
  ·rw[if_neg h7,if_neg h7];simp[hl,ho]
 ·rw[if_neg h];by_cases hj:j<12
  ·rw[Zs _ _ hj,Zs _ _ hj];have e1: ∀k,k≠o->(l.set o n).getD k 0=l.getD k 0:=fun k hk=>by simp[UK,List.getElem?_set_ne (Zr hk)]
   by_cases h7:j=7;·subst h7;rw[if_pos U,if_pos U,e1 7 (Zr h)]
   ·rw[if_neg h7,if_neg h7,e1 j (Zr h)]
  ·rw[g_ (by rw[JJ];omega),g_ (by rw[JJ];omega)]
structure FD where
 kd:Nat
 (size lo hi:Int)
 off:Nat
def FD.get(d:FD):Nat:=if d.kd=1 then 234 else
 if d.kd=2 then 250 else
 if d.kd=3 then 248 else
 236
def FD.set(d:FD):Nat:=if d.kd=1 then 235 else
 if d.kd=2 then 251 else
 if d.kd=3 then 249 else
 237
def FD.box(d:FD):EC:=if d.kd=1 then 302 else
 if d.kd=2 then 333 else
 if d.kd=3 then 331 else
 300
def FD.ok(d:FD):Prop:=d.off<12/\d.kd<=1/\(d.kd=1↔d.off=7)
theorem FD.QZ{d:FD}(h:d.kd=0):d.get=236:=GU
theorem FD.GX{d:FD}(h:d.kd=0):d.set=237:=zi
theorem FD.zj{d:FD}(h:d.kd=0):d.box=300:=zk
theorem FD.EOE{d:FD}(h:d.kd=1):d.set=235:=zi
theorem FD.EOI{d:FD}(h:d.kd=1):d.box=302:=zk
def IF(d:FD)(gb:Nat):Array V:= #[E I d.size,E I d.lo,E I d.hi,.func (.func d.get) #[] #[Y (D ⟨gb,0,Z⟩)],.func (.func d.set) #[] #[Y (D ⟨gb,0,Z⟩)]]
theorem iO(d:FD)(gb:Nat):(IF d gb).all (·.oneCell')=u:=by simp[IF,OC]
def Zd(w:M)(d:FD)(gm gb:Nat):Prop:=H w gb #[Y (D ⟨gm,d.off,Z⟩)] d.box
theorem XF:IW EU 298 5:=⟨⟨_,Tryz.underlying298,U⟩,Ed⟩
theorem O_:IW EU 183 12:=⟨⟨_,Tryz.underlying183,U⟩,Ed⟩
def JB:Array V:= #[E I 0,E I 0,E I 0,.nilFunc,.nilFunc]
theorem f_:Od EU 298 JB:=by intro ev o w ho;unfold Iw;simp only[ho];simp[go_sem];exact congrArg (fun c=>w.alloc (EJ c 298)) Ed
theorem EOJ:Od EU 183 (EF (hX 12 0)):=by intro ev o w ho;unfold Iw;simp only[ho];simp[go_sem];exact congrArg (fun c=>w.alloc (EJ c 183)) Ed
theorem EOO(gb gm o:Nat)(n:Int)(w:M)(hb:H w gb #[Y (D ⟨gm,o,Z⟩)] 300)(hc:w.cell? ⟨gm,o,Z⟩=D (E I n)): Ef EU 236 #[Y (D ⟨gb,0,Z⟩)] w fun e w'=>e=Eg (E I n)/\w=w':=by have c0:=hb.cell 0;simp only[Og,kx] at c0;clear hb;go_enter Tryz.func236,Tryz.ntmps236;exact Els
def mW(l:List Int):Prop:=l.length=12/\(l.getD 7 0=0\/l.getD 7 0=1)
theorem Qa(gb gm o:Nat)(n m:Int)(w:M)(hb:H w gb #[Y (D ⟨gm,o,Z⟩)] 300)(hc:w.cell? ⟨gm,o,Z⟩=D (E I m))(hf:w.frozen? ⟨gm,o,Z⟩=B): Ef EU 237 #[E I n,Y (D ⟨gb,0,Z⟩)] w fun e w'=>e=Eg (Et #[])/\w.setCell ⟨gm,o,Z⟩ (E I n)=w':=by have c0:=hb.cell 0;simp only[Og,kx] at c0;clear hb;go_enter Tryz.func237,Tryz.ntmps237;exact EoO
theorem EOU(gb gm o:Nat)(n:Int)(b:Bool)(w:M)(hb:H w gb #[Y (D ⟨gm,o,Z⟩)] 302)(hc:w.cell? ⟨gm,o,Z⟩=D (Ec b))(hf:w.frozen? ⟨gm,o,Z⟩=B): Ef EU 235 #[E I n,Y (D ⟨gb,0,Z⟩)] w fun e w'=>e=Eg (Et #[])/\w.setCell ⟨gm,o,Z⟩ (Ec (n==1))=w':=by have c0:=hb.cell 0;simp only[Og,kx] at c0;clear hb;go_enter Tryz.func235,Tryz.ntmps235;exact EoO
theorem EOX(d:FD)(gb gm:Nat)(l:List Int)(n:Int)(w:M)(hd:d.ok)(hl:mW l)(hb:Zd w d gm gb)(hm:H w gm (EF l) 183): Ef EU d.set #[E I n,Y (D ⟨gb,0,Z⟩)] w fun e w'=>e=Eg (Et #[])/\H w' gm (EF (l.set d.off n)) 183/\(∀k,k≠gm->w'.heap[k]?=w.heap[k]?)/\w'.heap.size=w.heap.size/\Io gm w w':=by
 have hc:=hm.cell d.off;have hf:=hm.JX d.off;rw[Zs _ _ hd.1] at hc;have fin: ∀v,v=(if d.off=7 then Ec (n==1) else E I n)->H (w.setCell ⟨gm,d.off,Z⟩ v) gm (EF (l.set d.off n)) 183/\(∀k,k≠gm->(w.setCell ⟨gm,d.off,Z⟩ v).heap[k]?=w.heap[k]?)/\(w.setCell ⟨gm,d.off,Z⟩ v).heap.size=w.heap.size/\Io gm w (w.setCell ⟨gm,d.off,Z⟩ v):=by intro v hv;subst hv;refine⟨?_,fun k hk=>XM _ _ _ _ hk,FF,(IE gm w).setCell (p:=⟨gm,d.off,Z⟩) (E7 _) _⟩;have h:=hm.set d.off (if d.off=7 then Ec (n==1) else E I n);rw[EJ_ l hl.1 _ hd.1] at h;exact h
 unfold Zd at hb;by_cases hn:d.kd=1;·have h7:=hd.2.2.1 hn;rw[FD.EOI hn] at hb;rw[FD.EOE hn];have Qb:=fin (Ec (n==1)) (by rw[if_pos h7]);rw[h7] at hc hb hf Qb⊢;rw[if_pos U] at hc;exact(EOU gb gm 7 n _ w hb hc hf).mono fun e w' ⟨he,hw⟩=>⟨he,by rw[<-hw];exact Qb⟩
 ·have h7:d.off≠7:=fun h=>hn (hd.2.2.2 h);have h0:d.kd=0:=by have:=hd.2.1;omega
  rw[FD.zj h0] at hb;rw[FD.GX h0];rw[if_neg h7] at hc;have zl:=fin (E I n) (by rw[if_neg h7]);exact EoM
def FV(w:M)(base gm:Nat)(d:FD)(v:V):Prop:= ∃gb,v=EZ (IF d gb)/\base<=gb/\Zd w d gm gb
theorem FV.G{gm:Nat}{d:FD}{v:V}(h:FV w base gm d v)(hb:El w w'):FV w' base gm d v:=by obtain⟨gb,e,l,k⟩:=h;exact⟨gb,e,l,k.G hb⟩
theorem EOZ(d:FD)(gb:Nat):Tryz.prog.built 298 [(0,E I d.size),(1,E I d.lo),(2,E I d.hi),(3,.func (.func d.get) #[] #[Y (D ⟨gb,0,Z⟩)]),(4,.func (.func d.set) #[] #[Y (D ⟨gb,0,Z⟩)])]=D (IF d gb):=Ed
theorem GZ(d:FD)(gb:Nat)(h0:d.lo=0):Tryz.prog.built 298 [(0,E I d.size),(2,E I d.hi),(3,.func (.func d.get) #[] #[Y (D ⟨gb,0,Z⟩)]),(4,.func (.func d.set) #[] #[Y (D ⟨gb,0,Z⟩)])]=D (IF d gb):=by unfold IF;rw[h0];kernel_rfl
theorem pJ(d:FD)(hd:d.kd=0)(gm:Nat)(w:M): Ef EU 207 #[Y (D ⟨gm,d.off,Z⟩),E I d.size,E I d.lo,E I d.hi] w fun e w'=> ∃v,e=Eg v/\FV w' w.heap.size gm d v/\El w w':=by have hg:=FD.QZ hd;have hs:=FD.GX hd;have hx:=FD.zj hd;have BF:=EOZ d w.heap.size;rw[hg,hs] at BF;have O1:=O<|iO d w.heap.size;have Ur:Ea ((IF d w.heap.size).size=5):=O U;have HV:Ea (IF d w.heap.size=IF d w.heap.size):=O U;generalize XE:IF d w.heap.size=fv at*;replace XE:=O XE;replace BF:=O BF;clear HV hg hs;have HX:=O hx;clear hx;have HB:Ea (∀W:M,H W w.heap.size #[Y (D ⟨gm,d.off,Z⟩)] 300->FV W w.heap.size gm d (EZ fv)):=O fun W h=>⟨w.heap.size,by rw[XE.out],E7 _,by unfold Zd;rw[HX.out];exact h⟩;clear HX XE;generalize d.size=sz at*;generalize d.lo=lo at*;generalize d.hi=hi at*;generalize d.off=of at*;go_enter Tryz.func207,Tryz.ntmps207;go_wp2_with (with_reducible refine wA f_ (Ev.mk ?_));apply Eo;have K4:=O<|(H.new w #[Y (D ⟨gm,of,Z⟩)] 300).alloc (EJ JB 298);have K8:=O<|H.new' (w.alloc (EJ #[Y (D ⟨gm,of,Z⟩)] 300)) JB 298 (g:=w.heap.size+1) Eh;have BB:=O<|J9 w (EJ #[Y (D ⟨gm,of,Z⟩)] 300) (EJ JB 298);generalize (w.alloc (EJ #[Y (D ⟨gm,of,Z⟩)] 300)).alloc (EJ JB 298)=w1 at*;go_wp2_with (first|((with_reducible refine Is 14 ?_);refine I3 rfl 298 _ rfl fv BF.out ?_)|(with_reducible refine wS (cs:=fv) XF K8 ?_ (hn:=Ur.out) (h1:=O1.out)));refine ET (v:=EZ fv) (Jl XF U _ _ (w.heap.size+1) _ U (K8.out.setRow _) Ur.out) U ⟨_,U,HB.out _ (K4.out.setRow_other _ _ X),E3 BB.out X _⟩
def jj(Y5:Nat):Prop:= ∀(args:Array V) (w:M),(Jj Y5 args).run EU w= .ok (.enter Y5 args) w
def fa(w:M)(Y5:Nat)(gp:V)(n:Int):Prop:=jj Y5/\ ∀W,El w W->Ef EU Y5 #[gp] W fun e w'=>e=Eg (E I n)/\W=w'
theorem fa.G{Y5:Nat}{n:Int}(h:fa w Y5 gp n)(hb:El w w'):fa w' Y5 gp n:=⟨h.1,fun W hW=>h.2 W (bt hb hW)⟩
theorem fa.call{Y5:Nat}{n:Int}(h:fa w Y5 gp n)(W:M)(hW:El w W):Ef EU Y5 #[gp] W fun e w'=>e=Eg (E I n)/\W=w':=h.2 W hW
theorem EOa(d:FD):jj d.get:=by
 intro args w;unfold FD.get;repeat' split
 all_goals kernel_rfl
theorem Qc(d:FD):jj d.set:=by
 intro args w;unfold FD.set;repeat' split
 all_goals kernel_rfl
theorem EOb(sz lo hi n:Int)(Y5 S:Nat)(gp:V)(w:M)(HG:fa w Y5 gp n)(h:n<lo): Ef EU 242 #[EZ #[E I sz,E I lo,E I hi,.func (.func Y5) #[] #[gp],.func (.func S) #[] #[gp]]] w fun e w'=>e=Eg (Et #[EI Z 0 0,Ec B])/\El w w':=by have C:=O HG;have HE: ∀(args:Array V) (w:M),(Jj Y5 args).run EU w= .ok (.enter Y5 args) w:=HG.1;clear HG;go_enter Tryz.func242,Tryz.ntmps242;go_wp2_with fail;have B1:=Ep w (EJ #[E I sz,E I lo,E I hi,.func (.func Y5) #[] #[gp],.func (.func S) #[] #[gp]] 298);refine(C.out.call _ B1).mono ?_;rintro e w1 ⟨rfl,rfl⟩;clear C HE;have hd:decide (n<lo)=u:=Ib h;go_wp2_with fail;go_ret2;exact⟨U,B1⟩
theorem EOc(sz lo hi n:Int)(Y5 S:Nat)(gp:V)(w:M)(HG:fa w Y5 gp n)(h0:lo<=n)(h:hi<n): Ef EU 242 #[EZ #[E I sz,E I lo,E I hi,.func (.func Y5) #[] #[gp],.func (.func S) #[] #[gp]]] w fun e w'=>e=Eg (Et #[EI Z 0 0,Ec B])/\El w w':=by have C:=O HG;have HE: ∀(args:Array V) (w:M),(Jj Y5 args).run EU w= .ok (.enter Y5 args) w:=HG.1;clear HG;go_enter Tryz.func242,Tryz.ntmps242;go_wp2_with fail;have B1:=Ep w (EJ #[E I sz,E I lo,E I hi,.func (.func Y5) #[] #[gp],.func (.func S) #[] #[gp]] 298);refine(C.out.call _ B1).mono ?_;rintro e w1 ⟨rfl,rfl⟩;clear C HE;have hd:decide (n<lo)=B:=IJ X;have hd2:decide (hi<n)=u:=Ib h;go_wp2_with fail;go_ret2;exact⟨U,B1⟩
theorem EOd(sz lo hi n:Int)(Y5 S:Nat)(gp:V)(w:M)(HG:fa w Y5 gp n)(h0:lo<=n)(h:n<=hi)(hl:lo<0)(hl2: -32768<=lo)(hh:hi<=32767): Ef EU 242 #[EZ #[E I sz,E I lo,E I hi,.func (.func Y5) #[] #[gp],.func (.func S) #[] #[gp]]] w fun e w'=> ∃g,e=Eg (Et #[EI (D ⟨g,0,Z⟩) 2 2,Ec u])/\Row w' (D ⟨g,0,Z⟩) (be (n%65536) 2)/\El w w':=by have C:=O HG;have HE: ∀(args:Array V) (w:M),(Jj Y5 args).run EU w= .ok (.enter Y5 args) w:=HG.1;clear HG;go_enter Tryz.func242,Tryz.ntmps242;go_wp2_with fail;have B1:=Ep w (EJ #[E I sz,E I lo,E I hi,.func (.func Y5) #[] #[gp],.func (.func S) #[] #[gp]] 298);refine(C.out.call _ B1).mono ?_;rintro e w1 ⟨rfl,rfl⟩;clear C HE;have hd:decide (n<lo)=B:=IJ X;have hd2:decide (hi<n)=B:=IJ X;have hd3:decide (lo<0)=u:=Ib hl;have n1: -32768<=n:=X;have n2:n<=32767:=X;go_wp2_with fail;refine(EJ9 n _ n1 n2).mono ?_;exact Eof
theorem EOf(lo hi n:Int)(Y5 S:Nat)(gp:V)(w:M)(HG:fa w Y5 gp n)(k:Nat)(hk8:k<=8)(h0:lo<=n)(h:n<=hi)(hl:0<=lo)(hn:n/2^(8*k)=0)(hh:hi<=9223372036854775807): Ef EU 242 #[EZ #[E I (k:Int),E I lo,E I hi,.func (.func Y5) #[] #[gp],.func (.func S) #[] #[gp]]] w fun e w'=> ∃g,e=Eg (Et #[EI (D ⟨g,0,Z⟩) k k,Ec u])/\Row w' (D ⟨g,0,Z⟩) (be n k)/\El w w':=by have C:=O HG;have HE: ∀(args:Array V) (w:M),(Jj Y5 args).run EU w= .ok (.enter Y5 args) w:=HG.1;clear HG;go_enter Tryz.func242,Tryz.ntmps242;go_wp2_with fail;have B1:=Ep w (EJ #[E I (k:Int),E I lo,E I hi,.func (.func Y5) #[] #[gp],.func (.func S) #[] #[gp]] 298);refine(C.out.call _ B1).mono ?_;rintro e w1 ⟨rfl,rfl⟩;clear C HE;have hd:decide (n<lo)=B:=IJ X;have hd2:decide (hi<n)=B:=IJ X;have hd3:decide (lo<0)=B:=IJ X;have n1:0<=n:=X;have n2:n<=18446744073709551615:=X;have n3:n<=9223372036854775807:=X;have CP:=O<|fun W=>kw n k W n1 n2 hk8 hn;clear hn;go_wp2_with fail;refine(CP.out _).mono ?_;exact Eof
structure gE where
 code:Int
 Y5:Nat
 lb:Array V
 b:Bool
def gE.v(c:gE):List V:=[E I c.code,.func (.func c.Y5) #[] c.lb]
def EOh(w:M)(c:gE):Prop:=jj c.Y5/\ ∀W,El w W->Ef EU c.Y5 c.lb W fun e w'=>e=Eg (Ec c.b)/\El W w'
def jk:List gE->Int
 |[]=>0
 |c::r=>if c.b then c.code else jk r
theorem Qd(L:List gE)(i:Nat)(h:i<L.length):(L.flatMap gE.v)[i*2]?=D (E I L[i].code)/\(L.flatMap gE.v)[i*2+1]?=D (.func (.func L[i].Y5) #[] L[i].lb):=by
 induction L generalizing i with
 |nil=>simp at h
 |cons c r ih=>
  cases i with
  |zero=>simp[gE.v]
  |succ i=> have:=ih i Un;rw[kj,show(i+1)*2=i*2+2 from X,show i*2+2+1=i*2+1+2 from X];simpa[gE.v] using this
theorem EOi(L:List gE)(i:Nat)(h:i<L.length):jk (L.drop i)=if L[i].b then L[i].code else jk (L.drop (i+1)):=by rw[kJ h];rfl
theorem EOj:IW EU 317 2:=⟨⟨_,Tryz.underlying317,U⟩,Ed⟩
theorem Qf(L:List gE)(g n:Nat)(w:M)(hn:L.length=n)(hL:n<=10)(K:H w g (L.flatMap gE.v).toArray 317)(HT: ∀c∈L,EOh w c): Ef EU 220 #[EI (D ⟨g,0,Z⟩) n n] w fun e w'=>e=Eg (E I (jk L))/\El w w':=by
 have HT:=O HT;have K:=O K;have HN:=O hn;obtain⟨r,hr⟩:=En (jk L);rw[<-hr];have HR:=O<|show r=jk (L.drop 0) from hr;clear hr hn;go_enter Tryz.func220,Tryz.ntmps220;go_wp2_with fail;go_loopw[7] (fun y wr=> ∃i:Nat,i<=n/\y=E I i/\r=jk (L.drop i)/\El w wr) (fun y _=>n-(Iv y).toNat);case atStart=>exact⟨0,X,U,HR.out,IE _ _⟩
 case round=>
  obtain⟨i,hi,rfl,zo,BB⟩:=hrel;replace BB:=O BB;by_cases hlt:i<n
  ·have t1:decide ((i:Int)<(n:Int))=u:=Ib X;have hil:i<L.length:=mY;obtain⟨c,hc⟩:=En (L[i]);have KW:=K.out.G (BB.out.mono (E7 _));have c0:wr.cell? ⟨g,i*2,Z⟩=D (E I c.code):=by rw[hc,KW.cell,Og];exact(Qd L i hil).1
   have c1:wr.cell? ⟨g,i*2+1,Z⟩=D (.func (.func c.Y5) #[] c.lb):=by rw[hc,KW.cell,Og];exact(Qd L i hil).2
   have TC:=HT.out c (by rw[hc];exact hH hil);have HE: ∀(args:Array V) (w:M),(Jj c.Y5 args).run EU w= .ok (.enter c.Y5 args) w:=TC.1;have CC:=O<|TC.2;have Qg:Ea (r=if c.b then c.code else jk (L.drop (i+1))):=O (by rw[hc,zo];exact EOi L i hil);clear TC zo hc KW;obtain⟨code,Y5,lb,b⟩:=c;simp only at*;go_wp2_with (first|(with_reducible refine EJc 317 ?_));apply Eo;clear c0 c1 t1;have lw:=BB.out.size;have KC:=O<|H.new wr #[E I 0,.nilFunc] 317;have B1:=Ep wr (EJ #[E I 0,.nilFunc] 317);replace BB:=O<|BB.out.trans (B1.mono BB.out.size);clear B1;generalize wr.alloc (EJ #[E I 0,.nilFunc] 317)=w1 at*;generalize wr.heap.size=gc at*;go_wp2_with (with_reducible refine wS (cs:= #[E I code,.func (.func Y5) #[] lb]) EOj KC (Ev.mk ?_) (h1:=Us));apply Eo;replace KC:=O<|KC.out.setRow #[E I code,.func (.func Y5) #[] lb];replace BB:=O<|E3 (g:=gc) BB.out lw #[E I code,.func (.func Y5) #[] lb];generalize w1.setRow gc #[E I code,.func (.func Y5) #[] lb]=w2 at*;have cc1:w2.cell? ⟨gc,1,Z⟩=D (.func (.func Y5) #[] lb):=(KC.out.cell 1).trans U;go_wp2_with fail;refine(CC.out _ BB.out).mono ?_;rintro x w3 ⟨rfl,b3⟩;replace KC:=O<|KC.out.G b3;replace BB:=O<|BB.out.trans (b3.mono BB.out.size);clear b3 cc1 CC HE;have cc0:w3.cell? ⟨gc,0,Z⟩=D (E I code):=(KC.out.cell 0).trans U;cases b with
   |true=> have er:r=code:=Qg.out;go_wp2_with fail;go_ret;exact⟨by rw[er];rfl,BB.out⟩
   |false=> go_wp2_with fail;exact⟨⟨i+1,X,Eh,Qg.out,BB.out⟩,Jv⟩
  ·have t1:decide ((i:Int)<(n:Int))=B:=IJ X;have er:r=0:=by rw[zo,mq rY];rfl
   clear zo;go_wp2_with fail;go_ret;exact⟨by rw[er];rfl,BB.out⟩
section
open Go.ChangeShapes Go.WideShapes
def EK(n:Nat)(f:Nat->V):Array V:=((UA n).map f).toArray
def Uk(f:Nat->V)(j:Nat)(v:V):Nat->V:=fun x=>if x=j then v else f x
@[simp] theorem pO(n:Nat)(f:Nat->V):(EK n f).size=n:=ky
theorem cU(n:Nat)(f:Nat->V)(i:Nat):(EK n f)[i]?=if i<n then D (f i) else Z:=by
 unfold EK;by_cases h:i<n;·simp[h]
 ·simp[h]
theorem r_(n:Nat)(f:Nat->V)(i:Nat)(h:i<(EK n f).size):(EK n f)[i]=f i:=ky
theorem ux(n:Nat)(f:Nat->V)(j:Nat)(v:V):(EK n f).setIfInBounds j v=EK n (Uk f j v):=by
 apply Array.ext;·simp[EK]
 ·intro i h1 h2;have hi:i<n:=by simpa[EK] using h2
  rw[Array.getElem_setIfInBounds (by simpa[EK] using hi),r_,r_];unfold Uk;by_cases e:j=i;·subst e;simp
  ·rw[if_neg e,if_neg (fun h=>e h.symm)]
theorem Qh(cs:Array V)(n:Nat)(h:cs.size=n):cs=EK n (fun i=>cs.getD i I6):=by
 apply Array.ext;·simp[EK,h]
 ·intro i h1 h2;rw[r_];simp[h1]
theorem uy(f:Nat->V)(j:Nat)(v:V):Uk f j v j=v:=by simp[Uk]
theorem m0(f:Nat->V)(j:Nat)(v:V)(x:Nat)(h:x≠j):Uk f j v x=f x:=by simp[Uk,h]
attribute [go_sem] cU r_ pO
def Z0(v:V):Prop:=v=E I (Iv v)/\ -9223372036854775808<=Iv v/\Iv v<=9223372036854775807
structure uz(w:M)(f:Nat->V):Prop where
 int: ∀i,i<56->i<5\/8<i->Z0 (f i)
 key: ∀i,5<=i->i<=8->yG w (f i)
def Qi(w:M)(v:V):Prop:= ∃f,v=EZ (EK 56 f)/\uz w f
def Ga:List EC:=hX 5 3++hX 4 23++hX 47 3
theorem mk_pol{r:Reach}{Y9:Type}{enc:EC×V->Y9}{v:V}{d:DataW Y9}{p:List MemPlace} (hv:Value.okWide EU w r base 28 v) (hd:DataW.Trod enc EU w 0 (fun _=>u) u 28 v d p):Qi w v:=by
 obtain⟨cs,rfl,hs,hc⟩:=flat (ts:=Ga) (.inl ⟨_,Tryz.underlying28⟩) Ed Ed hv;have hs:cs.size=56:=hs;have hget: ∀i,i<56->cs[i]?=D (cs.getD i I6):=fun i hi=>by simp[show i<cs.size from X]
 refine⟨fun i=>cs.getD i I6,by rw[<-Qh cs 56 hs],⟨fun i hi h=> ?_,fun i h1 h2=> ?_⟩⟩
 ·have ht:Ga[i]?=D 3:=by have: ∀i:Fin 56,(i.1<5\/8<i.1)->Ga[i.1]?=D 3:=Eb;exact this ⟨i,hi⟩ h
  obtain⟨n,hn,b1,b2⟩:=EIY Tryz.underlying3 (hc i _ _ ht (hget i hi));unfold Z0;rw[hn];exact⟨U,b1,b2⟩
 ·obtain⟨fuel,hf⟩:=hd;obtain⟨xs,n,_,_,_,hl,hg⟩:=DataW.trod_struct Tryz.underlying28 hf;have hcl:(Value.agg cs).cells.toList=cs.toList:=rfl;rw[hcl] at hg;have c3:Tryz.prog.cellsOf 24=3:=Ed;have c1:Tryz.prog.cellsOf 23=1:=Ed;have one: ∀j,j<56->(cs.toList.drop j).take 1=[cs.getD j I6]:=by intro j hj;rw[kJ Jn];simp[show j<cs.size from X]
  rcases JG i 8 with h8|h8
  ·have h:ZN enc EU w 0 (fun _=>u) u n 24 ((cs.toList.drop 5).take (Tryz.prog.cellsOf 24))=xs[1]?:=hg 1 _ U;rw[c3] at h;have hx:1<xs.length:=by rw[hl];show 1<20;omega
   rw[Ok hx] at h;obtain⟨ys,m,_,_,_,_,hj⟩:=DataW.trod_array Tryz.underlying24 h;have:=hj (i-5) X;rw[c1] at this;have e:((List.take 3 (List.drop 5 cs.toList)).drop ((i-5)*1)).take 1=[cs.getD i I6]:=by rw[Nat.mul_one,List.drop_take,List.drop_drop,List.take_take,show 5+(i-5)=i from X,show min 1 (3-(i-5))=1 from X];exact one i X
   rw[e] at this;have hy:i-5<ys.length:=X;rw[Ok hy] at this;exact N0 bR Tryz.underlying5 Ed this
  ·obtain rfl:i=8:=X;have h:ZN enc EU w 0 (fun _=>u) u n 23 ((cs.toList.drop 8).take (Tryz.prog.cellsOf 23))=xs[2]?:=hg 2 _ U;rw[c1] at h;have hx:2<xs.length:=by rw[hl];show 2<20;omega
   rw[Ok hx,one 8 X] at h;exact N0 bR Tryz.underlying5 Ed h
end
theorem EOl(W:M)(h e o oa om la lm:Int)(b:Bool)(g3:Nat)(KT:H W g3 #[E I h,E I e,E I o,E I oa,E I om,E I la,E I lm,Ec b] 109)(g4:Nat)(s:Int)(K4:H W g4 #[E I s] 3): Ef EU 226 #[Y (D ⟨g3,0,Z⟩),Y (D ⟨g4,0,Z⟩)] W fun x w'=>x=Eg (Ec (decide (o<0\/o≠s)))/\El W w':=by
 have zp:g3<W.heap.size:=H.lt KT;have zq:W.cell? ⟨g3,0,Z⟩=D (E I h):=(H.cell KT 0).trans U;have c31:W.cell? ⟨g3,1,Z⟩=D (E I e):=(H.cell KT 1).trans U;have c32:W.cell? ⟨g3,2,Z⟩=D (E I o):=(H.cell KT 2).trans U;have zu:W.cell? ⟨g3,3,Z⟩=D (E I oa):=(H.cell KT 3).trans U;have c34:W.cell? ⟨g3,4,Z⟩=D (E I om):=(H.cell KT 4).trans U;have zw:W.cell? ⟨g3,5,Z⟩=D (E I la):=(H.cell KT 5).trans U;have zx:W.cell? ⟨g3,6,Z⟩=D (E I lm):=(H.cell KT 6).trans U;have c37:W.cell? ⟨g3,7,Z⟩=D (Ec b):=(H.cell KT 7).trans U;have Ejy:g4<W.heap.size:=H.lt K4;have ci4:W.cell? ⟨g4,0,Z⟩=D (E I s):=(H.cell K4 0).trans U;by_cases h1:o<0;·rw[Ib (.inl h1)];have d1:decide (0<=o)=B:=IJ X;clear KT K4 h1;exact Ep2
 have d1:decide (0<=o)=u:=Ib X;by_cases h2:o=s;·rw[IJ X];have d2:(o !=s)=B:=za;clear KT K4 h1 h2;exact Ep2
 ·rw[Ib (.inr h2)];have d2:(o !=s)=u:=by simp[h2]
  clear KT K4 h1 h2;exact Ep2
theorem EOm(W:M)(h e o oa om la lm:Int)(b:Bool)(g3:Nat)(KT:H W g3 #[E I h,E I e,E I o,E I oa,E I om,E I la,E I lm,Ec b] 109)(g5:Nat)(ep:Int)(K5:H W g5 #[E I ep] 3): Ef EU 227 #[Y (D ⟨g5,0,Z⟩),Y (D ⟨g3,0,Z⟩)] W fun x w'=>x=Eg (Ec (decide (ep≠e)))/\El W w':=by
 have zp:g3<W.heap.size:=H.lt KT;have zq:W.cell? ⟨g3,0,Z⟩=D (E I h):=(H.cell KT 0).trans U;have c31:W.cell? ⟨g3,1,Z⟩=D (E I e):=(H.cell KT 1).trans U;have c32:W.cell? ⟨g3,2,Z⟩=D (E I o):=(H.cell KT 2).trans U;have zu:W.cell? ⟨g3,3,Z⟩=D (E I oa):=(H.cell KT 3).trans U;have c34:W.cell? ⟨g3,4,Z⟩=D (E I om):=(H.cell KT 4).trans U;have zw:W.cell? ⟨g3,5,Z⟩=D (E I la):=(H.cell KT 5).trans U;have zx:W.cell? ⟨g3,6,Z⟩=D (E I lm):=(H.cell KT 6).trans U;have c37:W.cell? ⟨g3,7,Z⟩=D (Ec b):=(H.cell KT 7).trans U;have EjA:g5<W.heap.size:=H.lt K5;have ci5:W.cell? ⟨g5,0,Z⟩=D (E I ep):=(H.cell K5 0).trans U;by_cases h2:ep=e;·rw[IJ X];have d2:(ep !=e)=B:=za;clear KT K5 h2;go_enter Tryz.func227,Tryz.ntmps227;exact Eln
 ·rw[Ib h2];have d2:(ep !=e)=u:=by simp[h2]
  clear KT K5 h2;go_enter Tryz.func227,Tryz.ntmps227;exact Eln
theorem EOn(t:EG)(s ep:Int)(w:M)(he: -9223372036854775808<=t.e): Ef EU 179 #[t.a,E I s,E I ep] w fun x w'=>x=Eg (Et #[(t.accept s ep).1.a,E I (t.accept s ep).2])/\El w w':=by
 have CG:=O<|fun W=>rV t s W he;obtain⟨r,hr⟩:=En (t.Uq s);have HE:Ea (t.accept s ep=if t.o<0\/t.o≠s then(t,28) else if ep≠t.e then(t,21) else r):=O uq;rw[<-hr] at CG;clear hr he;unfold EG.a at*;obtain⟨h,e,o,oa,om,la,lm,b⟩:=t;simp only at*;obtain⟨⟨h',e',o',oa',om',la',lm',b'⟩,k⟩:=r;simp only at CG;unfold Uj at CG⊢;go_enter Tryz.func179,Tryz.ntmps179;go_wp2_with fail;generalize hW:UN _ _=W at*;have K3:Ea (H W (w.heap.size) #[E I h,E I e,E I o,E I oa,E I om,E I la,E I lm,Ec b] 109):=O (by subst hW;repeat (first|exact H.new _ _ _|exact H.new' _ _ _ Eh|refine H.alloc ?_ _));have K4:Ea (H W (w.heap.size+1) #[E I s] 3):=O (by subst hW;repeat (first|exact H.new _ _ _|exact H.new' _ _ _ Eh|refine H.alloc ?_ _));have K5:Ea (H W (w.heap.size+1+1) #[E I ep] 3):=O (by subst hW;repeat (first|exact H.new _ _ _|exact H.new' _ _ _ Eh|refine H.alloc ?_ _));have K6:Ea (H W (w.heap.size+1+1+1) #[E I 0,E I 0,E I 0,E I 0,E I 0,E I 0,E I 0,Ec B] 109):=O (by subst hW;repeat (first|exact H.new _ _ _|exact H.new' _ _ _ Eh|refine H.alloc ?_ _));have KA:Ea (H W (w.heap.size+1+1+1+1) #[E I 28,.func (.func 226) #[] #[Y (D ⟨w.heap.size,0,Z⟩),Y (D ⟨w.heap.size+1,0,Z⟩)],E I 21,.func (.func 227) #[] #[Y (D ⟨w.heap.size+1+1,0,Z⟩),Y (D ⟨w.heap.size,0,Z⟩)]] 317):=O (by subst hW;repeat (first|exact H.new _ _ _|exact H.new' _ _ _ Eh|refine H.alloc ?_ _));have BB:Ea (El w W):=O (by subst hW;(repeat (first|exact IE _ _|(refine JH ?_ Iu _)|(refine JK ?_ Iu _))));clear hW
 have CF:=Qf [⟨28,226,#[Y (D ⟨w.heap.size,0,Z⟩),Y (D ⟨w.heap.size+1,0,Z⟩)],decide (o<0\/o≠s)⟩,⟨21,227,#[Y (D ⟨w.heap.size+1+1,0,Z⟩),Y (D ⟨w.heap.size,0,Z⟩)],decide (ep≠e)⟩] (w.heap.size+1+1+1+1) 2 W U X KA.out (by
  intro c hc;simp only[Ui,UP,or_false] at hc;rcases hc with rfl|rfl;·exact⟨fun _ _=>Ed,fun W2 hW2=>EOl W2 h e o oa om la lm b _ (K3.out.G hW2) _ s (K4.out.G hW2)⟩
  ·exact⟨fun _ _=>Ed,fun W2 hW2=>EOm W2 h e o oa om la lm b _ (K3.out.G hW2) _ ep (K5.out.G hW2)⟩)
 simp only[jk,decide_eq_true_eq] at CF;replace CF:=O CF;clear KA;by_cases h1:o<0\/o≠s;·rw[if_pos h1] at CF HE;exact El4
 rw[if_neg h1] at CF HE;by_cases h2:ep≠e;·rw[if_pos h2] at CF HE;exact El4
 rw[if_neg h2] at CF HE;refine CF.out.mono ?_;rintro x W2 ⟨rfl,b2⟩;replace K3:=O<|K3.out.G b2;replace K4:=O<|K4.out.G b2;replace K5:=O<|K5.out.G b2;replace K6:=O<|K6.out.G b2;replace BB:=EW BB b2;clear b2 CF h1 h2;have c4:W2.cell? ⟨w.heap.size+1,0,Z⟩=D (E I s):=(K4.out.cell 0).trans U;go_wp2_with (first|(with_reducible refine wL EV K3 ?_));refine(CG.out _).mono ?_;rintro x W3 ⟨rfl,b3⟩;replace K3:=O<|K3.out.G b3;replace K4:=O<|K4.out.G b3;replace K5:=O<|K5.out.G b3;replace K6:=O<|K6.out.G b3;replace BB:=EW BB b3;clear b3 CG c4;go_wp2_with (first|(with_reducible refine wS (cs:= #[E I h',E I e',E I o',E I oa',E I om',E I la',E I lm',Ec b']) EV K6 ?_ (h1:=Us)));exact Emr
theorem EOr{rest:List EN}{a:E6}(hw:I_ o (Jd ops a.tmps)=u) {v:V}  (hr:(Iw a.eval o).run P w= .ok (.value v) w') (h:IZ P ops Q rest (a.put o.dst v) w'):IZ P ops Q (o::rest) a w:=by exact Enj
def pz:Nat->V:=fun i=>if i<5 then E I 0 else if i<=8 then .slice Z 0 0 else E I 0
theorem EOs:(Tryz.prog.info? 28).map (·.size)=D 56:=Ed
section
variable{ops:Array Oper}{rest:List Oper}{o:Oper}{a:Act}{w:World}{Q:Exit->Act->World->Prop}
theorem pU(hw:I_ o (Jd ops a.tmps)=u)(x:UH)(ho:o.op= .load 28 x)(g:Nat)(q:Nat->V)(hg:Ea (w.heap[g]?=D (EJ (EK 56 q) 28 (0,0)))) (hx:a.eval x=Y (D ⟨g,0,Z⟩)) (h:IZ EU ops Q rest (a.put o.dst (EZ (EK 56 q))) w):IZ EU ops Q (o::rest) a w:=by refine EOr hw ?_ h;unfold Iw;simp only[ho,hx,fN,dU,Ud,UU,Uf,run_loadVar_row w g 28 28 (EK 56 q) (0,0) _ hg.out Tryz.underlying28 U (by rw[EOs,pO])]
theorem cX{o:EN}{ops:Array EN}{tmps:Array V}{j d:Nat}{want:Bool}(h:o.guard=D (j,want))(hd:(ops[j]?).bind (·.dst)=D d)(hv:tmps[d]?=D (Ec want)):I_ o (Jd ops tmps)=u:=by unfold I_ Jd;simp[h,hd,hv]
end
theorem EOt(n m:Int)(hm:1<=m)(hm2:m<=1000000)(h1: -9223372036854775808<=n)(h2:n<=9223372036854775807):(n.tmod m+m)%m=n%m:=by have e:=Int.mul_tdiv_add_tmod n m;rw[Int.add_emod_right];conv=>rhs;rw[<-e,Int.mul_add_emod_self_left]
theorem cZ(n m:Int)(w:M)(h1: -9223372036854775808<=n)(h2:n<=9223372036854775807)(hm:1<=m)(hm2:m<=1000000): Ef EU 22 #[E I n,E I m] w fun e w'=>e=Eg (E I (n%m))/\w=w':=by
 have b1:=Int.tmod_lt_of_pos n (b:=m) X;have b2:=Int.lt_tmod_of_pos n (b:=m) X;have HM:=O<|EOt n m hm hm2 h1 h2;have hz:(m==0)=B:=Jn;go_enter Tryz.func22,Tryz.ntmps22;go_wp2
 all_goals
  go_ret
  exact⟨by first|(rw[<-HM.out];rfl)|skip,rfl⟩
theorem EOu(w:M):Own (w.alloc (EJ #[E IP 7] 5)) w.heap.size (D ⟨w.heap.size,0,Z⟩) 1 [7]:=
 ⟨pE w #[E IP 7] 1 (E7 _) OD U,fun x hx=>by simp at hx;omega⟩
def EOv(w:M)(base:Nat)(e:Ut):Prop:= ∃(Y4:Option Eu) (n c:Nat) (ys:List Int),e=Eg (EI Y4 n c)/\ys.length=n/\Own w base Y4 c ys/\1<=n/\n<=64
theorem zy(A:Option Eu)(xs:List Int)(cap:Nat)(w:M)(hr:Row w A xs)(hl:xs.length<=cap)(hc:cap<=9223372036854775807): Ef EU 21 #[EI A xs.length cap] w fun e w'=>EOv w' w.heap.size e/\El w w':=by
 have ba: ∀o,El w (w.alloc o):=fun o=>(IE _ _).alloc (E7 _) o;by_cases h0:xs=[];·subst h0;go_enter Tryz.func21,Tryz.ntmps21;go_wp2;go_ret;exact⟨⟨_,1,1,[7],U,U,EOu w,X,X⟩,ba _⟩
 ·have hpos:0<xs.length:=by cases xs<;>simp_all
  have hz:((xs.length:Int)==0)=B:=Jn;by_cases h64:64<xs.length
  ·have BA:=O ba;have HR:=O<|oG hr 64;have hlen:(xs.take 64).length=64:=mg;have HL:=O hlen;clear ba hr hlen h0;go_enter Tryz.func21,Tryz.ntmps21
   go_wp2_with (at_builtin
                refine us _ U (.tmp 7) (.tmp 12) U w.heap.size _ 0 0 [] U U (F6 w _ (E7 _)) A cap 64 (xs.take 64) HL.out U (Iy HR.out (BA.out _)) X (BA.out _).size ?_
                intro A1 m_ w4 o1 b4)
   go_ret;rw[Z8] at o1;exact⟨⟨A1,64,m_,_,U,HL.out,o1,X,X⟩,(BA.out _).trans b4⟩
  ·have BA:=O ba;have HR:=O hr;clear ba hr h0;go_enter Tryz.func21,Tryz.ntmps21
   go_wp2_with (at_builtin
                refine us _ U (.tmp 7) (.tmp 12) U w.heap.size _ 0 0 [] U U (F6 w _ (E7 _)) A cap xs.length xs U U (Iy HR.out (BA.out _)) X (BA.out _).size ?_
                intro A1 m_ w4 o1 b4)
   go_ret;rw[Z8] at o1;exact⟨⟨A1,xs.length,m_,xs,by first|rfl|simp,rfl,o1,X,X⟩,(BA.out _).trans b4⟩
def XG(w:M)(lo o:Nat)(v:V):Prop:= ∃(A:Option Eu) (n cap:Nat) (ys:List Int) (base:Nat),v=EI A n cap/\ys.length=n/\Own w base A cap ys/\1<=n/\n<=64/\(∀x,A=D x->x.block≠o)/\lo<=base
theorem XG.G{o:Nat}{v:V}(h:XG w lo o v)(hb:El w w'):XG w' lo o v:=by obtain⟨A,n,cap,ys,base,e,l,ho,r⟩:=h;exact⟨A,n,cap,ys,base,e,l,ZW ho hb,r⟩
theorem XG.keep{o:Nat}{v:V}(h:XG w lo o v)(hw: ∀k,k≠o->w'.heap[k]?=w.heap[k]?):XG w' lo o v:=by
 obtain⟨A,n,cap,ys,base,e,l,ho,h1,h2,hx,hlo⟩:=h;refine⟨A,n,cap,ys,base,e,l,⟨?_,ho.2⟩,h1,h2,hx,hlo⟩;obtain⟨k1,k2⟩:=ho.1;refine⟨k1,?_⟩;rcases k2 with k2|⟨g,cap',cur,hv,hg,hh,hl⟩;·exact .inl k2
 ·refine .inr ⟨g,cap',cur,hv,hg,?_,hl⟩;rw[hw];·exact hh
  ·injection hv with e1 e2 e3;exact hx _ e1
theorem XG.set{o:Nat}{v:V}(h:XG w lo o v)(i:Nat)(Y3:V):XG (w.setCell ⟨o,i,Z⟩ Y3) lo o v:=
 h.keep fun k hk=>XM _ _ _ _ hk
theorem XG.other{o p:Nat}{v:V}(h:XG w lo o v)(hp:p<lo):XG w lo p v:=by
 obtain⟨A,n,cap,ys,base,e,l,ho,h1,h2,hx,hlo⟩:=h;refine⟨A,n,cap,ys,base,e,l,ho,h1,h2,?_,hlo⟩;rintro x rfl;rcases ho.1.2 with⟨k2,-⟩|⟨g,cap',cur,hv,hg,hh,hl⟩;·cases k2
 ·injection hv with e1 e2 e3;injection e1 with e1;subst e1;simp only;omega
theorem XG.new{o:Nat}{Y4:Option Eu}{c:Nat}{ys:List Int}(hl:ys.length=n)(ho:Own w base Y4 c ys)(h1:1<=n)(h2:n<=64)(h:o<base\/w.heap.size<=o)(hlo:lo<=base):XG w lo o (EI Y4 n c):=by
 refine⟨Y4,n,c,ys,base,U,hl,ho,h1,h2,?_,hlo⟩;rintro x rfl;rcases ho.1.2 with⟨k2,-⟩|⟨g,cap',cur,hv,hg,hh,hl⟩;·cases k2
 ·injection hv with e1 e2 e3;injection e1 with e1;subst e1;have:=mh hh;simp only;omega
end Go.Proofs.YtclmichaaiohjaaGreatDoor
