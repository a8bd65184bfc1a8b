import Derived.Test.YtclmichaaiohjaaGreatDoorR07
set_option maxRecDepth 100000
set_option linter.unusedVariables false
set_option linter.unusedSimpArgs false
set_option maxHeartbeats 6400000
namespace Go.Proofs.YtclmichaaiohjaaGreatDoor
open RowKit
open _root_.Array renaming getElem?_eq_some_iff->Jt,getElem?_eq_getElem->dY,replicate->Zn
open Bool renaming true->u,false->B,or_eq_true->kI
open Classical renaming byContradiction->jZ
open Go renaming World->M,Calls->Ef,Value->V,bodyPost_ret->ET,results->Xa,Act->E6,Oper->EN,yielded->Jd,execOp->Iw,wpList->IZ,undef->I6,mem_ready->Uo,getD_set_ne->XL,below_setRow->E3,wpQuiet_nil->IM,callFunc->Jj,wp_loop_rounds->O9,rounds_succ->Ic,results_none->U1,Ending->Ut,wpList_store_mid->OH
open Act renaming put->In
open Code renaming region->ZP
open Ending renaming returned->Eg
open Instr renaming index->JY
open IntKind renaming wrap->oD,bits->j7,signed->j8,i64->I
open Lib renaming hid->O
open Obj renaming cells->EJ
open Go.Proofs.Tryz renaming prog->EU
open Region renaming wanted->I_,binds->Oq,ready->d_
open RowKit renaming Hid->Ea
open RowKit.Below renaming refl->IE,alloc->JH,setCell->JK,size->XJ
open Value renaming bool->Ec,int->E,agg->EZ,tuple->Et,pointer->Y,oneCell'->OC
open World renaming alloc->UN
open Int renaming le_refl->ZB
open List renaming getElem?_eq_none->aM,getElem?_eq_getElem->Ok,range->UA,all_eq_true->UY,mem_range->Z6,eq_nil_iff_forall_not_mem->mr,length_filter_le->mA,nodup_cons->mC,getElem?_eq_some_iff->UG,mem_iff_getElem?->aP,take_succ_cons->Ir,getD_eq_getElem?_getD->UK,take_zero->Im,mem_map->da,setIfInBounds_toArray->Ip,length_append->I2,mem_cons->Ui,set_cons_succ->Ig,set_cons_zero->Ih,mem_append->XP,map_append->ku,not_mem_nil->UP,drop_succ_cons->IL,drop_zero->IG,append_nil->fc
open Nat renaming lt_or_ge->JG,le_trans->EA,le_refl->E7,strongRecOn->mx,zero_add->JV,zero_le->bY,add_assoc->js,le_of_lt->ax,le_of_eq->OQ
open Option renaming some->D,none->Z,map_some->j_
open KQ
variable{Ph:Nat->M->Prop}{id gr lo gq hi gc gt gs ns b gm n0:Nat}{l:List EN}{a0:E6}{w0 w w' W W':M}{tags:List Bool}{tv:Array V}{g:Nat->V}{c:EB}{L L':List One}{most s r a m:Int}{rs:List Rec}{t t2:EG}{p:Pt}{T:EP}{v:V}
section
variable{P:Program}{ops:Array Oper}{Q:Exit->Act->World->Prop}
theorem EdE{Rel Ij:M->M->Prop}{cs:List Nat}{ks:List (Nat×Nat)}(hB:fV ops=u)(hK:jf ops cs ks=u)(hlk: ∀(i lo hi:Nat),ks[i]?=D (lo,hi)->lo<=cs.length){F:(Nat->V)->E6}{R:Nat->(Nat->V)->M->Prop} (hPh: ∀b w w',Ph b w->Rel w w'->Ph b w') (hF: ∀i o x v,i<ops.size->ops[i]?=D o->(F x).put o.dst v=F (J4 x i v)) (hR: ∀i x w w',i<ops.size->R i x w->Rel w w'->R i x w') (hR2: ∀i x w w' c,i<ops.size->c∈cs->i≠c->fW ops ops.size i c=B->R i x w->Ij w w'->R i x w') (hD: ∀i x y w,i<ops.size->(∀k,(k=i\/jc ops i k)->x k=y k)->R i x w->R i y w) (hcw: ∀c o x,c∈cs->ops[c]?=D o->I_ o (Jd ops (F x).tmps)=u) (hstep: ∀(i:Nat) (o:EN) (lo hi:Nat),ops[i]?=D o->ks[i]?=D (lo,hi)->zJ Ph Rel Ij P ops Q F R (decide (i∈cs)) lo hi i o) (hend: ∀x w,Ph cs.length w->(∀i,i<ops.size->R i x w)->IZ P ops Q [] (F x) w): ∀(fuel:Nat) (listed:Array Bool) (x:Nat->V) (w:M),(UX ops listed).length<=fuel->listed.size=ops.size->bK ops listed->Ph (cnt cs listed) w-> (∀i,i<ops.size->listed.getD i u=u->R i x w)->wpAny P .any ops Q fuel listed (F x) w:=by
 obtain⟨hcs,hcn,hKs⟩:=zI hK
 have done: ∀(fuel:Nat) (listed:Array Bool) (x:Nat->V) (w:M),(∀j,j<ops.size->listed.getD j u=u)->Ph (cnt cs listed) w->(∀i,i<ops.size->listed.getD i u=u->R i x w)->wpAny P .any ops Q fuel listed (F x) w:=by
  intro fuel listed x w hall hb hr;have hcl:cnt cs listed=cs.length:=by exact EpE
  rw[hcl] at hb;exact Ep3
 intro fuel;induction fuel with
 |zero=>
  intro listed x w hf hs hcl hb hr;refine done 0 listed x w (fun j hj=> ?_) hb hr;cases hlj:listed.getD j u;·exact En3
  ·rfl
 |succ fuel ih=>
  intro listed x w hf hs hcl hb hr;by_cases hall: ∀j,j<ops.size->listed.getD j u=u;·exact EoQ
  ·refine⟨fun h0=> ?_,fun i hi=> ?_⟩
   ·exfalso
    have hex: ∃j,j<ops.size/\listed.getD j u=B:=by
     apply jZ;intro hno
     exact hall fun j hj=>by
      cases hlj:listed.getD j u;·exact absurd ⟨j,hj,hlj⟩ hno
      ·rfl
    have hmin: ∃j,(j<ops.size/\listed.getD j u=B)/\ ∀k,k<j-> ¬(k<ops.size/\listed.getD k u=B):=by
     obtain⟨j,hj⟩:=hex;induction j using mx with
     |ind j fE=>
      by_cases h: ∃k,k<j/\(k<ops.size/\listed.getD k u=B);·exact EmN
      ·exact Emz
    obtain⟨j,⟨hjn,hj⟩,hlt⟩:=hmin;have ho:ops[j]?=D ops[j]:=dY hjn
    have:j∈d_ .any ops listed:=by
     refine Uo.2 ⟨hj,_,ho,fun e he hbe=> ?_⟩;have h1:=rQ hB ho e he hbe;have h2:=hlt e.on h1;have h3:e.on<listed.size:=X;cases hlj:listed.getD e.on u;·exact absurd ⟨X,hlj⟩ h2
     ·simpa[h3] using hlj
    rw[h0] at this;cases this
   ·obtain⟨h1,o,ho,dX⟩:=Uo.1 hi;have hin:=(Jt.1 ho).1;have hdr:mG R o x w:=by intro e he hb';have h3:=dX e he hb';have h4:=rQ hB ho e he hb';have h5:e.on<listed.size:=X;exact hr e.on X oK
    obtain⟨lo,hi',hk,hkc⟩:=hKs i hin;have st:=hstep i o lo hi' ho hk;have un:=hcl.set hs hi;have hset:(listed.setIfInBounds i u).getD i u=u:=by exact Enc
    have next: ∀v w',Ph (cnt cs (listed.setIfInBounds i u)) w'->(∀j,j<ops.size->j≠i->listed.getD j u=u->R j x w')->R i (J4 x i v) w'->wpAny P .any ops Q fuel (listed.setIfInBounds i u) ((F x).put o.dst v) w':=by
     intro v w' hb' hrs hv;rw[hF i o x v hin ho];have hlt:=mw hs hin h1;refine ih _ _ w' X hI un hb' (fun j hj hl=> ?_);by_cases hji:j=i;·subst hji;exact hv
     ·rw[XL u (fun e=>hji e.symm)] at hl;refine hD j x _ w' hj (fun q hq=> ?_) (hrs j hj hji hl);rw[jX];intro hqi;rw[hqi] at hq;rcases hq with hq|⟨oj,e,hoj,he,hbe,uj⟩;·exact hji hq.symm
      ·exact EnK
    have early: ∀j c,cs[j]?=D c->c≠i->j<lo->listed.getD c u=u:=by
     intro j c hj hne hlt;rcases((hkc j c hj).2 hne).1 with h|h;·omega
     ·exact Eo4
    have late: ∀j c,cs[j]?=D c->c≠i->hi'<=j->listed.getD c u=B:=by
     intro j c hj hne hle;rcases((hkc j c hj).2 hne).2 with h|h;·omega
     ·cases hlc:listed.getD c u;·rfl
      ·exact EoN
    by_cases hic:i∈cs
    ·obtain⟨j0,hj0⟩:=aP.1 hic;obtain⟨e1,e2⟩:=(hkc j0 i hj0).1 rfl;have hjl:=(UG.1 hj0).1;have uniq: ∀j,cs[j]?=D i->j=j0:=by intro j hj;have EJu:=(UG.1 hj).1;have h5:=(UG.1 hj).2;have h6:=(UG.1 hj0).2;exact(List.getElem_inj hcn).1 (h5.trans h6.symm)
     have hcnt:cnt cs listed=lo:=by
      refine Nat.le_antisymm (mN cs lo fun j c hj hc=> ?_) (ul cs lo X fun j c hj hc=> ?_)
      ·by_cases e:c=i;·subst e;exact h1
       ·exact late j c hc e X
      ·by_cases e:c=i;·subst e;have:=uniq j hc;omega
       ·exact early j c hc e hj
     rw[Ib hic] at st;rw[hcnt] at hb;have st:=st x w hb hdr;unfold wpOp;simp only[ho];unfold Xb at st;rw[if_pos (hcw i o x hic ho)] at st⊢;refine .inl (Oper.wp_mono (fun a' w' h'=> ?_) st);obtain⟨v,rfl,⟨hb',zO⟩,hv⟩:=h';exact next v w' (by rw[zE X h1 cs hcn hic,hcnt];exact zO) (fun j hj hji hl=>hR2 j _ w w' i hj hic hji (by cases hrb:fW ops ops.size j i with|false=>rfl|true=>exact absurd (rR hcl _ j i hrb hj hl) (by rw[h1];decide)) (hr j hj hl) hb') hv
    ·rw[IJ hic] at st;have hne: ∀j c,cs[j]?=D c->c≠i:=fun j c hj e=>hic PB;have hlo2:lo<=cnt cs listed:=ul cs lo (hlk i lo hi' hk) fun j c hj hc=>early j c hc (hne j c hc) hj;have FT:cnt cs listed<=hi':=mN cs hi' fun j c hj hc=>late j c hc (hne j c hc) hj;have st:=st x w _ hlo2 FT hb hdr;unfold wpOp;simp only[ho];unfold Xb at st;split;·rename_i hw;rw[if_pos hw] at st;refine .inl (Oper.wp_mono (fun a' w' h'=> ?_) st);obtain⟨v,rfl,hb',hv⟩:=h';exact next v w' PD (fun j hj _ hl=>hR j _ w w' hj (hr j hj hl) hb') hv
     ·exact En7
end
section
variable{P:Program}{Q:Exit->Act->World->Prop}
theorem Vn{Rel Ij:M->M->Prop}(cs:List Nat)(ks:List (Nat×Nat))(hm:P.follows .mixedOrders=u)(hB:fV l.toArray=u)(hK:jf l.toArray cs ks=u)(hlk:(ks.all fun p=>decide (p.1<=cs.length))=u)(hnd:(O4 l).Nodup)(R:Nat->(Nat->V)->M->Prop) (hcg:(cs.all fun c=>match l[c]? with|some o=>o.guard.isNone|none=>false)=u) (hPh: ∀b w w',Ph b w->Rel w w'->Ph b w') (hR: ∀i x w w',i<l.length->R i x w->Rel w w'->R i x w') (hR2: ∀i x w w' c,i<l.length->c∈cs->i≠c->fW l.toArray l.toArray.size i c=B->R i x w->Ij w w'->R i x w') (hD: ∀i x y w,i<l.length->(∀k,(k=i\/jc l.toArray i k)->x k=y k)->R i x w->R i y w) (h0:Ph 0 w0.drew) (hstep:fY Ph Rel Ij P l.toArray Q (fun x=>EL l 0 x a0) R cs 0 l ks) (hend: ∀x w,Ph cs.length w->(∀i,i<l.length->R i x w)->IZ P l.toArray Q [] (EL l 0 x a0) w):(ZP id l.toArray u).wp P Q a0 w0:=by
 have oP:EL l 0 (held l a0) a0=a0:=ja a0 _ 0 _ (fun k o ho d hd=>by unfold held;rw[JV,ho];simp only[hd]);refine wp_region_any hm ?_
 have key:=EdE (P:=P) (Q:=Q) (ops:=l.toArray) (Ph:=Ph) (Rel:=Rel) (Ij:=Ij) (cs:=cs) (ks:=ks) (F:=fun x=>EL l 0 x a0) (R:=R) hB hK (by
  intro i lo hi h;have:=UY.1 hlk (lo,hi) (aP.2 ⟨i,h⟩);simpa using this) hPh
  (fun i o x v hi ho=>by have:=kO l 0 i x a0 o v hnd oM;rw[JV] at this;exact this) (fun i x w w' hi=>hR i x w w' Ug) (fun i x w w' c hi hc hne hrb=>hR2 i x w w' c Ug hc hne hrb) (fun i x y w hi=>hD i x y w Ug)
  (fun c o x hc ho=>by
   have h1:=UY.1 hcg c hc;have:l[c]?=D o:=oM;rw[this] at h1;simp only at h1;unfold I_;cases hg:o.guard with
   |none=>rfl
   |some g=>rw[hg] at h1;cases h1)
  (fun i o lo hi ho hk=>by have:=fY.at l ks 0 hstep i o lo hi oM hk;rwa [JV] at this)
  (fun x w hp hr=>hend x w hp fun i hi=>hr i Ug)
  l.toArray.size (Zn l.toArray.size B) (held l a0) w0.drew ?_ Eh ?_ ?_ ?_
 ·exact Epz
 ·exact Em4
 ·intro j o ho h;by_cases hj:j<l.toArray.size;·have:j<l.length:=yR;simp[this] at h
  ·exact absurd (Jt.1 ho).1 hj
 ·have hz:cnt cs (Zn l.toArray.size B)=0:=by
   refine Nat.le_zero.1 (mN cs 0 fun j c _ hj=> ?_);have:=(zI hK).1 c (aP.2 ⟨j,hj⟩);have h2:c<l.length:=by exact En4
   simp[h2]
  rw[hz];exact h0
 ·exact EpH
inductive iz(Rel Ij:M->M->Prop) where
 |val (p:V->Prop)
 |dep (s:V->M->Prop) (h1: ∀v w w',s v w->Rel w w'->s v w') (h2: ∀v w w',s v w->Ij w w'->s v w')
 |late (s:V->M->Prop) (h1: ∀v w w',s v w->Rel w w'->s v w')
instance{Rel Ij}(x):CoeDep KQ (KQ.kq x) (iz Rel Ij):=⟨.val fun v=>v=x⟩
instance{Rel Ij}(g i):CoeDep KQ (KQ.kp g i) (iz Rel Ij):=⟨.val fun v=>v=Y (D ⟨g,i,Z⟩)⟩
def iz.nH{Rel Ij:M->M->Prop}:iz Rel Ij->Bool
 | .late _ _=>u
 |_=>B
def RQ{Rel Ij:M->M->Prop}(K:Nat->iz Rel Ij)(i:Nat)(x:Nat->V)(w:M):Prop:=match K i with
 | .val p=>p (x i)
 | .dep s _ _=>s (x i) w
 | .late s _=>s (x i) w
def kQ{Rel Ij:M->M->Prop}(Ks:List (iz Rel Ij))(i:Nat):iz Rel Ij:=Ks.getD i (.val fun _=>True)
def Vo(ops:Array EN)(cs:List Nat)(tags:List Bool):Bool:=(UA tags.length).all fun i=> !(tags.getD i B)||cs.all fun c=>decide (i=c)||fW ops ops.size i c
theorem EdI{Rel Ij:M->M->Prop}{Ks:List (iz Rel Ij)}(h:Ks.map iz.nH=tags)(i:Nat)(hl:(kQ Ks i).nH=u):i<tags.length/\tags.getD i B=u:=by
 subst h;unfold kQ at hl;by_cases hi:i<Ks.length;·exact Eoj
 ·rw[UK,aM X] at hl;cases hl
theorem iA{Rel Ij:M->M->Prop}(Ks:List (iz Rel Ij))(tags:List Bool)(htag:Ks.map iz.nH=tags)(cs:List Nat)(ks:List (Nat×Nat))(hm:P.follows .mixedOrders=u)(hB:fV l.toArray=u)(hK:jf l.toArray cs ks=u)(hlt:Vo l.toArray cs tags=u)(hlk:(ks.all fun p=>decide (p.1<=cs.length))=u)(hnd:(O4 l).Nodup) (hcg:(cs.all fun c=>match l[c]? with|some o=>o.guard.isNone|none=>false)=u) (hPh: ∀b w w',Ph b w->Rel w w'->Ph b w') (h0:Ph 0 w0.drew) (hstep:fY Ph Rel Ij P l.toArray Q (fun x=>EL l 0 x a0) (RQ (kQ Ks)) cs 0 l ks) (hend: ∀x w,Ph cs.length w->(∀i,i<l.length->RQ (kQ Ks) i x w)->IZ P l.toArray Q [] (EL l 0 x a0) w):(ZP id l.toArray u).wp P Q a0 w0:=by
 refine Vn cs ks hm hB hK hlk hnd (RQ (kQ Ks)) hcg hPh ?_ ?_ ?_ h0 hstep hend
 ·intro i x w w' _ h hr;unfold RQ at*;split at h;·exact h
  ·rename_i s h1 h2 _;exact EoV
  ·rename_i s h1 _;exact EoV
 ·intro i x w w' c hi hc hne hrb h hr;unfold RQ at*;split at h;·exact h
  ·exact Eo2
  ·rename_i s h1 he;exfalso;obtain⟨h3,h4⟩:=EdI htag i mP;have h5:=UY.1 hlt i (Z6.2 h3);rw[h4] at h5;simp only[Bool.not_true,Bool.false_or] at h5;have h6:=UY.1 h5 c hc;rw[hrb] at h6;simp at h6;exact hne h6
 ·intro i x y w _ hq h;unfold RQ at*;exact EoF
end
def wJ(gr:Nat)(tv:Array V)(w w':M):Prop:=EH gr w w'/\(H w gr tv 109->H w' gr tv 109)/\((∃c:Array V,c.size=8/\H w gr c 109)-> ∃c:Array V,c.size=8/\H w' gr c 109)
theorem tJ(h:El w w'):wJ gr tv w w':=⟨EH.Ew h,fun k=>H.G k h,fun⟨c,h1,h2⟩=>⟨c,h1,H.G h2 h⟩⟩
theorem fl:Kept (wJ gr tv):=
 ⟨fun w=>tJ (IE _ _),fun a b c h k=>⟨h.1.trans k.1,fun x=>k.2.1 (h.2.1 x),fun x=>k.2.2 (h.2.2 x)⟩,fun w=>tJ (Jk _)⟩
theorem On{g:Nat}(cs:Array V):EH g W (W.setRow g cs):=
 ⟨Eh,fun k hk _=>setRow_other W g k cs hk,fun lo h1 _=>E3 (g:=g) (IE lo W) h1 cs⟩
theorem EdJ{c:Array V}(K:H w gr c 109)(hs:tv.size=8):wJ gr tv w (w.setRow gr tv):=⟨On tv,fun _=>K.setRow tv,fun _=>⟨tv,hs,K.setRow tv⟩⟩
theorem sV.only{e:Ut}(h:sV lo gq L most s r a m e W)(ho:EH gr W W'){c0:Array V}(K:H W gr c0 109):sV lo gq L most s r a m e W':=by
 rcases h with⟨cd,h1,h2,h3⟩|⟨h1,h2,L',came,h3,h4,h5⟩;·exact .inl ⟨cd,h1,h2,h3.only ho K Eb Eb⟩
 ·exact .inr ⟨h1,h2,L',came,h3,h4,h5.only ho K Eb Eb⟩
theorem XY:IW EU 28 56:=⟨⟨_,Tryz.underlying28,U⟩,Ed⟩
def fm(lo gq gr:Nat)(L:List One)(most s r a m:Int)(cd:Int)(w:M):Prop:=sV lo gq L most s r a m (Eg (E I cd)) w/\ ∃c:Array V,c.size=8/\H w gr c 109
theorem fm.rel{cd:Int}(h:fm lo gq gr L most s r a m cd W)(hr:wJ gr tv W W'):fm lo gq gr L most s r a m cd W':=by obtain⟨h1,c,h2,h3⟩:=h;exact⟨h1.only hr.1 h3,hr.2.2 ⟨c,h2,h3⟩⟩
theorem EdO{e:Ut}(h:sV lo gq L most s r a m e W): ∃cd:Int,e=Eg (E I cd):=by
 rcases h with⟨cd,h1,h2,h3⟩|⟨h1,-⟩;·exact⟨cd,h2⟩
 ·exact⟨0,h1⟩
def Vp(lo gq:Nat)(L:List One)(most:Int)(t:EG)(s rk mp:Int)(t':EG)(how cd:Int)(w:M):Prop:=
 (cd≠0/\t'=t/\how=0/\Jr w lo gq L most)\/
 (cd=0/\how=3/\t.Uq s=(t',0)/\ ∃L',UQ L' L/\Jr w lo gq L' most)\/
 (cd=0/\how=0/\t'=t/\(∀x∈L,x.s≠s)/\ ∃(L':List One) (came:Nat),came<18446744073709551616/\L'.Perm (L++[⟨s,rk,0,mp,came⟩])/\Jr w lo gq L' most)
theorem ql(gk:Nat)(tv:Array V)(TS:tv.size=8)(TO:tv.all (·.oneCell')=u)(cd:Int)(w:M)(KT:H w gk tv 109): Ef EU 216 #[E I cd,Y (D ⟨gk,0,Z⟩)] w fun e w'=>e=Eg (Et #[EZ tv,E I 0,E I cd])/\El w w':=by have TS:=O TS;have TO:=O TO;have KT:=O KT;go_enter Tryz.func216,Tryz.ntmps216;go_wp2_with (with_reducible refine I7 6 ?_);apply Eo;generalize hW:UN _ _=w1 at*;have KR:Ea (H w1 (w.heap.size) #[E I 0,E I 0,E I 0,E I 0,E I 0,E I 0,E I 0,Ec B] 109):=O (by subst hW;repeat (first|exact H.new _ _ _|exact H.new' _ _ _ Eh|refine H.alloc ?_ _));have b1:Ea (El w w1):=O (by subst hW;(repeat (first|exact IE _ _|(refine JH ?_ Iu _)|(refine JK ?_ Iu _))));clear hW;replace KT:=EQ KT b1.out;obtain⟨gr,hgr⟩:=En w.heap.size;rw[<-hgr] at KR⊢;have LR:=O (show w.heap.size<=gr from X);rw[hgr];rw[hgr] at KR LR;go_wp2_with (with_reducible first|refine wL EV KT ?_ (hn:=TS.out)|refine wS (cs:=tv) EV KR ?_ (hn:=TS.out) (h1:=TO.out));refine ET (jb EV U _ _ w.heap.size tv (E I 0) (E I cd) U U U (KR.out.setRow _) TS.out) U ?_;exact⟨U,E3 (g:=w.heap.size) b1.out (E7 _) _⟩
theorem EdU(lo gq:Nat)(L:List One)(most:Int)(g:Nat->V)(pa:Int)(hpa:g 45=E I pa)(hg: ∀i,i<5->Z0 (g i))(t:EG)(tok:t.ok)(s:Int)(now:Bool)(w:M)(lq:lo<=gq)(Q:Jr w lo gq L most)(hl:L.length<=3)(hsub:(∀x∈L,x.s≠s)->L.length<=2): Ef EU 177 #[EZ (EK 56 g),t.a,Y (D ⟨gq,0,Z⟩),E I s,Ec now] w fun e w'=>(∃t' how cd,e=Eg (Et #[t'.a,E I how,E I cd])/\Vp lo gq L most t s (bf g s) (max pa 0) t' how cd w')/\Iz lo w w':=by
 have HQ:=O Q;have HL:=O hl;have LQ:=O lq;have lw:=O (show lo<=w.heap.size from qJ);have he: -9223372036854775808<=t.e:=by have:=tok.e;omega
 obtain⟨tv,Ia,TS,TO,CG,CZ⟩: ∃tv,t.a=EZ tv/\tv.size=8/\tv.all (·.oneCell')=u/\(∀s W,Ef EU 140 #[EZ tv,E I s] W fun x w'=>x=Eg (Et #[(t.Uq s).1.a,E I (t.Uq s).2])/\El W w')/\(∀W,Ef EU 96 #[EZ tv] W fun x w'=>x=Eg t.bT.a/\El W w'):=⟨_,U,U,f9 _ _ _ _ _ _ _ _,fun s W=>rV t s W he,fun W=>ur t W he⟩;rw[Ia];have TS:=O TS;have TO:=O TO;have CG:=O CG;have OZ:=O Ia;have gF:=O (show∀W g,H W g tv 109->W.cell? ⟨g,0,Z⟩=D (E I t.h)/\W.cell? ⟨g,1,Z⟩=D (E I t.e)/\W.cell? ⟨g,7,Z⟩=D (Ec t.bad) from fun W g K=>by have e:tv=Uj t.h t.e t.o t.oa t.om t.la t.lm t.bad:=Vg;subst e;exact⟨(H.cell K 0).trans U,(H.cell K 1).trans U,(H.cell K 7).trans U⟩);have CH:=O<|fun W=>Ebw g s t.h W hg;have CR:=O<|fun W=>Ebv g s W hg;have CT:=O<|fun W=>yV pa W;have CQ:=O<|fun W q=>EcP lo gq L most s (bf g s) 0 (max pa 0) W lq q hl hsub;generalize bf g s=rk at*;generalize max pa 0=mp at*;generalize Hy g s t.h=hb at*;obtain⟨pv,hpv⟩:=En (EK 56 g);rw[<-hpv] at CH CR⊢;have PC:Ea (pv[45]?=D (E I pa)):=O (by rw[hpv,<-hpa];simp[EK]);have PS:Ea (pv.size=56):=O (by rw[hpv];simp[EK]);have eC: ∀(args:Array V) (W:M),(Jj 216 args).run EU W= .ok (.enter 216 args) W:=fun _ _=>Ed;have TKO:=O tok;clear hpv hpa hg Q hl lq hsub tok CZ Ia he;go_enter Tryz.func177,Tryz.ntmps177;go_wp2_with (with_reducible refine I7 19 ?_);apply Eo;generalize hW:UN _ _=w1 at*;have KP:Ea (H w1 (w.heap.size) pv 28):=O (by subst hW;repeat (first|exact H.new _ _ _|exact H.new' _ _ _ Eh|refine H.alloc ?_ _));have KT:Ea (H w1 (w.heap.size+1) tv 109):=O (by subst hW;repeat (first|exact H.new _ _ _|exact H.new' _ _ _ Eh|refine H.alloc ?_ _));have KR:Ea (H w1 (w.heap.size+1+1) #[E I 0,E I 0,E I 0,E I 0,E I 0,E I 0,E I 0,Ec B] 109):=O (by subst hW;repeat (first|exact H.new _ _ _|exact H.new' _ _ _ Eh|refine H.alloc ?_ _));have b1:Ea (El w w1):=O (by subst hW;(repeat (first|exact IE _ _|(refine JH ?_ Iu _)|(refine JK ?_ Iu _))));clear hW;obtain⟨gr,hgr⟩:=En (w.heap.size+1+1);rw[<-hgr] at KR⊢;obtain⟨gk,ZK⟩:=En (w.heap.size+1);rw[<-ZK] at KT⊢;obtain⟨gp,Xj⟩:=En w.heap.size;rw[<-Xj] at KP;rw[show w.heap.size=gp from Xj.symm];have LR:=O (show w.heap.size<=gr from X);have tI:=O (show gk≠gr from X);clear hgr ZK Xj;have Q1:=O<|HQ.out.G b1.out;have MM:=O<|Iz.Ew b1.out lw.out;have c7:=(gF.out _ _ KT.out).2.2;have c0:=(gF.out _ _ KT.out).1;have c1:=(gF.out _ _ KT.out).2.1;clear b1;cases hbad:t.bad with
 |true=> rw[hbad] at c7;go_wp2_with fail;refine(ql gk tv TS.out TO.out 29 _ KT.out).mono ?_;rintro e7 w7 ⟨rfl,b7⟩;replace KT:=EQ KT b7;replace KR:=EQ KR b7;replace KP:=EQ KP b7;replace Q1:=O<|Q1.out.G b7;replace MM:=O<|MM.out.trans (Iz.Ew b7 (EA lw.out MM.out.bel.size));clear b7;go_wp2_with (with_reducible refine wS (cs:=tv) EV KR ?_ (hn:=TS.out) (h1:=TO.out));refine ET (jb EV U _ _ gr tv (E I 0) (E I 29) U U U (KR.out.setRow _) TS.out) U ?_;refine⟨⟨t,0,29,bu,.inl ⟨Eb,U,U,Q1.out.Xh _ KR.out Eb Eb⟩⟩,MM.out.Xi _ LR.out lw.out KR.out Eb Eb⟩
 |false=>
  rw[hbad] at c7;by_cases h1:s=t.h;·have t1:(s==t.h)=u:=tE;have H1:=O h1;clear h1;go_wp2_with fail;refine(ql gk tv TS.out TO.out 25 _ KT.out).mono ?_;rintro e7 w7 ⟨rfl,b7⟩;replace KT:=EQ KT b7;replace KR:=EQ KR b7;replace KP:=EQ KP b7;replace Q1:=O<|Q1.out.G b7;replace MM:=O<|MM.out.trans (Iz.Ew b7 (EA lw.out MM.out.bel.size));clear b7;go_wp2_with (with_reducible refine wS (cs:=tv) EV KR ?_ (hn:=TS.out) (h1:=TO.out));refine ET (jb EV U _ _ gr tv (E I 0) (E I 25) U U U (KR.out.setRow _) TS.out) U ?_;refine⟨⟨t,0,25,bu,.inl ⟨Eb,U,U,Q1.out.Xh _ KR.out Eb Eb⟩⟩,MM.out.Xi _ LR.out lw.out KR.out Eb Eb⟩
  ·have t1:(s==t.h)=B:=tE;by_cases h2:65535<=t.e;·have t2:decide (65535<=t.e)=u:=Ib h2;go_wp2_with fail;refine(ql gk tv TS.out TO.out 24 _ KT.out).mono ?_;rintro e7 w7 ⟨rfl,b7⟩;replace KT:=EQ KT b7;replace KR:=EQ KR b7;replace KP:=EQ KP b7;replace Q1:=O<|Q1.out.G b7;replace MM:=O<|MM.out.trans (Iz.Ew b7 (EA lw.out MM.out.bel.size));clear b7;go_wp2_with (with_reducible refine wS (cs:=tv) EV KR ?_ (hn:=TS.out) (h1:=TO.out));refine ET (jb EV U _ _ gr tv (E I 0) (E I 24) U U U (KR.out.setRow _) TS.out) U ?_;refine⟨⟨t,0,24,bu,.inl ⟨Eb,U,U,Q1.out.Xh _ KR.out Eb Eb⟩⟩,MM.out.Xi _ LR.out lw.out KR.out Eb Eb⟩
   ·have t2:decide (65535<=t.e)=B:=IJ h2;by_cases h4:t.h=4
    ·have t4:(t.h==4)=u:=iI;have H4:=O h4;clear h4;go_wp2_with (with_reducible refine wL EV KT ?_ (hn:=TS.out));refine(CG.out s _).mono ?_;rintro e4 w4 ⟨rfl,b4⟩;replace KT:=EQ KT b4;replace KR:=EQ KR b4;replace KP:=EQ KP b4;replace Q1:=O<|Q1.out.G b4;replace MM:=O<|MM.out.trans (Iz.Ew b4 (EA lw.out MM.out.bel.size));clear b4;cases hgt:t.Uq s with|mk t2 cd=>
     rcases ZH t2 with⟨rv,IH,RS,RO⟩;rw[show(t2,cd).fst.a=EZ rv from IH];have RS:=O RS;have RO:=O RO;have Uv:=O IH;have HG:=O hgt;clear IH hgt;go_wp2_with (with_reducible refine fU 109 ?_);apply Eo;generalize hW:UN _ _=wm at*;have KB:Ea (H wm (w4.heap.size) #[E I 0,E I 0,E I 0,E I 0,E I 0,E I 0,E I 0,Ec B] 109):=O (by subst hW;repeat (first|exact H.new _ _ _|exact H.new' _ _ _ Eh|refine H.alloc ?_ _));have bq:Ea (El w4 wm):=O LU;clear hW;obtain⟨OV,dD⟩:=En w4.heap.size;rw[<-dD] at KB⊢;have bz:=O (show w4.heap.size<=OV from X);clear dD;go_wp2_with (with_reducible refine wS (cs:=rv) EV KB (Ev.mk ?_) (hn:=RS.out) (h1:=RO.out));apply Eo;replace KB:=O<|KB.out.setRow rv;replace bq:=O<|E3 (g:=OV) bq.out bz.out rv;generalize wm.setRow OV rv=w5 at*;replace KT:=EQ KT bq.out;replace KR:=EQ KR bq.out;replace KP:=EQ KP bq.out;replace Q1:=O<|Q1.out.G bq.out;replace MM:=O<|MM.out.trans (Iz.Ew bq.out (EA lw.out MM.out.bel.size));clear bq bz;by_cases hcd:cd=0;·exact ElB
     ·exact ElG
    ·have t4:(t.h==4)=B:=iI;cases now with
     |true=>
      go_wp2_with (((with_reducible refine kX 28 ?_);(with_reducible refine Zo (g:=gp) XY ?_ ?_ KP ?_ ?_);(·first|exact Ei rfl|(simp[I_,Jd];done));(·exact⟨U,U⟩);(·exact PS.out)));refine(CH.out _).mono ?_;rintro e2 w2 ⟨rfl,b2⟩;replace KT:=EQ KT b2;replace KR:=EQ KR b2;replace KP:=EQ KP b2;replace Q1:=O<|Q1.out.G b2;replace MM:=O<|MM.out.trans (Iz.Ew b2 (EA lw.out MM.out.bel.size));clear b2;cases hb with
      |true=>
       go_wp2_with (with_reducible refine wL EV KT ?_ (hn:=TS.out));refine(CG.out s _).mono ?_;rintro e4 w4 ⟨rfl,b4⟩;replace KT:=EQ KT b4;replace KR:=EQ KR b4;replace KP:=EQ KP b4;replace Q1:=O<|Q1.out.G b4;replace MM:=O<|MM.out.trans (Iz.Ew b4 (EA lw.out MM.out.bel.size));clear b4;cases hgt:t.Uq s with|mk t2 cd=>
       rcases ZH t2 with⟨rv,IH,RS,RO⟩;rw[show(t2,cd).fst.a=EZ rv from IH];have RS:=O RS;have RO:=O RO;have Uv:=O IH;have HG:=O hgt;clear IH hgt;go_wp2_with (with_reducible refine fU 109 ?_);apply Eo;generalize hW:UN _ _=wm at*;have KB:Ea (H wm (w4.heap.size) #[E I 0,E I 0,E I 0,E I 0,E I 0,E I 0,E I 0,Ec B] 109):=O (by subst hW;repeat (first|exact H.new _ _ _|exact H.new' _ _ _ Eh|refine H.alloc ?_ _));have bq:Ea (El w4 wm):=O LU;clear hW;obtain⟨OV,dD⟩:=En w4.heap.size;rw[<-dD] at KB⊢;have bz:=O (show w4.heap.size<=OV from X);clear dD;go_wp2_with (with_reducible refine wS (cs:=rv) EV KB (Ev.mk ?_) (hn:=RS.out) (h1:=RO.out));apply Eo;replace KB:=O<|KB.out.setRow rv;replace bq:=O<|E3 (g:=OV) bq.out bz.out rv;generalize wm.setRow OV rv=w5 at*;replace KT:=EQ KT bq.out;replace KR:=EQ KR bq.out;replace KP:=EQ KP bq.out;replace Q1:=O<|Q1.out.G bq.out;replace MM:=O<|MM.out.trans (Iz.Ew bq.out (EA lw.out MM.out.bel.size));clear bq bz;by_cases hcd:cd=0;·exact ElB
       ·exact ElG
      |false=> go_wp2_with fail;refine(ql gk tv TS.out TO.out 26 _ KT.out).mono ?_;rintro e7 w7 ⟨rfl,b7⟩;replace KT:=EQ KT b7;replace KR:=EQ KR b7;replace KP:=EQ KP b7;replace Q1:=O<|Q1.out.G b7;replace MM:=O<|MM.out.trans (Iz.Ew b7 (EA lw.out MM.out.bel.size));clear b7;go_wp2_with (with_reducible refine wS (cs:=tv) EV KR ?_ (hn:=TS.out) (h1:=TO.out));refine ET (jb EV U _ _ gr tv (E I 0) (E I 26) U U U (KR.out.setRow _) TS.out) U ?_;refine⟨⟨t,0,26,bu,.inl ⟨Eb,U,U,Q1.out.Xh _ KR.out Eb Eb⟩⟩,MM.out.Xi _ LR.out lw.out KR.out Eb Eb⟩
     |false=>
      go_wp2_with fail;refine iA (Ph:=fun p wq=>match p with|0=>(H wq gp pv 28/\H wq gk tv 109/\(∃c:Array V,c.size=8/\H wq gr c 109)/\Jr wq lo gq L most/\Iz lo w wq)|_=>(H wq gk tv 109/\(∃c:Array V,c.size=8/\H wq gr c 109)/\Iz lo w wq)) (Rel:=(wJ gr tv)) (Ij:=fun _ _=>True) [kq (.func (.func 216) #[] #[Y (D ⟨gk,0,Z⟩)]),kp gq 0,kq (E I s),kq (EZ pv),kq (E I s),kq (E I rk),kp gp 45,kq (E I pa),kq (EZ #[E I 0,E I mp]),kq (EZ #[E I s,E I rk,E I 0,E I mp]),.late (fun v w=> ∃cd:Int,v=E I cd/\fm lo gq gr L most s rk 0 mp cd w) (fun v w w' h hr=>By),.late (fun v w=> ∃cd:Int,v=Et #[EZ tv,E I 0,E I cd]/\fm lo gq gr L most s rk 0 mp cd w) (fun v w w' h hr=>By),kq (EZ tv),kq (E I 0),.late (fun v w=> ∃cd:Int,v=E I cd/\fm lo gq gr L most s rk 0 mp cd w) (fun v w w' h hr=>By),.late (fun _ w=>H w gr tv 109) (fun v w w' h hr=>hr.2.1 h),kq (E I 0),.late (fun v w=> ∃cd:Int,v=E I cd/\fm lo gq gr L most s rk 0 mp cd w) (fun v w w' h hr=>By)] [B,B,B,B,B,B,B,B,B,B,u,u,B,B,u,u,B,u] U [10] [(0,1),(0,0),(0,0),(0,0),(0,0),(0,0),(0,0),(0,0),(0,0),(0,0),(0,0),(1,1),(1,1),(1,1),(1,1),(1,1),(1,1),(1,1)] Ed Ed Ed Ed Ed U_ Ed ?hPh ?h0 ?hstep ?hend
      case hPh=>
       intro p w2 w3 h hr;match p,h with
       |0,h=> obtain⟨k1,k2,⟨c,hc,k3⟩,q,m⟩:=h;exact⟨hr.1.Ek k1 (E5 k1 k3 Eb),hr.1.Ek k2 tI.out,hr.2.2 ⟨c,hc,k3⟩,q.only hr.1 k3 Eb Eb,m.qi hr.1 LR.out lw.out⟩
       |_+1,h=> obtain⟨k2,⟨c,hc,k3⟩,m⟩:=h;exact⟨hr.1.Ek k2 tI.out,hr.2.2 ⟨c,hc,k3⟩,m.qi hr.1 LR.out lw.out⟩
      case h0=> exact⟨KP.out.drew,KT.out.drew,⟨_,U,KR.out.drew⟩,Q1.out.G (Jk _),MM.out.trans (Iz.Ew (Jk _) (EA lw.out MM.out.bel.size))⟩
      case hstep=>
       refine⟨?_,?_,?_,?_,?_,?_,?_,?_,?_,?_,?_,?_,?_,?_,?_,?_,?_,?_,trivial⟩;all_goals first|intro xv wq p hlo hhi hp hd|intro xv wq hp hd
       all_goals simp only[EL,In,Ip,Ig,Ih]
       ·exact IQ fl (Ei U) Ez U
       ·exact En8
       ·exact En8
       ·obtain rfl:p=0:=X;exact mH fl XY (Ei U) ⟨U,U⟩ (hp.1) PS.out U
       ·exact En8
       ·obtain rfl:p=0:=X;have d3:xv 3=EZ pv:=hd.at 3 rfl;have d4:xv 4=E I s:=hd.at 4 rfl;refine JR (f:=219) (args:= #[xv 3,xv 4]) (Ei U) Ez ?_;rw[d3,d4];exact(CR.out wq).mono fun e w2 h=>⟨_,h.1,tJ h.2,U⟩
       ·exact En8
       ·obtain rfl:p=0:=X;have d6:xv 6=Y (D ⟨gp,45,Z⟩):=hd.at 6 rfl;have cc:wq.cell? ⟨gp,45,Z⟩=D (E I pa):=(H.cell hp.1 45).trans PC.out;exact IQ fl (Ei U) Bz U
       ·obtain rfl:p=0:=X;have d7:xv 7=E I pa:=hd.at 7 rfl;refine JR (f:=174) (args:= #[xv 7]) (Ei U) Ez ?_;rw[d7];exact(CT.out wq).mono fun e w2 h=>⟨_,h.1,tJ h.2,U⟩
       ·obtain rfl:p=0:=X;have d2:xv 2=E I s:=hd.at 2 rfl;have d5:xv 5=E I rk:=hd.at 5 rfl;have d8:xv 8=EZ #[E I 0,E I mp]:=hd.at 8 rfl;exact IQ fl (Ei U) (by simp[go_sem,d2,d5,d8]) U
       ·have d1:xv 1=Y (D ⟨gq,0,Z⟩):=hd.at 1 rfl;have d9:xv 9=EZ #[E I s,E I rk,E I 0,E I mp]:=hd.at 9 rfl;refine JR (f:=218) (args:= #[xv 1,xv 9]) (Ei U) Ez ?_;rw[d1,d9];refine(CQ.out wq hp.2.2.2.1).mono fun e w2 h=> ?_;obtain⟨cd,he⟩:=EdO h.1;obtain⟨c,hc,kc⟩:=hp.2.2.1;have Vq:=h.2.Ek kc Eb Eb;exact⟨_,he,⟨trivial,⟨h.2.Ek hp.2.1 Eb Eb,⟨c,hc,Vq⟩,hp.2.2.2.2.trans h.2⟩⟩,cd,U,by rw[<-he];exact h.1,c,hc,Vq⟩
       ·obtain rfl:p=1:=X;have d0:xv 0= .func (.func 216) #[] #[Y (D ⟨gk,0,Z⟩)]:=hd.at 0 rfl;obtain⟨cd,e10,hpk⟩: ∃cd:Int,xv 10=E I cd/\fm lo gq gr L most s rk 0 mp cd wq:=hd.at 10 rfl;refine JR (f:=216) (args:= #[xv 10,Y (D ⟨gk,0,Z⟩)]) (Ei U) (by simp[go_sem,d0,eC]) ?_;rw[e10];exact(ql gk tv TS.out TO.out cd wq hp.1).mono fun e w2 h=>⟨_,h.1,tJ h.2,cd,U,hpk.rel (tJ (tv:=tv) h.2)⟩
       ·exact Eng
       ·exact Eng
       ·obtain rfl:p=1:=X;obtain⟨cd,e11,hpk⟩: ∃cd,xv 11=Et #[EZ tv,E I 0,E I cd]/\fm lo gq gr L most s rk 0 mp cd wq:=hd.at 11 rfl;exact IQ fl (Ei U) Lf ⟨cd,U,hpk⟩
       ·obtain rfl:p=1:=X;have d12:xv 12=EZ tv:=hd.at 12 rfl;obtain⟨c,hc,kc⟩:=hp.2.1;exact db EV (Ei U) ⟨U,U,d12⟩ kc hc TS.out TO.out (EdJ kc TS.out) (kc.setRow _)
       ·obtain rfl:p=1:=X;have d13:xv 13=E I 0:=hd.at 13 rfl;exact IQ fl (Ei U) wO U
       ·obtain rfl:p=1:=X;obtain⟨cd,e14,hpk⟩: ∃cd:Int,xv 14=E I cd/\fm lo gq gr L most s rk 0 mp cd wq:=hd.at 14 rfl;exact IQ fl (Ei U) (by simp[go_sem,e14]) ⟨cd,U,hpk⟩
      case hend=>
       intro xv W6 hp hd;simp only[EL,In,Ip,Ig,Ih];obtain⟨cd,e17,hpk⟩: ∃cd:Int,xv 17=E I cd/\fm lo gq gr L most s rk 0 mp cd W6:=hd 17 Eb;have d16:xv 16=E I 0:=hd 16 Eb;have kr:H W6 gr tv 109:=hd 15 Eb;obtain⟨-,-,m⟩:=hp;rw[e17,d16];go_wp2_with fail;refine ET (jb EV U _ _ gr tv (E I 0) (E I cd) U U U kr TS.out) U ?_;refine⟨⟨t,0,cd,bu,?_⟩,m⟩;rcases hpk.1 with⟨cd2,a1,a2,a3⟩|⟨a1,a2,a3⟩;·injection a2 with a2;injection a2 with _ a2;subst a2;exact .inl ⟨a1,U,U,a3⟩
       ·injection a1 with a1;injection a1 with _ a1;subst a1;exact .inr (.inr ⟨U,U,U,a2,a3⟩)
theorem E_.gG(S:E_ lo hi g gc gq gt gs c ns rs w):hi<=w.heap.size:=by obtain⟨_,_,_,KS,_⟩:=S.fi;have:=S.his;have:=KS.lt;omega
theorem JO.gH(h:JO lo g gc gq gt c W)(m:Iz lo W W')(L':List One)(q:Jr W' lo gq L' (pn g 48))(hok:({c with q:=L'}:EB).ok):JO lo g gc gq gt {c with q:=L'} W':=by
 obtain⟨d0,d1,d2,hd,k,r⟩:=h.Ek;have hl:=m.bel;refine⟨h.lo2,h.ZJ,hok,h.lc,h.lq,h.lt,⟨d0,d1,d2,hd,m.Ek k Eb Eb,r⟩,m.Ek h.tab Eb Eb,q,fun i h1 h2=>(h.keys i h1 h2).Ek fun _ _ hk=>m.Ek hk Eb Eb,fun i hi=> ?_,fun i hi=> ?_⟩;·exact Eoo
 ·exact Eor
theorem E_.gH(h:E_ lo hi g gc gq gt gs c ns rs W)(m:Iz lo W W')(L':List One)(q:Jr W' lo gq L' (pn g 48))(hok:({c with q:=L'}:EB).ok):E_ lo hi g gc gq gt gs {c with q:=L'} ns rs W':=by obtain⟨sv,rv,sc,k,r1,r2⟩:=h.fi;exact⟨h.core.gH m L' q hok,h.hc,h.hq,h.ht,h.cH,h.his,sv,rv,sc,m.Ek k Eb Eb,ER r1 fun _ _ hk=>m.Ek hk Eb Eb,ER r2 fun _ _ hk=>m.Ek hk Eb Eb⟩
theorem EB.ok.sub(h:c.ok)(s:UQ L' c.q):({c with q:=L'}:EB).ok:=
 ⟨h.tok,h.T,EA s.len h.q,fun x hx=>h.ones x (s.mem x hx),fun x hx=>h.src x (s.mem x hx),s.nd h.nd,h.ip,h.jy,h.mode,h.Em,h.pt,h.E9⟩
theorem Vr{L:List Int}(h1: ∀x∈L,1<=x/\x<=3)(h2:L.Nodup):L.length<=3:=by have h:=List.Nodup.length_le_of_subset (l₂:=[1,2,3]) h2 (fun x hx=>by have:=h1 x hx;simp only[Ui,UP,or_false];omega);simpa using h
theorem EB.ok.push(h:c.ok){x:One}(p:L'.Perm (c.q++[x]))(hx:x.ok)(h1:1<=x.s/\x.s<=3)(h2: ∀y∈c.q,y.s≠x.s):({c with q:=L'}:EB).ok:=by
 have hs: ∀y∈L',1<=y.s/\y.s<=3:=fun y hy=>by
  rcases XP.1 (p.mem_iff.1 hy) with h'|h';·exact h.src y h'
  ·simp at h';subst h';exact h1
 have hn:(L'.map One.s).Nodup:=by rw[(p.map One.s).nodup_iff,ku,List.nodup_append];refine⟨h.nd,Eh,?_⟩;intro a ha b hb;simp at hb;subst hb;obtain⟨y,hy,rfl⟩:=da.1 ha;exact h2 y hy
 refine⟨h.tok,h.T,?_,fun y hy=> ?_,hs,hn,h.ip,h.jy,h.mode,h.Em,h.pt,h.E9⟩;·have:=Vr (L:=L'.map One.s) (fun z hz=>by obtain⟨y,hy,rfl⟩:=da.1 hz;exact hs y hy) hn;exact En4
 ·rcases XP.1 (p.mem_iff.1 hy) with h'|h';·exact h.ones y h'
  ·simp at h';subst h';exact hx
theorem EB.ok.room(h:c.ok)(h1:1<=s/\s<=3)(h2: ∀x∈c.q,x.s≠s):c.q.length<=2:=by
 have:=Vr (L:=s::c.q.map One.s) (fun z hz=>by
  rcases Ui.1 hz with rfl|hz;·exact h1
  ·obtain⟨y,hy,rfl⟩:=da.1 hz;exact h.src y hy) (mC.2 ⟨fun hm=>by obtain⟨y,hy,e⟩:=da.1 hm;exact h2 y hy e,h.nd⟩)
 simp at this;omega
theorem E_.set{c':EB}(S:E_ lo hi g gc gq gt gs c ns rs W)(ho:EH gc W W')(hT:c'.T=c.T)(hq:c'.q=c.q)(hok:c'.ok) (hb: ∀(d0 d1 d2:Dr) (hd:List Int),Ji W gc (aw (EK 56 g).toList c gq gt d0 d1 d2 hd) 120->d0.ok->d1.ok->d2.ok->Ji W' gc (aw (EK 56 g).toList c' gq gt d0 d1 d2 hd) 120):E_ lo hi g gc gq gt gs c' ns rs W'/\Ex lo hi W W':=by obtain⟨d0,d1,d2,hd,k,o0,o1,o2,r⟩:=S.core.Ek;obtain⟨sv,rv,sc,ks,r1,r2⟩:=S.fi;have k':=hb d0 d1 d2 hd k o0 o1 o2;exact⟨⟨S.core.set ho hT hq hok ⟨d0,d1,d2,hd,k',o0,o1,o2,r⟩,S.hc,S.hq,S.ht,S.cH,S.his,sv,rv,sc,ho.Ek ks (E5 ks k Eb),ER r1 fun _ _ hk=>ho.Ek hk (E5 hk k Eb),ER r2 fun _ _ hk=>ho.Ek hk (E5 hk k Eb)⟩,Ex.vt ho k k' Eb S.core.lc⟩
theorem E_.aA(S:E_ lo hi g gc gq gt gs c ns rs W)(x:EG)(hok:({c with tok:=x}:EB).ok):E_ lo hi g gc gq gt gs {c with tok:=x} ns rs (W.setCells gc 56 x.v)/\Ex lo hi W (W.setCells gc 56 x.v):=
 S.set (Jq _ _ _) U U hok fun d0 d1 d2 hd K o0 o1 o2=>K.set 1 rfl (Ox (JD g) o0 o1 o2 1 X) x.v U
theorem E_.Lg(S:E_ lo hi g gc gq gt gs c ns rs W)(x:Int)(hok:({c with samples:=x}:EB).ok):E_ lo hi g gc gq gt gs {c with samples:=x} ns rs (W.setCells gc 96 [E I x])/\Ex lo hi W (W.setCells gc 96 [E I x]):=
 S.set (Jq _ _ _) U U hok fun d0 d1 d2 hd K o0 o1 o2=>K.set 7 rfl (Ox (JD g) o0 o1 o2 7 X) [E I x] U
theorem E_.wU(S:E_ lo hi g gc gq gt gs c ns rs W)(x:Int)(hok:({c with beyond:=x}:EB).ok):E_ lo hi g gc gq gt gs {c with beyond:=x} ns rs (W.setCells gc 97 [E I x])/\Ex lo hi W (W.setCells gc 97 [E I x]):=
 S.set (Jq _ _ _) U U hok fun d0 d1 d2 hd K o0 o1 o2=>K.set 8 rfl (Ox (JD g) o0 o1 o2 8 X) [E I x] U
theorem E_.wX(S:E_ lo hi g gc gq gt gs c ns rs W)(x:Int)(hok:({c with mode:=x}:EB).ok):E_ lo hi g gc gq gt gs {c with mode:=x} ns rs (W.setCells gc 98 [E I x])/\Ex lo hi W (W.setCells gc 98 [E I x]):=
 S.set (Jq _ _ _) U U hok fun d0 d1 d2 hd K o0 o1 o2=>K.set 9 rfl (Ox (JD g) o0 o1 o2 9 X) [E I x] U
theorem E_.wZ(S:E_ lo hi g gc gq gt gs c ns rs W)(x:XD)(hok:({c with Em:=x}:EB).ok):E_ lo hi g gc gq gt gs {c with Em:=x} ns rs (W.setCells gc 99 x.v)/\Ex lo hi W (W.setCells gc 99 x.v):=
 S.set (Jq _ _ _) U U hok fun d0 d1 d2 hd K o0 o1 o2=>K.set 10 rfl (Ox (JD g) o0 o1 o2 10 X) x.v U
theorem E_.iB(S:E_ lo hi g gc gq gt gs c ns rs W)(x:Pt)(hok:({c with pt:=x}:EB).ok):E_ lo hi g gc gq gt gs {c with pt:=x} ns rs (W.setCells gc 102 x.v)/\Ex lo hi W (W.setCells gc 102 x.v):=
 S.set (Jq _ _ _) U U hok fun d0 d1 d2 hd K o0 o1 o2=>K.set 11 rfl (Ox (JD g) o0 o1 o2 11 X) x.v U
theorem cV(C:JO lo g gc gq gt c w)(k:Nat){old:List V}(ho:coreC (EK 56 g).toList c gq gt k=D old)(n:Nat)(hn:n<=old.length):w.there gc (lX k) n:=by
 obtain⟨d0,d1,d2,hd,KG,o0,o1,o2,-,-⟩:=C.Ek
 have hk:k<13:=by
  rcases JG k 13 with h|h;·exact h
  ·unfold coreC at ho;split at ho<;>first|omega|cases ho
 refine KG.there k (old:=old) ?_ (Ox (JD g) o0 o1 o2 k hk) n hn;unfold coreC at ho;split at ho<;>first|exact ho|cases ho
theorem tO(C:JO lo g gc gq gt c w)(i:Nat):w.frozen? ⟨gc,i,Z⟩=B:=by obtain⟨d0,d1,d2,hd,KG,-⟩:=C.Ek;exact KG.JX i
theorem bA(C:JO lo g gc gq gt c w): ∃big:Array V,H w gc big 120/\ ∀(k:Nat) (old:List V),coreC (EK 56 g).toList c gq gt k=D old->big.extract (lX k) (lX k+old.length)=old.toArray:=by
 obtain⟨d0,d1,d2,hd,KG,o0,o1,o2,-,-⟩:=C.Ek;refine⟨_,KG,fun k old ho=> ?_⟩
 have hk:k<13:=by
  rcases JG k 13 with h|h;·exact h
  ·unfold coreC at ho;split at ho<;>first|omega|cases ho
 refine Ji.extract k (old:=old) ?_ (Ox (JD g) o0 o1 o2 k hk) _ U;unfold coreC at ho;split at ho<;>first|exact ho|cases ho
theorem EdX(c0 a0 a1 a2 a3 n0 n1 n2 n3 r0 s0 q0 r s q:Int)(w:M): Ef EU 144 #[EZ #[E I c0,E I a0,E I a1,E I a2,E I a3,E I n0,E I n1,E I n2,E I n3,E I r0,E I s0,E I q0],EZ #[E I r,E I s,E I q]] w fun e w'=>e=Eg (EZ #[E I c0,E I 0,E I 0,E I 0,E I 0,E I n0,E I n1,E I n2,E I n3,E I r,E I s,E I q])/\El w w':=by go_enter Tryz.func144,Tryz.ntmps144;go_wp2_with fail;refine ET (v:=EZ #[E I c0,E I 0,E I 0,E I 0,E I 0,E I n0,E I n1,E I n2,E I n3,E I r,E I s,E I q]) (by simp[Xa,Tryz.results144,go_sem]) U ⟨U,?_⟩;exact Elx
theorem EdZ(g:Nat->V)(m:Int)(hm:g 50=E I m)(h0:0<=m/\m<=32767)(c0 a0 a1 a2 a3 n0 n1 n2 n3 r0 s0 q0 r s q:Int)(x0 x1 x2 x3:Int)(w:M): Ef EU 139 #[EZ (EK 56 g),EZ #[E I c0,E I a0,E I a1,E I a2,E I a3,E I n0,E I n1,E I n2,E I n3,E I r0,E I s0,E I q0],E I 0,EZ #[E I x0,E I x1,E I x2,E I x3],EZ #[E I r,E I s,E I q]] w fun e w'=>e=Eg (EZ #[E I 0,E I (OU x0 (-m) m),E I (OU x1 (-m) m),E I (OU x2 (-m) m),E I (OU x3 (-m) m),E I n0,E I n1,E I n2,E I n3,E I r,E I s,E I q])/\El w w':=by have j0: ∀w,(JY 25 (EZ #[E I x0,E I x1,E I x2,E I x3]) (E I 0)).run EU w= .ok (E I x0) w:=fun _=>Ed;have j1: ∀w,(JY 25 (EZ #[E I x0,E I x1,E I x2,E I x3]) (E I 1)).run EU w= .ok (E I x1) w:=fun _=>Ed;have j2: ∀w,(JY 25 (EZ #[E I x0,E I x1,E I x2,E I x3]) (E I 2)).run EU w= .ok (E I x2) w:=fun _=>Ed;have j3: ∀w,(JY 25 (EZ #[E I x0,E I x1,E I x2,E I x3]) (E I 3)).run EU w= .ok (E I x3) w:=fun _=>Ed;have hl:(50:Nat)<56:=X;have hneg:IntKind.i64.wrap (-m)= -m:=rW;go_enter Tryz.func139,Tryz.ntmps139;go_wp2_with fail;refine O9 5 ?_;(iterate 2 rw[Ic];go_wp2_with (go_at_call 184;(with_reducible refine(Zl _ _ _ _).mono ?_);rintro e w1 ⟨rfl,rfl⟩));(iterate 2 rw[Ic];go_wp2_with (go_at_call 184;(with_reducible refine(Zl _ _ _ _).mono ?_);rintro e w1 ⟨rfl,rfl⟩));rw[Ic];go_wp2_with (go_at_call 184;(with_reducible refine(Zl _ _ _ _).mono ?_);rintro e w1 ⟨rfl,rfl⟩);refine ET (v:=EZ #[E I 0,E I (OU x0 (-m) m),E I (OU x1 (-m) m),E I (OU x2 (-m) m),E I (OU x3 (-m) m),E I n0,E I n1,E I n2,E I n3,E I r,E I s,E I q]) BH U ⟨U,?_⟩;exact Elx
theorem Eda(g:Nat->V)(m:Int)(hm:g 51=E I m)(h0:0<=m/\m<=32767)(c0 a0 a1 a2 a3 n0 n1 n2 n3 r0 s0 q0 r s q:Int)(x0 x1 x2 x3:Int)(w:M): Ef EU 139 #[EZ (EK 56 g),EZ #[E I c0,E I a0,E I a1,E I a2,E I a3,E I n0,E I n1,E I n2,E I n3,E I r0,E I s0,E I q0],E I 1,EZ #[E I x0,E I x1,E I x2,E I x3],EZ #[E I r,E I s,E I q]] w fun e w'=>e=Eg (EZ #[E I 1,E I (OU x0 (-m) m),E I (OU x1 (-m) m),E I (OU x2 (-m) m),E I (OU x3 (-m) m),E I n0,E I n1,E I n2,E I n3,E I r,E I s,E I q])/\El w w':=by have j0: ∀w,(JY 25 (EZ #[E I x0,E I x1,E I x2,E I x3]) (E I 0)).run EU w= .ok (E I x0) w:=fun _=>Ed;have j1: ∀w,(JY 25 (EZ #[E I x0,E I x1,E I x2,E I x3]) (E I 1)).run EU w= .ok (E I x1) w:=fun _=>Ed;have j2: ∀w,(JY 25 (EZ #[E I x0,E I x1,E I x2,E I x3]) (E I 2)).run EU w= .ok (E I x2) w:=fun _=>Ed;have j3: ∀w,(JY 25 (EZ #[E I x0,E I x1,E I x2,E I x3]) (E I 3)).run EU w= .ok (E I x3) w:=fun _=>Ed;have hl:(51:Nat)<56:=X;have hneg:IntKind.i64.wrap (-m)= -m:=rW;go_enter Tryz.func139,Tryz.ntmps139;go_wp2_with fail;refine O9 5 ?_;(iterate 2 rw[Ic];go_wp2_with (go_at_call 184;(with_reducible refine(Zl _ _ _ _).mono ?_);rintro e w1 ⟨rfl,rfl⟩));(iterate 2 rw[Ic];go_wp2_with (go_at_call 184;(with_reducible refine(Zl _ _ _ _).mono ?_);rintro e w1 ⟨rfl,rfl⟩));rw[Ic];go_wp2_with (go_at_call 184;(with_reducible refine(Zl _ _ _ _).mono ?_);rintro e w1 ⟨rfl,rfl⟩);refine ET (v:=EZ #[E I 1,E I (OU x0 (-m) m),E I (OU x1 (-m) m),E I (OU x2 (-m) m),E I (OU x3 (-m) m),E I n0,E I n1,E I n2,E I n3,E I r,E I s,E I q]) BH U ⟨U,?_⟩;exact Elx
theorem Edb(g:Nat->V)(m:Int)(hm:g 52=E I m)(h0:0<=m/\m<=32767)(c0 a0 a1 a2 a3 n0 n1 n2 n3 r0 s0 q0 r s q:Int)(x0 x1 x2 x3:Int)(w:M): Ef EU 139 #[EZ (EK 56 g),EZ #[E I c0,E I a0,E I a1,E I a2,E I a3,E I n0,E I n1,E I n2,E I n3,E I r0,E I s0,E I q0],E I 2,EZ #[E I x0,E I x1,E I x2,E I x3],EZ #[E I r,E I s,E I q]] w fun e w'=>e=Eg (EZ #[E I 2,E I (OU x0 (-m) m),E I (OU x1 (-m) m),E I (OU x2 (-m) m),E I (OU x3 (-m) m),E I n0,E I n1,E I n2,E I n3,E I r,E I s,E I q])/\El w w':=by have j0: ∀w,(JY 25 (EZ #[E I x0,E I x1,E I x2,E I x3]) (E I 0)).run EU w= .ok (E I x0) w:=fun _=>Ed;have j1: ∀w,(JY 25 (EZ #[E I x0,E I x1,E I x2,E I x3]) (E I 1)).run EU w= .ok (E I x1) w:=fun _=>Ed;have j2: ∀w,(JY 25 (EZ #[E I x0,E I x1,E I x2,E I x3]) (E I 2)).run EU w= .ok (E I x2) w:=fun _=>Ed;have j3: ∀w,(JY 25 (EZ #[E I x0,E I x1,E I x2,E I x3]) (E I 3)).run EU w= .ok (E I x3) w:=fun _=>Ed;have hl:(52:Nat)<56:=X;have hneg:IntKind.i64.wrap (-m)= -m:=rW;go_enter Tryz.func139,Tryz.ntmps139;go_wp2_with fail;refine O9 5 ?_;(iterate 2 rw[Ic];go_wp2_with (go_at_call 184;(with_reducible refine(Zl _ _ _ _).mono ?_);rintro e w1 ⟨rfl,rfl⟩));(iterate 2 rw[Ic];go_wp2_with (go_at_call 184;(with_reducible refine(Zl _ _ _ _).mono ?_);rintro e w1 ⟨rfl,rfl⟩));rw[Ic];go_wp2_with (go_at_call 184;(with_reducible refine(Zl _ _ _ _).mono ?_);rintro e w1 ⟨rfl,rfl⟩);refine ET (v:=EZ #[E I 2,E I (OU x0 (-m) m),E I (OU x1 (-m) m),E I (OU x2 (-m) m),E I (OU x3 (-m) m),E I n0,E I n1,E I n2,E I n3,E I r,E I s,E I q]) BH U ⟨U,?_⟩;exact Elx
theorem Edc(g:Nat->V)(m:Int)(hm:g 53=E I m)(h0:0<=m/\m<=32767)(c0 a0 a1 a2 a3 n0 n1 n2 n3 r0 s0 q0 r s q:Int)(x0 x1 x2 x3:Int)(w:M): Ef EU 139 #[EZ (EK 56 g),EZ #[E I c0,E I a0,E I a1,E I a2,E I a3,E I n0,E I n1,E I n2,E I n3,E I r0,E I s0,E I q0],E I 3,EZ #[E I x0,E I x1,E I x2,E I x3],EZ #[E I r,E I s,E I q]] w fun e w'=>e=Eg (EZ #[E I 3,E I (OU x0 (-m) m),E I (OU x1 (-m) m),E I (OU x2 (-m) m),E I (OU x3 (-m) m),E I n0,E I n1,E I n2,E I n3,E I r,E I s,E I q])/\El w w':=by have j0: ∀w,(JY 25 (EZ #[E I x0,E I x1,E I x2,E I x3]) (E I 0)).run EU w= .ok (E I x0) w:=fun _=>Ed;have j1: ∀w,(JY 25 (EZ #[E I x0,E I x1,E I x2,E I x3]) (E I 1)).run EU w= .ok (E I x1) w:=fun _=>Ed;have j2: ∀w,(JY 25 (EZ #[E I x0,E I x1,E I x2,E I x3]) (E I 2)).run EU w= .ok (E I x2) w:=fun _=>Ed;have j3: ∀w,(JY 25 (EZ #[E I x0,E I x1,E I x2,E I x3]) (E I 3)).run EU w= .ok (E I x3) w:=fun _=>Ed;have hl:(53:Nat)<56:=X;have hneg:IntKind.i64.wrap (-m)= -m:=rW;go_enter Tryz.func139,Tryz.ntmps139;go_wp2_with fail;refine O9 5 ?_;(iterate 2 rw[Ic];go_wp2_with (go_at_call 184;(with_reducible refine(Zl _ _ _ _).mono ?_);rintro e w1 ⟨rfl,rfl⟩));(iterate 2 rw[Ic];go_wp2_with (go_at_call 184;(with_reducible refine(Zl _ _ _ _).mono ?_);rintro e w1 ⟨rfl,rfl⟩));rw[Ic];go_wp2_with (go_at_call 184;(with_reducible refine(Zl _ _ _ _).mono ?_);rintro e w1 ⟨rfl,rfl⟩);refine ET (v:=EZ #[E I 3,E I (OU x0 (-m) m),E I (OU x1 (-m) m),E I (OU x2 (-m) m),E I (OU x3 (-m) m),E I n0,E I n1,E I n2,E I n3,E I r,E I s,E I q]) BH U ⟨U,?_⟩;exact Elx
theorem fo:IW EU 36 3:=⟨⟨_,Tryz.underlying36,U⟩,Ed⟩
theorem iC:IW EU 50 12:=⟨⟨_,Tryz.underlying50,U⟩,Ed⟩
theorem EB.ok.aA(h:c.ok)(ht:t.ok):({c with tok:=t}:EB).ok:=⟨ht,h.T,h.q,h.ones,h.src,h.nd,h.ip,h.jy,h.mode,h.Em,h.pt,h.E9⟩
theorem nK(lo hi:Nat)(g:Nat->V)(gc gq gt gs:Nat)(c:EB)(ns:Nat)(rs:List Rec)(t:EG)(how n:Int)(w:M)(S:E_ lo hi g gc gq gt gs c ns rs w)(ht:t.ok)(hn:ns<900000)(hl:rs.length<900000): Ef EU 97 #[Y (D ⟨gs,0,Z⟩),t.a,E I how,E I n] w fun e w'=>e=Eg (Et #[])/\(∃L' m,m<=2/\UQ L' c.q/\E_ lo hi g gc gq gt gs {c with tok:=t,q:=L'} (ns+m) (rs++[⟨8,t.h,n,t.e,0,how⟩]) w')/\Ex lo hi w w':=by
 obtain⟨tv,Ia,TS,TO,aJ,gF⟩: ∃tv,t.a=EZ tv/\Ea (tv.size=8)/\Ea (tv.all (·.oneCell')=u)/\Ea (tv.toList=t.v)/\Ea (∀W g,H W g tv 109->W.cell? ⟨g,0,Z⟩=D (E I t.h)/\W.cell? ⟨g,1,Z⟩=D (E I t.e)):=⟨_,U,O U,O (f9 _ _ _ _ _ _ _ _),O U,O fun W g K=>⟨(H.cell K 0).trans U,(H.cell K 1).trans U⟩⟩;rw[Ia];have lZ:=O S;have HT:=O ht;have HN:=O hn;have HL:=O hl;clear S ht hn hl Ia;obtain⟨h2,Vs⟩:=En t.h;obtain⟨e2,he2⟩:=En t.e;rw[<-Vs,<-he2] at gF⊢;replace he2:=O he2;clear Vs;have BR1:Tryz.prog.built 222 [(0,E I 134),(3,E I h2),(4,E I e2)]=D (I9 [134,0,0,h2,e2,0,0,0,0,0,0,0,0,0]):=Ed;have BR2:Tryz.prog.built 222 [(0,E I 133),(4,E I e2)]=D (I9 [133,0,0,0,e2,0,0,0,0,0,0,0,0,0]):=Ed;go_enter Tryz.func97,Tryz.ntmps97;have KT:=O<|H.new w tv 109;have b1:=Ep w (EJ tv 109);have S1:=O<|lZ.out.G b1;have MM:=O<|Ex.Ew (lo:=lo) (hi:=hi) b1;go_wp2_with fail;clear b1;generalize w.alloc (EJ tv 109)=w1 at*;obtain⟨gk,ZK⟩:=En w.heap.size;rw[<-ZK] at KT⊢;clear ZK;have y0: ∀y:Ext w1,(Ey w1 y).cell? ⟨gs,0,Z⟩=D (Y (D ⟨gc,0,Z⟩)):=fun y=>(S1.out.G (ED y)).IC;have y1: ∀y:Ext w1,(Ey w1 y).cell? ⟨gc,56,Z⟩=D (E I c.tok.h):=fun y=>(S1.out.G (ED y)).core.cell 1 rfl 0 XV;have y2: ∀y:Ext w1,(Ey w1 y).cell? ⟨gk,0,Z⟩=D (E I h2):=fun y=>(gF.out _ _ (H.G KT.out (ED y))).1;refine Xs Ed Ed ?_
 repeat (first
  |go_big_quiet_skip
  |(go_big_quiet_want
    first
     |(go_big_quiet_op
       first
        |go_big_quiet_on
        |go_big_quiet_call (fail))))
 refine IM ?_;intro _ hw';obtain⟨y9,rfl⟩:=hw';have Em:=ED y9;replace KT:=EQ KT Em;replace S1:=O<|S1.out.G Em;replace MM:=O<|MM.out.trans (Ex.Ew Em);clear y0 y1 y2 Em;generalize Ey w1 y9=w2 at*;go_wp2_with fail;have y0: ∀y:Ext w2,(Ey w2 y).cell? ⟨gs,0,Z⟩=D (Y (D ⟨gc,0,Z⟩)):=fun y=>(S1.out.G (ED y)).IC;refine J5 7 Ed Ed ?_;simp only[Ir,Im,IL,IG]
 repeat (first
  |go_big_quiet_skip
  |(go_big_quiet_want
    first
     |(refine Ub (T:=109) (g:=gk) EV _ rfl rfl KT ?_ ?_;(·exact TS.out);go_simp;go_big_quiet_on)
     |(go_big_quiet_op
       first
        |go_big_quiet_on
        |go_big_quiet_call (fail))))
 refine IM ?_;intro _ hw';obtain⟨y9,rfl⟩:=hw';have Em:=ED y9;replace KT:=EQ KT Em;replace S1:=O<|S1.out.G Em;replace MM:=O<|MM.out.trans (Ex.Ew Em);clear y0 Em;generalize Ey w2 y9=w3 at*;have TH:=O<|cV S1.out.core 1 rfl 8 XV;go_wp2_with ((with_reducible refine JE 109 ?_);(with_reducible refine OH U 109 _ _ U gc 56 tv ?_ ?_ ?_ ?_ ?_ ?_);(·rfl);(·rfl);(·rw[TS.out];exact TH.out);(·rw[TS.out];exact EV.2);(·exact TO.out);refine Ev.mk ?_);apply Eo;rw[aJ.out];have S4:=S1.out.aA t (S1.out.core.ok.aA HT.out);obtain⟨d0,d1,d2,hd,KG,-⟩:=S1.out.core.Ek;replace KT:=O<|(Jq (g:=gc) t.v 56 w3).Ek KT.out (E5 KT.out KG Eb);replace S1:=O S4.1;replace MM:=O<|MM.out.trans S4.2;clear S4 TH KG;generalize w3.setCells gc 56 t.v=w4 at*;have z0:=S1.out.IC;have z64:w4.cell? ⟨gc,64,Z⟩=D (Y (D ⟨gq,0,Z⟩)):=S1.out.core.cell 2 rfl 0 Eh;go_wp2_with fail;refine(qI lo gq c.q (pn g 48) h2 _ S1.out.core.lq S1.out.core.Z2 S1.out.core.ok.q).mono ?_;rintro e5 w5 ⟨⟨b5,rfl⟩,⟨L',q5,sq⟩,m5⟩;replace KT:=O<|m5.Ek KT.out Eb Eb;replace S1:=O<|S1.out.gH m5 L' q5 (S1.out.core.ok.sub sq);replace MM:=O<|MM.out.trans (m5.jB hi);have SQ:=O sq;clear m5 q5 sq z0 z64;have c1:=(gF.out _ _ KT.out).2;go_wp2_with ((with_reducible refine Is 41 ?_);refine I3 U 222 _ U (I9 [134,0,0,h2,e2,0,0,0,0,0,0,0,0,0]) BR1 ?_);refine(Bo lo hi g gc gq gt gs _ ns rs [134,0,0,h2,e2,0,0,0,0,0,0,0,0,0] c.tok.h _ S1.out (pW _ _ _ _ _ _) Ob).mono ?_;rintro e6 w6 ⟨rfl,⟨m1,hm1,s6⟩,m6⟩;replace KT:=O<|m6.Ek KT.out Eb Eb;replace S1:=O s6;replace MM:=O<|MM.out.trans m6;have jK:=O hm1;clear m6 s6 hm1 c1;have c1:=(gF.out _ _ KT.out).2;go_wp2_with ((with_reducible refine Is 47 ?_);refine I3 U 222 _ U (I9 [133,0,0,0,e2,0,0,0,0,0,0,0,0,0]) BR2 ?_);refine(Bo lo hi g gc gq gt gs _ (ns+m1) rs [133,0,0,0,e2,0,0,0,0,0,0,0,0,0] h2 _ S1.out (pW _ _ _ _ _ _) wg).mono ?_;rintro e7 w7 ⟨rfl,⟨m2,hm2,s7⟩,m7⟩;replace S1:=O s7;replace MM:=O<|MM.out.trans m7;have jL:=O hm2;clear m7 s7 hm2 c1 KT;go_wp2_with fail;refine(ZC lo hi g gc gq gt gs _ (ns+m1+m2) rs 8 h2 n 0 how _ S1.out JS).mono ?_;rintro e8 w8 ⟨rfl,s8,m8⟩;have S8:=O s8;replace MM:=O<|MM.out.trans m8;clear m8 s8;go_wp2_with fail;go_end0;refine⟨U,⟨L',m1+m2,by have:=jK.out;have:=jL.out;omega,SQ.out,?_⟩,MM.out⟩;rw[he2.out,<-js];exact S8.out
theorem Edg(h:t.ok)(s:Int):(t.drop s).1.ok:=by
 unfold EG.drop;split;·exact h
 ·exact⟨h.h,h.e,fp,fp,fp,h.la,h.lm,fp⟩
theorem Vt(lo hi:Nat)(g:Nat->V)(gc gq gt gs:Nat)(c:EB)(ns:Nat)(rs:List Rec)(s:Int)(w:M)(S:E_ lo hi g gc gq gt gs c ns rs w)(hn:ns<900000)(hl:rs.length<900000): Ef EU 103 #[Y (D ⟨gs,0,Z⟩),E I s] w fun e w'=>e=Eg (Et #[])/\(∃L' m,m<=2/\UQ L' c.q/\E_ lo hi g gc gq gt gs {c with tok:=(c.tok.drop s).1,q:=L'} (ns+m) (rs++if(c.tok.drop s).2 then [⟨12,s,0,c.tok.e,16,0⟩] else []) w')/\Ex lo hi w w':=by
 have S1:=O S;have HN:=O hn;have HL:=O hl;have MM:=O<|Ex.refl lo hi w;clear S hn hl;obtain⟨N,hN⟩:=En (if(c.tok.drop s).2 then [⟨12,s,0,c.tok.e,16,0⟩] else []:List Rec);rw[<-hN];replace hN:=O hN;have z0:=S1.out.IC;have z64:w.cell? ⟨gc,64,Z⟩=D (Y (D ⟨gq,0,Z⟩)):=S1.out.core.cell 2 rfl 0 Eh;go_enter Tryz.func103,Tryz.ntmps103;go_wp2_with fail;refine(qI lo gq c.q (pn g 48) s _ S1.out.core.lq S1.out.core.Z2 S1.out.core.ok.q).mono ?_;rintro e5 w5 ⟨⟨b5,rfl⟩,⟨L',q5,sq⟩,m5⟩;replace S1:=O<|S1.out.gH m5 L' q5 (S1.out.core.ok.sub sq);replace MM:=O<|MM.out.trans (m5.jB hi);have SQ:=O sq;clear m5 q5 sq z0 z64;have z0:=S1.out.IC;obtain⟨big,KB,UJ⟩:=bA S1.out.core;have KB:=O KB;have EX:=O<|UJ 1 c.tok.v U;have CD:=O<|fun W=>EJK c.tok s W;obtain⟨Iq,Uw,Xk,TO0⟩:=ZH c.tok;have dH:Ea (big.extract 56 (56+8)=Iq):=O (by have e:=EX.out;have h:=Uw;unfold EG.a at h;injection h with h;rw[<-h];exact e);rw[Uw] at CD;have Xk:=O Xk;clear UJ EX Uw;go_wp2_with (with_reducible refine wM (off:=56) (cs:=Iq) EV KB ?_ (hn:=Xk.out) (he:=dH.out));refine(CD.out _).mono ?_;rintro e6 w6 ⟨rfl,b6⟩;replace S1:=O<|S1.out.G b6;replace MM:=O<|MM.out.trans (Ex.Ew b6);clear b6 z0 KB;have Vu:=O<|Edg S1.out.core.ok.tok s;have HD1:Ea ((c.tok.drop s).2=B->(c.tok.drop s).1=c.tok):=O (by unfold EG.drop;split;exact fun _=>rfl;intro h;cases h);have Vv:Ea ((c.tok.drop s).1.e=c.tok.e):=O (by unfold EG.drop;split<;>rfl);obtain⟨t,ht⟩:=En ((c.tok.drop s).1);rw[<-ht] at Vu HD1 Vv⊢;have HT:=O ht;clear ht;obtain⟨tv,Ia,TS,TO,aJ,gF⟩: ∃tv,t.a=EZ tv/\Ea (tv.size=8)/\Ea (tv.all (·.oneCell')=u)/\Ea (tv.toList=t.v)/\Ea (∀W g,H W g tv 109->W.cell? ⟨g,0,Z⟩=D (E I t.h)/\W.cell? ⟨g,1,Z⟩=D (E I t.e)):=⟨_,U,O U,O (f9 _ _ _ _ _ _ _ _),O U,O fun W g K=>⟨(H.cell K 0).trans U,(H.cell K 1).trans U⟩⟩;rw[Ia];go_wp2_with (with_reducible refine fU 109 ?_);apply Eo;generalize hW:UN _ _=w7 at*;have KT:Ea (H w7 (w6.heap.size) #[E I 0,E I 0,E I 0,E I 0,E I 0,E I 0,E I 0,Ec B] 109):=O (by subst hW;repeat (first|exact H.new _ _ _|exact H.new' _ _ _ Eh|refine H.alloc ?_ _));have b7:Ea (El w6 w7):=O Vw;clear hW;obtain⟨gk,ZK⟩:=En w6.heap.size;rw[<-ZK] at KT⊢;have LK:=O (show w6.heap.size<=gk from X);clear ZK;go_wp2_with (with_reducible refine wS (cs:=tv) EV KT (Ev.mk ?_) (hn:=TS.out) (h1:=TO.out));apply Eo;replace KT:=O<|KT.out.setRow tv;replace b7:=O<|E3 (g:=gk) b7.out LK.out tv;generalize w7.setRow gk tv=w8 at*;replace S1:=O<|S1.out.G b7.out;replace MM:=O<|MM.out.trans (Ex.Ew b7.out);clear b7 LK;cases hop:(c.tok.drop s).2 with
 |false=>
  have BK:=O hop;clear hop;go_wp2_with fail;refine ET (U1 U _ _ _) U ?_;refine⟨U,⟨L',0,X,SQ.out,?_⟩,MM.out⟩;have e1:(c.tok.drop s).1=c.tok:=HT.out.symm.trans (HD1.out BK.out);have eN:N=[]:=by rw[hN.out,BK.out];rfl
  rw[e1,eN,fc];exact S1.out
 |true=>
  have BK:=O hop;clear hop;go_wp2_with fail;have y0: ∀y:Ext w8,(Ey w8 y).cell? ⟨gs,0,Z⟩=D (Y (D ⟨gc,0,Z⟩)):=fun y=>(S1.out.G (ED y)).IC;refine J5 7 Ed Ed ?_;simp only[Ir,Im,IL,IG]
  repeat (first
   |go_big_quiet_skip
   |(go_big_quiet_want
     first
      |(refine Ub (T:=109) (g:=gk) EV _ rfl rfl KT ?_ ?_;(·exact TS.out);go_simp;go_big_quiet_on)
      |(go_big_quiet_op
        first
         |go_big_quiet_on
         |go_big_quiet_call (fail))))
  refine IM ?_;intro _ hw';obtain⟨y9,rfl⟩:=hw';have Em:=ED y9;replace KT:=EQ KT Em;replace S1:=O<|S1.out.G Em;replace MM:=O<|MM.out.trans (Ex.Ew Em);clear y0 Em;generalize Ey w8 y9=w9 at*;have TH:=O<|cV S1.out.core 1 rfl 8 XV;go_wp2_with ((with_reducible refine JE 109 ?_);(with_reducible refine OH U 109 _ _ U gc 56 tv ?_ ?_ ?_ ?_ ?_ ?_);(·rfl);(·rfl);(·rw[TS.out];exact TH.out);(·rw[TS.out];exact EV.2);(·exact TO.out);refine Ev.mk ?_);apply Eo;rw[aJ.out];have S4:=S1.out.aA t (S1.out.core.ok.aA Vu.out);obtain⟨d0,d1,d2,hd,KG,-⟩:=S1.out.core.Ek;replace KT:=O<|(Jq (g:=gc) t.v 56 w9).Ek KT.out (E5 KT.out KG Eb);replace S1:=O S4.1;replace MM:=O<|MM.out.trans S4.2;clear S4 TH KG;generalize w9.setCells gc 56 t.v=UD at*;have c0:=(gF.out _ _ KT.out).1;go_wp2_with fail;refine(pY lo hi g gc gq gt gs _ ns rs t.h s 16 _ S1.out Ob).mono ?_;rintro e11 am ⟨rfl,⟨m1,hm1,s11⟩,m11⟩;replace S1:=O s11;replace MM:=O<|MM.out.trans m11;have jK:=O hm1;clear m11 s11 hm1 c0 KT;go_wp2_with fail;refine(ZC lo hi g gc gq gt gs _ (ns+m1) rs 12 s 0 16 0 _ S1.out JS).mono ?_;rintro e12 Xz ⟨rfl,s12,m12⟩;have S8:=O s12;replace MM:=O<|MM.out.trans m12;clear m12 s12;go_wp2_with fail;go_end0;refine⟨U,⟨L',m1,tU,SQ.out,?_⟩,MM.out⟩;have eN:N=[⟨12,s,0,t.e,16,0⟩]:=by rw[hN.out,BK.out,Vv.out];rfl
  rw[<-HT.out,eN];exact S8.out
theorem EB.ok.wX(h:c.ok)(hm:0<=m/\m<=4):({c with mode:=m}:EB).ok:=⟨h.tok,h.T,h.q,h.ones,h.src,h.nd,h.ip,h.jy,hm,h.Em,h.pt,h.E9⟩
theorem EB.ok.wZ(h:c.ok){b:XD}(hb:b.ok):({c with Em:=b}:EB).ok:=⟨h.tok,h.T,h.q,h.ones,h.src,h.nd,h.ip,h.jy,h.mode,hb,h.pt,h.E9⟩
theorem EB.ok.iB(h:c.ok)(hp:p.ok):({c with pt:=p}:EB).ok:=⟨h.tok,h.T,h.q,h.ones,h.src,h.nd,h.ip,h.jy,h.mode,h.Em,hp,h.E9⟩
def Pt.hold(p:Pt)(b:XD):Pt:=⟨p.c,0,0,0,0,p.n0,p.n1,p.n2,p.n3,b⟩
theorem Pt.ok.hold(h:p.ok)(b:XD):(p.hold b).ok:=⟨h.c,BW,BW,BW,BW,h.n0,h.n1,h.n2,h.n3⟩
theorem BY(lo hi:Nat)(g:Nat->V)(gc gq gt gs:Nat)(c:EB)(ns:Nat)(rs:List Rec)(m:Int)(b:XD)(w:M)(S:E_ lo hi g gc gq gt gs c ns rs w)(hm:0<=m/\m<=4)(hb:b.ok): Ef EU 100 #[Y (D ⟨gs,0,Z⟩),E I m,EZ #[E I b.r,E I b.s,E I b.q]] w fun e w'=>e=Eg (Et #[])/\E_ lo hi g gc gq gt gs {c with mode:=m,Em:=b,pt:=c.pt.hold b} ns rs w'/\Ex lo hi w w':=by
 have lZ:=O S;have HM:=O hm;have HB:=O hb;have KL:=O<|H.new w #[E I b.r,E I b.s,E I b.q] 36;have b1:=Ep w (EJ #[E I b.r,E I b.s,E I b.q] 36);have S1:=O<|lZ.out.G b1;have MM:=O<|Ex.Ew (lo:=lo) (hi:=hi) b1;have CH:Ea (∀W,Ef EU 144 #[EZ c.pt.v.toArray,EZ #[E I b.r,E I b.s,E I b.q]] W fun e w'=>e=Eg (EZ (c.pt.hold b).v.toArray)/\El W w'):=O<|fun W=>EdX c.pt.c c.pt.a0 c.pt.a1 c.pt.a2 c.pt.a3 c.pt.n0 c.pt.n1 c.pt.n2 c.pt.n3 c.pt.b.r c.pt.b.s c.pt.b.q b.r b.s b.q W;clear S hm hb;go_enter Tryz.func100,Tryz.ntmps100;go_wp2_with (with_reducible refine I7 9 ?_);apply Eo;clear b1;generalize w.alloc (EJ #[E I b.r,E I b.s,E I b.q] 36)=w1 at*;obtain⟨gl,hgl⟩:=En w.heap.size;rw[<-hgl] at KL⊢;clear hgl;have z0:=S1.out.IC;have zm:w1.cell? ⟨gc,98,Z⟩=D (E I c.mode):=S1.out.core.cell 9 rfl 0 Eh;have zf:=tO S1.out.core 98;go_wp2_with fail;have S4:=S1.out.wX m (S1.out.core.ok.wX HM.out);obtain⟨d0,d1,d2,hd,KG,-⟩:=S1.out.core.Ek;replace KL:Ea (H (w1.setCell ⟨gc,98,Z⟩ (E I m)) gl #[E I b.r,E I b.s,E I b.q] 36):=O<|(J6 (g:=gc) (W:=w1) 98 (E I m)).Ek KL.out (E5 KL.out KG Eb);replace S1:Ea (E_ lo hi g gc gq gt gs {c with mode:=m} ns rs (w1.setCell ⟨gc,98,Z⟩ (E I m))):=O S4.1;replace MM:Ea (Ex lo hi w (w1.setCell ⟨gc,98,Z⟩ (E I m))):=O<|MM.out.trans S4.2;clear S4 z0 zm zf KG;generalize w1.setCell ⟨gc,98,Z⟩ (E I m)=w2 at*;have y0: ∀y:Ext w2,(Ey w2 y).cell? ⟨gs,0,Z⟩=D (Y (D ⟨gc,0,Z⟩)):=fun y=>(S1.out.G (ED y)).IC;refine J5 7 Ed Ed ?_;simp only[Ir,Im,IL,IG]
 repeat (first
  |go_big_quiet_skip
  |(go_big_quiet_want
    first
     |(refine Ub (T:=36) (g:=gl) fo _ rfl rfl KL ?_ ?_;(·rfl);go_simp;go_big_quiet_on)
     |(go_big_quiet_op
       first
        |go_big_quiet_on
        |go_big_quiet_call (fail))))
 refine IM ?_;intro _ hw';obtain⟨y9,rfl⟩:=hw';have Em:=ED y9;replace KL:=EQ KL Em;replace S1:=O<|S1.out.G Em;replace MM:=O<|MM.out.trans (Ex.Ew Em);clear y0 Em;generalize Ey w2 y9=w3 at*;have TH:=O<|cV S1.out.core 10 rfl 3 (by simp[XD.v]);go_wp2_with ((with_reducible refine JE 36 ?_);(with_reducible refine OH U 36 _ _ U gc 99 #[E I b.r,E I b.s,E I b.q] ?_ ?_ ?_ ?_ ?_ ?_);(·rfl);(·rfl);(·exact TH.out);(·exact fo.2);(·simp[OC]);refine Ev.mk ?_);apply Eo;have S4:=S1.out.wZ b (S1.out.core.ok.wZ HB.out);obtain⟨d0,d1,d2,hd,KG,-⟩:=S1.out.core.Ek;replace KL:Ea (H (w3.setCells gc 99 b.v) gl #[E I b.r,E I b.s,E I b.q] 36):=O<|(Jq (g:=gc) b.v 99 w3).Ek KL.out (E5 KL.out KG Eb);replace S1:=O S4.1;replace MM:=O<|MM.out.trans S4.2;clear S4 TH KG;change IZ _ _ _ _ _ (w3.setCells gc 99 b.v);generalize w3.setCells gc 99 b.v=w4 at*;go_wp2_with fail;obtain⟨d0,d1,d2,hd,KG,o0,o1,o2,-,-⟩:=S1.out.core.Ek;have HF:=O<|Ox (c:={c with mode:=m,Em:=b}) (gq:=gq) (gt:=gt) (hd:=hd) (JD g) o0 o1 o2 11 X;have KG:=O KG;clear o0 o1 o2;have y0: ∀y:Ext w4,(Ey w4 y).cell? ⟨gs,0,Z⟩=D (Y (D ⟨gc,0,Z⟩)):=fun y=>(S1.out.G (ED y)).IC;refine J5 15 Ed Ed ?_;simp only[Ir,Im,IL,IG]
 repeat (first
  |go_big_quiet_skip
  |(go_big_quiet_want
    first
     |(refine Ub (T:=36) (g:=gl) fo _ rfl rfl KL ?_ ?_;(·rfl);go_simp;go_big_quiet_on)
     |(refine Zj (T:=50) (g:=gc) (off:=102) iC _ rfl rfl KG 11 rfl HF.out rfl ?_;go_simp;go_big_quiet_on)
     |(go_big_quiet_op
       first
        |go_big_quiet_on
        |go_big_quiet_call (with_reducible refine ag (CH.out _)))))
 refine IM ?_;intro _ hw';obtain⟨y9,rfl⟩:=hw';have Em:=ED y9;replace KL:=EQ KL Em;replace S1:=O<|S1.out.G Em;replace MM:=O<|MM.out.trans (Ex.Ew Em);clear y0 Em KG HF;generalize Ey w4 y9=w5 at*;have TH:=O<|cV S1.out.core 11 rfl 12 wh;have iD:=O<|S1.out.core.ok.pt.hold b;go_wp2_with ((with_reducible refine JE 50 ?_);(with_reducible refine OH U 50 _ _ U gc 102 (c.pt.hold b).v.toArray ?_ ?_ ?_ ?_ ?_ ?_);(·rfl);(·rfl);(·exact TH.out);(·exact iC.2);(·simp[Pt.v,OC]);refine Ev.mk ?_);apply Eo;have S4:=S1.out.iB (c.pt.hold b) (S1.out.core.ok.iB iD.out);replace S1:=O S4.1;replace MM:=O<|MM.out.trans S4.2;clear S4 TH;change IZ _ _ _ _ _ (w5.setCells gc 102 (c.pt.hold b).v);generalize w5.setCells gc 102 (c.pt.hold b).v=w6 at*;go_wp2_with fail;go_end0;exact⟨U,S1.out,MM.out⟩
def EP.lA(T:EP)(s:Int):EP:=if s=1\/s=2\/s=3 then(if(T.EY (s-1).toNat).on then T.put (s-1).toNat Jp else T) else T
theorem EP.Edh(h:T.ok)(s:Int):(T.lA s).ok:=by
 unfold EP.lA;split
 ·split;·exact h.put _ ud
  ·exact h
 ·exact h
theorem EP.Edi(h:T.Xg)(s:Int):(T.lA s).Xg:=by
 unfold EP.lA;split
 ·split;·exact h.put _ ⟨Eb,Eb,Eb,Eb⟩
  ·exact h
 ·exact h
theorem Edj{e:Ut}(h:uG T gt s w e w'):(∃b,e=Eg (Ec b))/\E2 w' gt (T.lA s)/\EH gt w w':=by
 unfold uG at h;unfold EP.lA;obtain⟨h1,h2⟩:=h;split at h1
 ·rename_i h3;rw[if_pos h3];split at h1;·rename_i h4;rw[if_pos h4];exact⟨⟨_,h1.1⟩,h1.2,h2⟩
  ·rename_i h4;rw[if_neg h4];exact⟨⟨_,h1.1⟩,h1.2,h2⟩
 ·rename_i h3;rw[if_neg h3];exact⟨⟨_,h1.1⟩,h1.2,h2⟩
theorem EB.ok.wi(h:c.ok)(hT:T.ok)(hb:T.Xg):({c with T:=T}:EB).ok:=⟨h.tok,hT,h.q,h.ones,h.src,h.nd,h.ip,h.jy,h.mode,h.Em,h.pt,hb⟩
theorem E_.wj(S:E_ lo hi g gc gq gt gs c ns rs W)(ho:EH gt W W')(T:EP)(k:E2 W' gt T)(hok:({c with T:=T}:EB).ok):E_ lo hi g gc gq gt gs {c with T:=T} ns rs W'/\Ex lo hi W W':=by
 obtain⟨d0,d1,d2,hd,kg,r⟩:=S.core.Ek;obtain⟨sv,rv,sc,ks,r1,r2⟩:=S.fi;obtain⟨v,came,k2,q2,q3⟩:=S.core.Z2;have kt:H W gt c.T.v.toArray 163:=S.core.tab;have hl:=ho.bel lo S.core.lt (EA S.core.lt (ax kt.lt));refine⟨⟨⟨S.core.lo2,S.core.ZJ,hok,S.core.lc,S.core.lq,S.core.lt,⟨d0,d1,d2,hd,ho.Ek kg (E5 kg kt Eb),r⟩,k,⟨v,came,ho.Ek k2 (E5 k2 kt Eb),q2,ER q3 fun _ _ hk=>ho.Ek hk (E5 hk kt Eb)⟩,fun i h1 h2=>(S.core.keys i h1 h2).Ek fun _ _ hk=>ho.Ek hk (E5 hk kt Eb),fun i hi=> ?_,fun i hi=> ?_⟩,S.hc,S.hq,S.ht,S.cH,S.his,sv,rv,sc,ho.Ek ks (E5 ks kt Eb),ER r1 fun _ _ hk=>ho.Ek hk (E5 hk kt Eb),ER r2 fun _ _ hk=>ho.Ek hk (E5 hk kt Eb)⟩,Ex.vt ho kt k Eb S.core.lt⟩;·rw[hl.cell (p:=⟨0,i,Z⟩) (by have:=S.core.lo2;simp;omega)];exact S.core.roots i hi
 ·rw[hl.cell (p:=⟨1,i,Z⟩) (by have:=S.core.lo2;simp;omega)];exact S.core.cmds i hi
theorem Za{l:List Int}(K:H W gm (EF l) 183)(i:Nat)(h:i<12)(h7:i≠7):W.cell? ⟨gm,i,Z⟩=D (E I (l.getD i 0)):=by rw[H.cell K,Zs l i h,if_neg h7]
theorem Edk(lo hi:Nat)(g:Nat->V)(gc gq gt gs:Nat)(c:EB)(ns:Nat)(rs:List Rec)(l:List Int)(k:Int)(w:M)(S:E_ lo hi g gc gq gt gs c ns rs w)(hn:ns<800000)(hl:rs.length<800000): Ef EU 128 #[Y (D ⟨gs,0,Z⟩),E I k,EZ (EF l)] w fun e w'=>e=Eg (Et #[])/\E_ lo hi g gc gq gt gs c (ns+1) rs w'/\Ex lo hi w w':=by
 have S0:=O S;have HN:=O hn;have HL:=O hl;have KM:=O<|H.new w (EF l) 183;have b1:=Ep w (EJ (EF l) 183);have S1:=O<|S0.out.G b1;have MM:=O<|Ex.Ew (lo:=lo) (hi:=hi) b1;obtain⟨v1,hv1⟩:=En (l.getD 1 0);have Oo:Ea (∀W g,H W g (EF l) 183->W.cell? ⟨g,1,Z⟩=D (E I v1)):=O (fun W g K=>by rw[hv1];exact Za K 1 X X);try rw[<-hv1]
 replace hv1:=O hv1;clear S hn hl S0;obtain⟨mv,hmv⟩:=En (EF l);rw[<-hmv] at KM b1 S1 MM Oo⊢;clear hmv;go_enter Tryz.func128,Tryz.ntmps128;go_wp2_with (with_reducible refine I7 9 ?_);apply Eo;clear b1;generalize w.alloc (EJ mv 183)=w1 at*;obtain⟨gm,hgm⟩:=En w.heap.size;rw[<-hgm] at KM⊢;clear hgm;have c1:=Oo.out _ _ KM.out;go_wp2_with fail;refine(jz lo hi g gc gq gt gs c ns rs k v1 _ S1.out Ob).mono ?_;rintro e2 w2 ⟨rfl,s2,m2⟩;go_wp2_with fail;go_end0;exact⟨U,s2,MM.out.trans m2⟩
theorem Edl(lo hi:Nat)(g:Nat->V)(gc gq gt gs:Nat)(c:EB)(ns:Nat)(rs:List Rec)(l:List Int)(k:Int)(w:M)(S:E_ lo hi g gc gq gt gs c ns rs w)(hn:ns<800000)(hl:rs.length<800000): Ef EU 129 #[Y (D ⟨gs,0,Z⟩),E I k,EZ (EF l)] w fun e w'=>e=Eg (Et #[])/\(∃L' m,m<=3/\UQ L' c.q/\E_ lo hi g gc gq gt gs {c with T:=c.T.lA k,tok:=(c.tok.drop k).1,q:=L'} (ns+m) ((rs++if(c.tok.drop k).2 then [⟨12,k,0,c.tok.e,16,0⟩] else [])++[⟨4,k,l.getD 1 0,(c.tok.drop k).1.e,0,0⟩]) w')/\Ex lo hi w w':=by
 obtain⟨N,hN⟩:=En (if(c.tok.drop k).2 then [⟨12,k,0,c.tok.e,16,0⟩] else []:List Rec);rw[<-hN];replace hN:=O hN;have pR:=O (show N.length<=1 by rw[hN.out];split<;>simp);have S0:=O S;have HN:=O hn;have HL:=O hl;have KM:=O<|H.new w (EF l) 183;have b1:=Ep w (EJ (EF l) 183);have S1:=O<|S0.out.G b1;have MM:=O<|Ex.Ew (lo:=lo) (hi:=hi) b1;obtain⟨v1,hv1⟩:=En (l.getD 1 0);have Oo:Ea (∀W g,H W g (EF l) 183->W.cell? ⟨g,1,Z⟩=D (E I v1)):=O (fun W g K=>by rw[hv1];exact Za K 1 X X);try rw[<-hv1]
 replace hv1:=O hv1;clear S hn hl S0;obtain⟨mv,hmv⟩:=En (EF l);rw[<-hmv] at KM b1 S1 MM Oo⊢;clear hmv;go_enter Tryz.func129,Tryz.ntmps129;go_wp2_with (with_reducible refine I7 9 ?_);apply Eo;clear b1;generalize w.alloc (EJ mv 183)=w1 at*;obtain⟨gm,hgm⟩:=En w.heap.size;rw[<-hgm] at KM⊢;clear hgm;have z0:=S1.out.IC;have U7:w1.cell? ⟨gc,95,Z⟩=D (Y (D ⟨gt,0,Z⟩)):=S1.out.core.cell 6 rfl 0 Eh;go_wp2_with fail;refine(EUU gt c.T k _ S1.out.core.tab S1.out.core.ok.T).mono ?_;intro e2 w2 h2;obtain⟨⟨b2,rfl⟩,Vx,o2⟩:=Edj h2;have hS:=S1.out.wj o2 (c.T.lA k) Vx (S1.out.core.ok.wi (EP.Edh S1.out.core.ok.T k) (EP.Edi S1.out.core.ok.E9 _));replace KM:=O<|o2.Ek KM.out (E5 KM.out S1.out.core.tab Eb);replace S1:=O hS.1;replace MM:=O<|MM.out.trans hS.2;clear h2 hS Vx o2 z0 U7;go_wp2_with fail;refine(Vt lo hi g gc gq gt gs _ ns rs k _ S1.out Ob JS).mono ?_;rintro e3 w3 ⟨rfl,⟨L',m3,nL,sq,s3⟩,qm⟩;rw[show(if(c.tok.drop k).2=u then [(⟨12,k,0,c.tok.e,16,0⟩:Rec)] else [])=N from hN.out.symm] at s3;replace KM:=O<|qm.Ek KM.out Eb Eb;replace S1:=O s3;replace MM:=O<|MM.out.trans qm;have SQ:=O sq;have qn:=O nL;clear s3 qm sq nL;have c1:=Oo.out _ _ KM.out;go_wp2_with fail;refine(ZC lo hi g gc gq gt gs _ (ns+m3) _ 4 k v1 0 0 _ S1.out (by have:=HL.out;have:=pR.out;rw[I2];omega)).mono ?_;rintro e4 w4 ⟨rfl,s4,m4⟩;replace KM:=O<|m4.Ek KM.out Eb Eb;replace S1:=O s4;replace MM:=O<|MM.out.trans m4;clear s4 m4 c1;have c1:=Oo.out _ _ KM.out;go_wp2_with fail;refine(jz lo hi g gc gq gt gs _ (ns+m3) _ k v1 _ S1.out (by have:=HN.out;have:=qn.out;omega)).mono ?_;rintro e5 w5 ⟨rfl,s5,m5⟩;have S5:=O s5;replace MM:=O<|MM.out.trans m5;clear s5 m5;go_wp2_with fail;go_end0;exact⟨U,⟨L',m3+1,by have:=qn.out;omega,SQ.out,S5.out⟩,MM.out⟩
section
variable{P:Program}{Q:Exit->Act->World->Prop}
inductive bB(Rel Ij:M->M->Prop) where
 |val (p:V->Prop)
 |dep (s:V->M->Prop) (h1: ∀v w w',s v w->Rel w w'->s v w') (h2: ∀v w w',s v w->Ij w w'->s v w')
 |late (s:V->M->Prop) (h1: ∀v w w',s v w->Rel w w'->s v w')
 |tie (ds:List Nat) (s:(Nat->V)->M->Prop) (h1: ∀x w w',s x w->Rel w w'->s x w') (hx: ∀x y w,(∀k∈ds,x k=y k)->s x w->s y w)
 |tied (ds:List Nat) (s:(Nat->V)->M->Prop) (h1: ∀x w w',s x w->Rel w w'->s x w') (h2: ∀x w w',s x w->Ij w w'->s x w') (hx: ∀x y w,(∀k∈ds,x k=y k)->s x w->s y w)
 |bC (ds:List Nat) (s:(Nat->V)->Prop) (hx: ∀x y,(∀k∈ds,x k=y k)->s x->s y)
instance{Rel Ij}(x):CoeDep KQ (KQ.kq x) (bB Rel Ij):=⟨.val fun v=>v=x⟩
instance{Rel Ij}(g i):CoeDep KQ (KQ.kp g i) (bB Rel Ij):=⟨.val fun v=>v=Y (D ⟨g,i,Z⟩)⟩
def bB.nH{Rel Ij:M->M->Prop}:bB Rel Ij->Bool
 | .late _ _=>u
 | .tie _ _ _ _=>u
 |_=>B
def bB.ds{Rel Ij:M->M->Prop}:bB Rel Ij->List Nat
 | .tie ds _ _ _=>ds
 | .tied ds _ _ _ _=>ds
 | .bC ds _ _=>ds
 |_=>[]
def RT{Rel Ij:M->M->Prop}(K:Nat->bB Rel Ij)(i:Nat)(x:Nat->V)(w:M):Prop:=match K i with
 | .val p=>p (x i)
 | .dep s _ _=>s (x i) w
 | .late s _=>s (x i) w
 | .tie _ s _ _=>s x w
 | .tied _ s _ _ _=>s x w
 | .bC _ s _=>s x
def kT{Rel Ij:M->M->Prop}(Ks:List (bB Rel Ij))(i:Nat):bB Rel Ij:=Ks.getD i (.val fun _=>True)
def Edm(ops:Array EN)(lB:List (List Nat)):Bool:=(UA lB.length).all fun i=>(lB.getD i []).all fun k=>decide (k=i)||(match ops[i]? with|some o=>o.after.toList.any (fun e=>Oq .any e&&e.on==k)|none=>false)
theorem Edn{Rel Ij:M->M->Prop}{Ks:List (bB Rel Ij)}(h:Ks.map bB.nH=tags)(i:Nat)(hl:(kT Ks i).nH=u):i<tags.length/\tags.getD i B=u:=by
 subst h;unfold kT at hl;by_cases hi:i<Ks.length;·exact Eoj
 ·rw[UK,aM X] at hl;cases hl
theorem Lh{Rel Ij:M->M->Prop}{Ks:List (bB Rel Ij)}{lB:List (List Nat)}(h:Ks.map bB.ds=lB)(i:Nat)(k:Nat)(hk:k∈(kT Ks i).ds):i<lB.length/\k∈lB.getD i []:=by
 subst h;unfold kT at hk;by_cases hi:i<Ks.length;·refine⟨Ug,?_⟩;simp only[UK,List.getElem?_map,Ok hi,j_,Option.getD_some] at hk⊢;exact hk
 ·rw[UK,aM X] at hk;cases hk
theorem iF{Rel Ij:M->M->Prop}(Ks:List (bB Rel Ij))(tags:List Bool)(htag:Ks.map bB.nH=tags)(lB:List (List Nat))(hds:Ks.map bB.ds=lB)(cs:List Nat)(ks:List (Nat×Nat))(hm:P.follows .mixedOrders=u)(hB:fV l.toArray=u)(hK:jf l.toArray cs ks=u)(hlt:Vo l.toArray cs tags=u)(htie:Edm l.toArray lB=u)(hlk:(ks.all fun p=>decide (p.1<=cs.length))=u)(hnd:(O4 l).Nodup) (hcg:(cs.all fun c=>match l[c]? with|some o=>o.guard.isNone|none=>false)=u) (hPh: ∀b w w',Ph b w->Rel w w'->Ph b w') (h0:Ph 0 w0.drew) (hstep:fY Ph Rel Ij P l.toArray Q (fun x=>EL l 0 x a0) (RT (kT Ks)) cs 0 l ks) (hend: ∀x w,Ph cs.length w->(∀i,i<l.length->RT (kT Ks) i x w)->IZ P l.toArray Q [] (EL l 0 x a0) w):(ZP id l.toArray u).wp P Q a0 w0:=by
 refine Vn cs ks hm hB hK hlk hnd (RT (kT Ks)) hcg hPh ?_ ?_ ?_ h0 hstep hend
 ·intro i x w w' _ h hr;unfold RT at*;split at h;·exact h
  ·rename_i s h1 h2 _;exact EoV
  ·rename_i s h1 _;exact EoV
  ·rename_i ds s h1 hx _;exact EoV
  ·rename_i ds s h1 h2 hx _;exact EoV
  ·exact h
 ·intro i x w w' c hi hc hne hrb h hr;have nl:(kT Ks i).nH=true->False:=fun he=>by obtain⟨h3,h4⟩:=Edn htag i he;have h5:=UY.1 hlt i (Z6.2 h3);rw[h4] at h5;simp only[Bool.not_true,Bool.false_or] at h5;have h6:=UY.1 h5 c hc;rw[hrb] at h6;simp at h6;exact hne h6
  unfold RT at*;split at h;·exact h
  ·exact Eo2
  ·rename_i s h1 he;exact(nl mP).elim
  ·rename_i ds s h1 hx he;exact(nl mP).elim
  ·rename_i ds s h1 h2 hx _;exact h2 _ _ _ h hr
  ·exact h
 ·intro i x y w _ hq h;unfold RT at*;split at h;·rw[hq i (.inl rfl)] at h;exact h
  ·exact EoF
  ·exact EoF
  ·rename_i ds s h1 hx he;refine hx x y w (fun k hk=>hq k ?_) h;obtain⟨h3,h4⟩:=Lh hds i k Li;have h5:=UY.1 htie i (Z6.2 h3);have h6:=UY.1 h5 k h4;simp only[kI,decide_eq_true_eq] at h6;rcases h6 with h6|h6;·exact .inl h6
   ·exact .inr (uk h6)
  ·rename_i ds s h1 h2 hx he;refine hx x y w (fun k hk=>hq k ?_) h;obtain⟨h3,h4⟩:=Lh hds i k Li;have h5:=UY.1 htie i (Z6.2 h3);have h6:=UY.1 h5 k h4;simp only[kI,decide_eq_true_eq] at h6;rcases h6 with h6|h6;·exact .inl h6
   ·exact .inr (uk h6)
  ·rename_i ds s hx he;refine hx x y (fun k hk=>hq k ?_) h;obtain⟨h3,h4⟩:=Lh hds i k Li;have h5:=UY.1 htie i (Z6.2 h3);have h6:=UY.1 h5 k h4;simp only[kI,decide_eq_true_eq] at h6;rcases h6 with h6|h6;·exact .inl h6
   ·exact .inr (uk h6)
end
def lC(w w':M):Prop:= ∀b c,H w b c 109->c.size=8-> ∃c':Array V,c'.size=8/\H w' b c' 109
theorem tX{c cs:Array V}(_:H w b c 109)(hs:cs.size=8):lC w (w.setRow b cs):=fun k d h h8=>by
 by_cases e:k=b;·subst e;exact⟨cs,hs,h.setRow cs⟩
 ·exact⟨d,h8,H.setRow_other h b cs e⟩
def aO(n0:Nat)(v:V)(w:M):Prop:= ∃(b:Nat) (c:Array V),v=Y (D ⟨b,0,Z⟩)/\n0<=b/\c.size=8/\H w b c 109
theorem aO.G(h:aO n0 v w)(hb:El w w'):aO n0 v w':=by exact EpJ
theorem aO.iG(h:aO n0 v w)(hb:lC w w'):aO n0 v w':=by obtain⟨b,c,h1,h2,h3,h4⟩:=h;obtain⟨c',h5,h6⟩:=hb b c h4 h3;exact⟨b,c',h1,h2,h5,h6⟩
theorem E_.only(S:E_ lo hi g gc gq gt gs c ns rs W)(ho:EH b W W'){d:Array V}(K:H W b d 109)(h1:lo<=b):E_ lo hi g gc gq gt gs c ns rs W':=by obtain⟨sv,rv,sc,ks,r1,r2⟩:=S.fi;have kp: ∀k cs T,T≠109->H W k cs T->H W' k cs T:=fun k cs T hT hb=>ho.Ek hb (E5 hb K hT);exact⟨S.core.via (fun k cs T hT hb=>kp k cs T (by intro e;subst e;revert hT;decide) hb) (ho.bel lo h1 Kt),S.hc,S.hq,S.ht,S.cH,S.his,sv,rv,sc,kp _ _ _ Eb ks,ER r1 fun _ _ hk=>kp _ _ _ Eb hk,ER r2 fun _ _ hk=>kp _ _ _ Eb hk⟩
theorem Ex.only(m:Ex lo hi w W)(ho:EH b W W')(h1:w.heap.size<=b)(h2:hi<=b)(h3:b<W.heap.size):Ex lo hi w W':=by
 have bb:=ho.bel 0 (bY _) (bY _);refine⟨bb.os.trans m.os,bb.tape.trans m.tape,bb.output.trans m.output,EA m.size ho.size,fun k hk hl hm=>(ho.keep k X X).trans (m.low k hk hl hm),fun k c T hb hm=> ?_,fun k c T hb=> ?_,fun k c T p hk hb=> ?_⟩;·exact ho.Ek (m.high k c T hb hm) Bs
 ·obtain⟨c',hc⟩:=m.stay k c T hb;exact⟨c',ho.Ek hc Bs⟩
 ·obtain⟨c',p',hc⟩:=m.Bb k c T p hk hb;exact⟨c',p',(ho.keep k X X).trans hc⟩
theorem lD:Od EU 109 #[E I 0,E I 0,E I 0,E I 0,E I 0,E I 0,E I 0,Ec B]:=by exact El7
theorem Edo(h:t.ok)(k e:Int)(hr:t.accept k e=(t2,0)):0<=t.o/\t.o=k/\t.Uq k=(t2,0):=by
 unfold EG.accept at hr;split at hr;·simp at hr
 ·split at hr;·simp at hr
  ·rename_i h1 h2;exact⟨X,X,hr⟩
theorem Lj(h:t.ok){e:Int}(hs:0<=s/\s<=4)(he:0<=e/\e<=65535):(t.pass s e).ok:=⟨hs,he,tZ,tZ,tZ,tZ,tZ,tZ⟩
theorem gK(h:t.ok)(hr:t.Uq s=(t2,0)):t2.ok/\t2.e=t.e+1/\t2.h=s/\t2.o= -1:=by obtain⟨h1,h2,h3,h4,rfl⟩:=LZ hr;exact⟨Lj h ⟨h1,X⟩ ⟨by have:=h.e;omega,X⟩,U,U,U⟩
theorem Edp(lo hi:Nat)(g:Nat->V)(gc gq gt gs:Nat)(c:EB)(ns:Nat)(rs:List Rec)(l:List Int)(k:Int)(w:M)(S:E_ lo hi g gc gq gt gs c ns rs w)(hn:ns<800000)(hl:rs.length<800000): Ef EU 132 #[Y (D ⟨gs,0,Z⟩),E I k,EZ (EF l)] w fun e w'=>e=Eg (Et #[])/\(∃c' m new,m<=3/\E_ lo hi g gc gq gt gs c' (ns+m) (rs++new) w'/\((∃cd,c'=c/\new=[⟨7,k,l.getD 1 0,c.tok.e,cd,0⟩])\/(∃t2 L',c.tok.Uq k=(t2,0)/\UQ L' c.q/\c'={c with tok:=t2,q:=L'}/\new=[⟨8,t2.h,l.getD 1 0,t2.e,0,1⟩])))/\Ex lo hi w w':=by
 have ZL:=fun W e=>EOn c.tok k e W B_;obtain⟨Iq,Uw,Xk,Zb⟩: ∃Iq,c.tok.a=EZ Iq/\Ea (Iq.size=8)/\Ea (c.tok.v.toArray=Iq):=⟨_,U,O U,O U⟩;have S0:=O S;have HN:=O hn;have HL:=O hl;have KM:=O<|H.new w (EF l) 183;have b1:=Ep w (EJ (EF l) 183);have S1:=O<|S0.out.G b1;have MM:=O<|Ex.Ew (lo:=lo) (hi:=hi) b1;obtain⟨v1,hv1⟩:=En (l.getD 1 0);have Oo:Ea (∀W g,H W g (EF l) 183->W.cell? ⟨g,1,Z⟩=D (E I v1)):=O (fun W g K=>by rw[hv1];exact Za K 1 X X);try rw[<-hv1]
 replace hv1:=O hv1;obtain⟨v4,hv4⟩:=En (l.getD 4 0);have Vy:Ea (∀W g,H W g (EF l) 183->W.cell? ⟨g,4,Z⟩=D (E I v4)):=O (fun W g K=>by rw[hv4];exact Za K 4 X X);try rw[<-hv4]
 replace hv4:=O hv4;clear S hn hl S0;obtain⟨mv,hmv⟩:=En (EF l);rw[<-hmv] at KM b1 S1 MM Oo Vy⊢;clear hmv;cases hr:c.tok.accept k v4 with|mk t2 cd=>
 obtain⟨rv,IH,RS,RO⟩:=ZH t2;have RS:=O RS;have RO:=O RO;have Uv:=O IH;have HR:=O hr;have CA:Ea (∀W,Ef EU 179 #[EZ Iq,E I k,E I v4] W fun x w'=>x=Eg (Et #[EZ rv,E I cd])/\El W w'):=O (fun W=>by have h:=ZL W v4;rw[hr,Uw] at h;rw[<-IH];exact h);clear hr IH ZL Uw;go_enter Tryz.func132,Tryz.ntmps132;go_wp2_with fail;clear b1;generalize w.alloc (EJ mv 183)=w1 at*;obtain⟨gm,hgm⟩:=En w.heap.size;rw[<-hgm] at KM⊢;clear hgm;obtain⟨n0,hn0⟩:=En w1.heap.size;have X0:=O (show lo<=n0/\hi<=n0/\w.heap.size<=n0 from nM);refine iF (Ph:=fun _ wq=>(E_ lo hi g gc gq gt gs c ns rs wq/\Ex lo hi w wq/\H wq gm mv 183/\n0<=wq.heap.size)) (Rel:=Oa) (Ij:=lC) [kp gs 0,kp gs 0,kp gs 0,kp gc 0,kp gc 0,kp gc 56,kq (EZ Iq),kq (E I k),kp gm 4,kq (E I v4),kq (Et #[EZ rv,E I cd]),kq (Et #[EZ rv,E I cd]),kq (EZ rv),kq (E I cd),.dep (aO n0) (fun v w w' h hr=>h.G hr) (fun v w w' h hr=>h.iG hr),.tie [14] (fun x w=> ∃b:Nat,x 14=Y (D ⟨b,0,Z⟩)/\n0<=b/\H w b rv 109) (fun x w w' h hr=>qo) (fun x y w hq h=>by rw[hq 14 Eh] at h;exact h),kq (E I cd)] [B,B,B,B,B,B,B,B,B,B,B,B,B,B,B,u,B] U [[],[],[],[],[],[],[],[],[],[],[],[],[],[],[],[14],[]] U [15] [(0,0),(0,0),(0,0),(0,0),(0,0),(0,0),(0,0),(0,0),(0,0),(0,0),(0,0),(0,0),(0,0),(0,1),(0,0),(0,0),(1,1)] Ed Ed Ed Ed Ed Ed U_ Ed ?hPh ?h0 ?hstep ?hend;case hPh=> intro p w2 w3 h hr;exact⟨h.1.G hr,h.2.1.trans (Ex.Ew hr),H.G h.2.2.1 hr,EA h.2.2.2 (XJ hr)⟩
 case h0=> exact Eob
 case hstep=>
  refine⟨?_,?_,?_,?_,?_,?_,?_,?_,?_,?_,?_,?_,?_,?_,?_,?_,?_,trivial⟩;all_goals first|intro xv wq p hlo hhi hp hd|intro xv wq hp hd
  all_goals simp only[EL,In,Ip,Ig,Ih]
  ·exact Elu
  ·exact ElN
  ·exact ElM
  ·exact Enr
  ·exact ElL
  ·exact El8
  ·obtain rfl:p=0:=X;have d5:xv 5=Y (D ⟨gc,56,Z⟩):=hd.at 5 rfl;obtain⟨big,KB,UJ⟩:=bA hp.1.core;exact EmL
  ·exact Elu
  ·exact Elu
  ·obtain rfl:p=0:=X;have d8:xv 8=Y (D ⟨gm,4,Z⟩):=hd.at 8 rfl;have cc:wq.cell? ⟨gm,4,Z⟩=D (E I v4):=Vy.out _ _ hp.2.2.1;exact Es CU U
  ·obtain rfl:p=0:=X;have d6:xv 6=EZ Iq:=hd.at 6 rfl;have d7:xv 7=E I k:=hd.at 7 rfl;have d9:xv 9=E I v4:=hd.at 9 rfl;refine JR (f:=179) (args:= #[xv 6,xv 7,xv 9]) (Ei U) Ez ?_;rw[d6,d7,d9];exact EpC
  ·obtain rfl:p=0:=X;have d10:xv 10=Et #[EZ rv,E I cd]:=hd.at 10 rfl;exact Eps
  ·obtain rfl:p=0:=X;exact EqJ
  ·exact EqJ
  ·exact EoE
  ·have d12:xv 12=EZ rv:=hd.at 12 rfl;obtain⟨b,d0,eA,lb,h8,kb⟩:aO n0 (xv 14) wq:=hd.at 14 rfl;have nh:=X0.out;refine db EV (Ei U) ⟨U,eA,d12⟩ kb h8 RS.out RO.out ⟨tX kb RS.out,?_⟩ ⟨b,eA,lb,kb.setRow _⟩;exact Enu
  ·obtain rfl:p=1:=X;exact EpG
 case hend=>
  intro xv W6 hp hd;clear S1 MM KM;simp only[EL,In,Ip,Ig,Ih];obtain⟨b,eA,lb,kb⟩: ∃b:Nat,xv 14=Y (D ⟨b,0,Z⟩)/\n0<=b/\H W6 b rv 109:=hd 15 Eb;have d16:xv 16=E I cd:=hd 16 Eb;obtain⟨s6,m6,dL,-⟩:=hp;have S1:=O s6;have MM:=O m6;have KM:=O dL;have KB:=O kb;rw[eA,d16];clear s6 m6 dL kb hd eA d16 CA;have c1:=Oo.out _ _ KM.out;by_cases hcd:cd=0;·subst hcd;obtain⟨ha1,ha2,Lk⟩:=Edo S1.out.core.ok.tok k v4 HR.out;have HT2:=O (gK S1.out.core.ok.tok Lk).1;have HG:=O Lk;clear ha1 ha2 Lk;go_wp2_with (with_reducible refine wL EV KB ?_ (hn:=RS.out));rw[<-Uv.out];refine(nK lo hi g gc gq gt gs c ns rs t2 1 v1 _ S1.out HT2.out Ob JS).mono ?_;rintro e7 w7 ⟨rfl,⟨L',m7,XS,sq,s7⟩,Xl⟩;replace KM:=O<|Xl.Ek KM.out Eb Eb;replace S1:=O s7;replace MM:=O<|MM.out.trans Xl;have SQ:=O sq;have nN:=O XS;clear s7 Xl sq XS c1;have c1:=Oo.out _ _ KM.out;go_wp2_with fail;refine(jz lo hi g gc gq gt gs _ (ns+m7) _ k v1 _ S1.out Ll).mono ?_;rintro e8 w8 ⟨rfl,s8,m8⟩;have S8:=O s8;replace MM:=O<|MM.out.trans m8;clear s8 m8;go_wp2_with fail;go_end0;exact⟨U,⟨_,m7+1,_,qp,S8.out,.inr ⟨t2,L',HG.out,SQ.out,U,U⟩⟩,MM.out⟩
  ·have t9:(cd !=0)=u:=dF;exact Emp
theorem Iz.iG(m:Iz lo W W'):lC W W':=fun b c h h8=>⟨c,h8,m.Ek h Eb Eb⟩
theorem Edq(lo hi:Nat)(g:Nat->V)(gc gq gt gs:Nat)(c:EB)(ns:Nat)(rs:List Rec)(l:List Int)(k:Int)(w:M)(S:E_ lo hi g gc gq gt gs c ns rs w)(hn:ns<800000)(hl:rs.length<800000): Ef EU 134 #[Y (D ⟨gs,0,Z⟩),E I k,EZ (EF l)] w fun e w'=>e=Eg (Et #[])/\(∃c' m new,m<=3/\E_ lo hi g gc gq gt gs c' (ns+m) (rs++new) w'/\ ∃L',((∃cd,c'={c with q:=L'}/\new=[⟨7,k,l.getD 1 0,c.tok.e,cd,0⟩])\/(∃t2,t2.ok/\t2.e=c.tok.e+1/\t2.o= -1/\c'={c with tok:=t2,q:=L'}/\new=[⟨8,t2.h,l.getD 1 0,t2.e,0,2⟩])))/\Ex lo hi w w':=by
 have ZL:=fun W q=>Vf lo gq c.q (pn g 48) k c.tok W S.core.lq q S.core.ok.q B_;obtain⟨Iq,Uw,Xk,Zb⟩: ∃Iq,c.tok.a=EZ Iq/\Ea (Iq.size=8)/\Ea (c.tok.v.toArray=Iq):=⟨_,U,O U,O U⟩;have S0:=O S;have HN:=O hn;have HL:=O hl;have KM:=O<|H.new w (EF l) 183;have b1:=Ep w (EJ (EF l) 183);have S1:=O<|S0.out.G b1;have MM:=O<|Ex.Ew (lo:=lo) (hi:=hi) b1;obtain⟨v1,hv1⟩:=En (l.getD 1 0);have Oo:Ea (∀W g,H W g (EF l) 183->W.cell? ⟨g,1,Z⟩=D (E I v1)):=O (fun W g K=>by rw[hv1];exact Za K 1 X X);try rw[<-hv1]
 replace hv1:=O hv1;clear S hn hl S0;obtain⟨mv,hmv⟩:=En (EF l);rw[<-hmv] at KM b1 S1 MM Oo⊢;clear hmv;have CA:Ea (∀W,Jr W lo gq c.q (pn g 48)->Ef EU 137 #[EZ Iq,Y (D ⟨gq,0,Z⟩),E I k] W _):=O (fun W q=>Vz);obtain⟨PQ,hPQ⟩: ∃PQ:Array V->Int->Prop,PQ=fun rv cd=> ∃t2:EG,t2.a=EZ rv/\rv.size=8/\rv.all (·.oneCell')=u/\s_ c.tok c.q k t2 cd:=⟨_,U⟩;have qt:Ea (∀(t2:EG) (rv:Array V) (cd:Int),t2.a=EZ rv->rv.size=8->rv.all (·.oneCell')=u->s_ c.tok c.q k t2 cd->PQ rv cd):=O (fun t2 rv cd h1 h2 h3 h4=>Ca);have qu:Ea (∀rv cd,PQ rv cd->rv.size=8/\rv.all (·.oneCell')=u):=O (fun rv cd h=>Cb);replace hPQ:=O hPQ;clear ZL Uw;go_enter Tryz.func134,Tryz.ntmps134;go_wp2_with fail;clear b1;generalize w.alloc (EJ mv 183)=w1 at*;obtain⟨gm,hgm⟩:=En w.heap.size;rw[<-hgm] at KM⊢;clear hgm;obtain⟨n0,hn0⟩:=En w1.heap.size;have X0:=O (show lo<=n0/\hi<=n0/\w.heap.size<=n0 from nM);refine iF (Ph:=fun p wq=>n0<=wq.heap.size/\(match p with|0=>(E_ lo hi g gc gq gt gs c ns rs wq/\Ex lo hi w wq/\H wq gm mv 183)|_=>(∃L':List One,E_ lo hi g gc gq gt gs {c with q:=L'} ns rs wq/\Ex lo hi w wq/\H wq gm mv 183))) (Rel:=Oa) (Ij:=lC) [kp gs 0,kp gs 0,kp gs 0,kp gc 0,kp gc 0,kp gc 56,kq (EZ Iq),kp gs 0,kp gs 0,kp gs 0,kp gc 0,kp gc 0,kp gc 64,kp gq 0,kq (E I k),.val (fun v=> ∃(rv:Array V) (cd:Int),PQ rv cd/\v=Et #[EZ rv,E I cd]),.val (fun v=> ∃(rv:Array V) (cd:Int),PQ rv cd/\v=Et #[EZ rv,E I cd]),.bC [16,17] (fun x=> ∃(rv:Array V) (cd:Int),PQ rv cd/\x 16=Et #[EZ rv,E I cd]/\x 17=EZ rv) (fun x y hq h=>by simpa only[hq 16 Eh,hq 17 Eh] using h),.bC [16,18] (fun x=> ∃(rv:Array V) (cd:Int),PQ rv cd/\x 16=Et #[EZ rv,E I cd]/\x 18=E I cd) (fun x y hq h=>by simpa only[hq 16 Eh,hq 18 Eh] using h),.dep (aO n0) (fun v w w' h hr=>h.G hr) (fun v w w' h hr=>h.iG hr),.tie [19,17] (fun x w=> ∃(b:Nat) (rv:Array V),x 19=Y (D ⟨b,0,Z⟩)/\x 17=EZ rv/\n0<=b/\H w b rv 109) (fun x w w' h hr=>Cc) (fun x y w hq h=>by rw[hq 19 Eh,hq 17 Eh] at h;exact h),.bC [18,21] (fun x=>x 21=x 18) (fun x y hq h=>by simpa only[hq 18 Eh,hq 21 Eh] using h)] [B,B,B,B,B,B,B,B,B,B,B,B,B,B,B,B,B,B,B,B,u,B] U [[],[],[],[],[],[],[],[],[],[],[],[],[],[],[],[],[],[16,17],[16,18],[],[19,17],[18,21]] U [15,20] [(0,0),(0,0),(0,0),(0,0),(0,0),(0,0),(0,0),(0,0),(0,0),(0,0),(0,0),(0,0),(0,0),(0,0),(0,0),(0,0),(1,1),(1,1),(1,2),(0,1),(1,1),(2,2)] Ed Ed Ed Ed Ed Ed U_ Ed ?hPh ?h0 ?hstep ?hend
 case hPh=>
  intro p w2 w3 h hr;match p,h with
  |0,h=>exact⟨EA h.1 (XJ hr),h.2.1.G hr,h.2.2.1.trans (Ex.Ew hr),H.G h.2.2.2 hr⟩
  |_+1,h=> obtain⟨nn,L',s,m,km⟩:=h;exact⟨EA nn (XJ hr),L',s.G hr,m.trans (Ex.Ew hr),H.G km hr⟩
 case h0=> exact Eoc
 case hstep=>
  refine⟨?_,?_,?_,?_,?_,?_,?_,?_,?_,?_,?_,?_,?_,?_,?_,?_,?_,?_,?_,?_,?_,?_,trivial⟩;all_goals first|intro xv wq p hlo hhi hp hd|intro xv wq hp hd
  all_goals simp only[EL,In,Ip,Ig,Ih]
  ·exact Elu
  ·exact ElN
  ·exact ElM
  ·exact Elw
  ·exact ElL
  ·exact El8
  ·exact EpY
  ·exact Elu
  ·exact Emn
  ·exact Emm
  ·exact EmE
  ·exact Emi
  ·exact Emh
  ·exact EnJ
  ·exact Elu
  ·have d6:xv 6=EZ Iq:=hd.at 6 rfl;have d13:xv 13=Y (D ⟨gq,0,Z⟩):=hd.at 13 rfl;have d14:xv 14=E I k:=hd.at 14 rfl;refine JR (f:=137) (args:= #[xv 6,xv 13,xv 14]) (Ei U) Ez ?_;rw[d6,d13,d14];refine(CA.out wq hp.2.1.core.Z2).mono fun e w2 h=> ?_;obtain⟨⟨t2,cd,L2,he,hf,sq,q2⟩,m2⟩:=h;obtain⟨rv,IH,hs,ho⟩:=ZH t2;exact⟨_,he,⟨m2.iG,EA hp.1 m2.bel.size,L2,hp.2.1.gH m2 L2 q2 (hp.2.1.core.ok.sub sq),hp.2.2.1.trans (m2.jB hi),m2.Ek hp.2.2.2 Eb Eb⟩,rv,cd,qt.out t2 rv cd IH hs ho hf,congrArg (fun v=>Value.tuple #[v,E I cd]) IH⟩
  ·obtain rfl:p=1:=X;obtain⟨rv,cd,hpq,e15⟩: ∃(rv:Array V) (cd:Int),PQ rv cd/\xv 15=Et #[EZ rv,E I cd]:=hd.at 15 rfl;exact Es Lm ⟨rv,cd,hpq,U⟩
  ·obtain rfl:p=1:=X;exact Enb
  ·exact Enb
  ·exact EmD
  ·obtain⟨b,d0,eA,lb,h8,kb⟩:aO n0 (xv 19) wq:=hd.at 19 rfl;have nh:=X0.out;obtain⟨rv,cd,hpq,-,e17⟩: ∃(rv:Array V) (cd:Int),PQ rv cd/\xv 16=Et #[EZ rv,E I cd]/\xv 17=EZ rv:=hd.at 17 rfl;have hsz:=qu.out _ _ hpq;obtain⟨nn,L',s,m,km⟩:=hp;refine db EV (Ei U) ⟨U,eA,e17⟩ kb h8 hsz.1 hsz.2 ⟨tX kb hsz.1,?_⟩ ⟨b,rv,eA,e17,lb,kb.setRow _⟩;exact EoZ
  ·obtain rfl:p=2:=X;obtain⟨rv,cd,hpq,-,e18⟩: ∃(rv:Array V) (cd:Int),PQ rv cd/\xv 16=Et #[EZ rv,E I cd]/\xv 18=E I cd:=hd.at 18 rfl;exact Es (by simp[go_sem,e18]) (e18.symm)
 case hend=>
  intro xv W6 hp hd;clear S1 MM KM;simp only[EL,In,Ip,Ig,Ih];obtain⟨rv,cd,hpq,eM,e17⟩: ∃(rv:Array V) (cd:Int),PQ rv cd/\xv 16=Et #[EZ rv,E I cd]/\xv 17=EZ rv:=hd 17 Eb;obtain⟨b,iH,eA,eE,lb,kb⟩: ∃(b:Nat) (rv:Array V),xv 19=Y (D ⟨b,0,Z⟩)/\xv 17=EZ rv/\n0<=b/\H W6 b rv 109:=hd 20 Eb;have qx:iH=rv:=by rw[eE] at e17;injection e17
  subst qx;have a21:xv 21=E I cd:=by have h1:xv 21=xv 18:=hd 21 Eb;obtain⟨Cg,Lo,-,f1,f2⟩: ∃(rv:Array V) (cd:Int),PQ rv cd/\xv 16=Et #[EZ rv,E I cd]/\xv 18=E I cd:=hd 18 Eb;exact Eno
  obtain⟨-,L',s6,m6,dL⟩:=hp;have S1:=O s6;have MM:=O m6;have KM:=O dL;have KB:=O kb;rw[eA,a21];rw[hPQ.out] at hpq;obtain⟨t2,IH,hs,ho,hf⟩:=hpq;have Uv:=O IH;have RS:=O hs;have HF:=O hf;clear s6 m6 dL kb hd eA a21 CA IH hs ho hf eM eE;have c1:=Oo.out _ _ KM.out;by_cases hcd:cd=0
  ·subst hcd
   have HT2:Ea (t2.ok/\t2.e=c.tok.e+1/\t2.o= -1):=O (by
    rcases HF.out with⟨a1,-⟩|⟨-,-,-,x,-,a2⟩;·exact absurd U a1
    ·exact⟨(gK S1.out.core.ok.tok a2).1,(gK S1.out.core.ok.tok a2).2.1,(gK S1.out.core.ok.tok a2).2.2.2⟩)
   go_wp2_with (with_reducible refine wL EV KB ?_ (hn:=RS.out));rw[<-Uv.out];refine(nK lo hi g gc gq gt gs _ ns rs t2 2 v1 _ S1.out HT2.out.1 Ob JS).mono ?_;rintro e7 w7 ⟨rfl,⟨L2,m7,XS,sq,s7⟩,Xl⟩;replace KM:=O<|Xl.Ek KM.out Eb Eb;replace S1:=O s7;replace MM:=O<|MM.out.trans Xl;have nN:=O XS;clear s7 Xl sq XS c1;have c1:=Oo.out _ _ KM.out;go_wp2_with fail;refine(jz lo hi g gc gq gt gs _ (ns+m7) _ k v1 _ S1.out Ll).mono ?_;rintro e8 w8 ⟨rfl,s8,m8⟩;have S8:=O s8;replace MM:=O<|MM.out.trans m8;clear s8 m8;go_wp2_with fail;go_end0;exact⟨U,⟨_,m7+1,_,qp,S8.out,L2,.inr ⟨t2,HT2.out.1,HT2.out.2.1,HT2.out.2.2,U,U⟩⟩,MM.out⟩
  ·exact Emd
theorem Edr(a b c d e s:Int): -1<=place a b c d e s/\place a b c d e s<=4:=by
 unfold place;repeat' split
 all_goals omega
def Lp(t:EG)(k:Int)(t2:EG)(hw cd:Int):Prop:=cd≠0\/(cd=0/\hw=3/\t.Uq k=(t2,0))\/(cd=0/\hw=0/\t2=t)
theorem Eds{l:List Int}(K:H W gm (EF l) 183):W.cell? ⟨gm,7,Z⟩=D (Ec (l.getD 7 0==1)):=by rw[H.cell K,Zs l 7 X,if_pos U]
theorem Edt(lo hi:Nat)(g:Nat->V)(gc gq gt gs:Nat)(c:EB)(ns:Nat)(rs:List Rec)(l:List Int)(k:Int)(w:M)(S:E_ lo hi g gc gq gt gs c ns rs w)(hk:1<=k/\k<=3)(hn:ns<800000)(hl:rs.length<800000): Ef EU 130 #[Y (D ⟨gs,0,Z⟩),E I k,EZ (EF l)] w fun e w'=>e=Eg (Et #[])/\(∃c' m new,m<=3/\E_ lo hi g gc gq gt gs c' (ns+m) (rs++new) w'/\ ∃L',((∃cd,c'={c with q:=L'}/\new=[⟨7,k,l.getD 1 0,c.tok.e,cd,0⟩])\/(∃t2,t2.ok/\t2.e=c.tok.e+1/\t2.o= -1/\c'={c with tok:=t2,q:=L'}/\new=[⟨8,t2.h,l.getD 1 0,t2.e,0,3⟩])\/(c'={c with q:=L'}/\new=[⟨10,k,l.getD 1 0,c.tok.e,0,0⟩])))/\Ex lo hi w w':=by
 obtain⟨pa,hpa,VA⟩:=S.core.ZJ.fit 45 X X;have Edu:(pa:Int)<=1000:=by have:=VA.2.1;unfold U2 at this;simp at this;omega
 have ZL:=fun W q b=>EdU lo gq c.q (pn g 48) g pa hpa (fun i hi=>S.core.ZJ.int i X (.inl hi)) c.tok S.core.ok.tok k b W S.core.lq q S.core.ok.q (fun h=>S.core.ok.room hk h)
 have VB:Ea (∀(wq:M) (t2:EG) (hw cd:Int) (w2:M),c.ok->Vp lo gq c.q (pn g 48) c.tok k (bf g k) (max pa 0) t2 hw cd w2-> ∃L2,Jr w2 lo gq L2 (pn g 48)/\({c with q:=L2}:EB).ok/\Lp c.tok k t2 hw cd):=O (fun wq t2 hw cd w2 ok h=>by
  rcases h with⟨h1,h2,h3,h4⟩|⟨h1,h2,h3,L',h4,h5⟩|⟨h1,h2,h3,h4,L',came,h5,h6,h7⟩;·exact⟨c.q,h4,ok,.inl h1⟩
  ·exact⟨L',h5,ok.sub h4,.inr (.inl ⟨h1,h2,h3⟩)⟩
  ·refine⟨L',h7,ok.push h6 ⟨⟨by show _<=k;omega,by show k<=_;omega⟩,?_,⟨ZB _,by show(0:Int)<=1000;omega⟩,⟨by show(0:Int)<=max (pa:Int) 0;omega,by show max (pa:Int) 0<=1000;omega⟩,h5⟩ hk h4,.inr (.inr ⟨h1,h2,h3⟩)⟩;have:=Edr (pn g 0) (pn g 1) (pn g 2) (pn g 3) (pn g 4) k;exact⟨by show _<=bf g k;unfold bf;omega,by show bf g k<=_;unfold bf;omega⟩)
 obtain⟨b7,qy⟩:=En ((l.getD 7 0==1));have VC:Ea (∀W g,H W g (EF l) 183->W.cell? ⟨g,7,Z⟩=D (Ec b7)):=O (fun W g K=>by rw[qy];exact Eds K);replace ZL:=fun W q=>ZL W q b7;clear qy hpa VA Edu;obtain⟨Iq,Uw,Xk,Zb⟩: ∃Iq,c.tok.a=EZ Iq/\Ea (Iq.size=8)/\Ea (c.tok.v.toArray=Iq):=⟨_,U,O U,O U⟩;obtain⟨pv,hpv,wn,Lq⟩: ∃pv,EK 56 g=pv/\Ea (pv.size=56)/\Ea ((EK 56 g).toList.toArray=pv):=⟨_,U,O ky,O Eh⟩;have S0:=O S;have HN:=O hn;have HL:=O hl;have KM:=O<|H.new w (EF l) 183;have b1:=Ep w (EJ (EF l) 183);have S1:=O<|S0.out.G b1;have MM:=O<|Ex.Ew (lo:=lo) (hi:=hi) b1;obtain⟨v1,hv1⟩:=En (l.getD 1 0);have Oo:Ea (∀W g,H W g (EF l) 183->W.cell? ⟨g,1,Z⟩=D (E I v1)):=O (fun W g K=>by rw[hv1];exact Za K 1 X X);try rw[<-hv1]
 replace hv1:=O hv1;clear S hn hl S0;obtain⟨mv,hmv⟩:=En (EF l);rw[<-hmv] at KM b1 S1 MM Oo VC⊢;clear hmv;have CA:Ea (∀W,Jr W lo gq c.q (pn g 48)->Ef EU 177 #[EZ pv,EZ Iq,Y (D ⟨gq,0,Z⟩),E I k,Ec b7] W _):=O (fun W q=>VD);obtain⟨PQ,hPQ⟩: ∃PQ:Array V->Int->Int->Prop,PQ=fun rv hw cd=> ∃t2:EG,t2.a=EZ rv/\rv.size=8/\rv.all (·.oneCell')=u/\Lp c.tok k t2 hw cd:=⟨_,U⟩;have qt:Ea (∀(t2:EG) (rv:Array V) (hw cd:Int),t2.a=EZ rv->rv.size=8->rv.all (·.oneCell')=u->Lp c.tok k t2 hw cd->PQ rv hw cd):=O (fun t2 rv hw cd h1 h2 h3 h4=>Ca);have qu:Ea (∀rv hw cd,PQ rv hw cd->rv.size=8/\rv.all (·.oneCell')=u):=O (fun rv hw cd h=>Cb);replace hPQ:=O hPQ;clear ZL Uw hpv;go_enter Tryz.func130,Tryz.ntmps130;go_wp2_with fail;clear b1;generalize w.alloc (EJ mv 183)=w1 at*;obtain⟨gm,hgm⟩:=En w.heap.size;rw[<-hgm] at KM⊢;clear hgm;obtain⟨n0,hn0⟩:=En w1.heap.size;have X0:=O (show lo<=n0/\hi<=n0/\w.heap.size<=n0 from nM);refine iF (Ph:=fun p wq=>n0<=wq.heap.size/\(match p with|0=>(E_ lo hi g gc gq gt gs c ns rs wq/\Ex lo hi w wq/\H wq gm mv 183)|_=>(∃L':List One,E_ lo hi g gc gq gt gs {c with q:=L'} ns rs wq/\Ex lo hi w wq/\H wq gm mv 183))) (Rel:=Oa) (Ij:=lC) [.val (fun v=>v=Y (D ⟨gs,0,Z⟩)),.val (fun v=>v=Y (D ⟨gs,0,Z⟩)),.val (fun v=>v=Y (D ⟨gs,0,Z⟩)),.val (fun v=>v=Y (D ⟨gc,0,Z⟩)),.val (fun v=>v=Y (D ⟨gc,0,Z⟩)),.val (fun v=>v=Y (D ⟨gc,0,Z⟩)),.val (fun v=>v=EZ pv),.val (fun v=>v=Y (D ⟨gs,0,Z⟩)),.val (fun v=>v=Y (D ⟨gs,0,Z⟩)),.val (fun v=>v=Y (D ⟨gs,0,Z⟩)),.val (fun v=>v=Y (D ⟨gc,0,Z⟩)),.val (fun v=>v=Y (D ⟨gc,0,Z⟩)),.val (fun v=>v=Y (D ⟨gc,56,Z⟩)),.val (fun v=>v=EZ Iq),.val (fun v=>v=Y (D ⟨gs,0,Z⟩)),.val (fun v=>v=Y (D ⟨gs,0,Z⟩)),.val (fun v=>v=Y (D ⟨gs,0,Z⟩)),.val (fun v=>v=Y (D ⟨gc,0,Z⟩)),.val (fun v=>v=Y (D ⟨gc,0,Z⟩)),.val (fun v=>v=Y (D ⟨gc,64,Z⟩)),.val (fun v=>v=Y (D ⟨gq,0,Z⟩)),.val (fun v=>v=E I k),.val (fun v=>v=Y (D ⟨gm,7,Z⟩)),.val (fun v=>v=Ec b7),.val (fun v=> ∃(rv:Array V) (hw:Int) (cd:Int),PQ rv hw cd/\v=Et #[EZ rv,E I hw,E I cd]),.val (fun v=> ∃(rv:Array V) (hw:Int) (cd:Int),PQ rv hw cd/\v=Et #[EZ rv,E I hw,E I cd]),.bC [25,26] (fun x=> ∃(rv:Array V) (hw:Int) (cd:Int),PQ rv hw cd/\x 25=Et #[EZ rv,E I hw,E I cd]/\x 26=EZ rv) (fun x y hq h=>by simpa only[hq 25 Eh,hq 26 Eh] using h),.bC [25,27] (fun x=> ∃(rv:Array V) (hw:Int) (cd:Int),PQ rv hw cd/\x 25=Et #[EZ rv,E I hw,E I cd]/\x 27=E I hw) (fun x y hq h=>by simpa only[hq 25 Eh,hq 27 Eh] using h),.bC [25,28] (fun x=> ∃(rv:Array V) (hw:Int) (cd:Int),PQ rv hw cd/\x 25=Et #[EZ rv,E I hw,E I cd]/\x 28=E I cd) (fun x y hq h=>by simpa only[hq 25 Eh,hq 28 Eh] using h),.dep (aO n0) (fun v w w' h hr=>h.G hr) (fun v w w' h hr=>h.iG hr),.tie [29,26] (fun x w=> ∃(b:Nat) (rv:Array V),x 29=Y (D ⟨b,0,Z⟩)/\x 26=EZ rv/\n0<=b/\H w b rv 109) (fun x w w' h hr=>Cc) (fun x y w hq h=>by rw[hq 29 Eh,hq 26 Eh] at h;exact h),.bC [27,31] (fun x=>x 31=x 27) (fun x y hq h=>by simpa only[hq 27 Eh,hq 31 Eh] using h),.bC [28,32] (fun x=>x 32=x 28) (fun x y hq h=>by simpa only[hq 28 Eh,hq 32 Eh] using h)] [B,B,B,B,B,B,B,B,B,B,B,B,B,B,B,B,B,B,B,B,B,B,B,B,B,B,B,B,B,B,u,B,B] U [[],[],[],[],[],[],[],[],[],[],[],[],[],[],[],[],[],[],[],[],[],[],[],[],[],[],[25,26],[25,27],[25,28],[],[29,26],[27,31],[28,32]] U [24,30] [(0,0),(0,0),(0,0),(0,0),(0,0),(0,0),(0,0),(0,0),(0,0),(0,0),(0,0),(0,0),(0,0),(0,0),(0,0),(0,0),(0,0),(0,0),(0,0),(0,0),(0,0),(0,0),(0,0),(0,0),(0,0),(1,1),(1,1),(1,2),(1,2),(0,1),(1,1),(2,2),(2,2)] Ed Ed Ed Ed Ed Ed U_ Ed ?hPh ?h0 ?hstep ?hend
 case hPh=>
  intro p w2 w3 h hr;match p,h with
  |0,h=>exact⟨EA h.1 (XJ hr),h.2.1.G hr,h.2.2.1.trans (Ex.Ew hr),H.G h.2.2.2 hr⟩
  |_+1,h=> obtain⟨nn,L',s,m,km⟩:=h;exact⟨EA nn (XJ hr),L',s.G hr,m.trans (Ex.Ew hr),H.G km hr⟩
 case h0=> exact Eoc
 case hstep=>
  refine⟨?_,?_,?_,?_,?_,?_,?_,?_,?_,?_,?_,?_,?_,?_,?_,?_,?_,?_,?_,?_,?_,?_,?_,?_,?_,?_,?_,?_,?_,?_,?_,?_,?_,trivial⟩;all_goals first|intro xv wq p hlo hhi hp hd|intro xv wq hp hd
  all_goals simp only[EL,In,Ip,Ig,Ih]
  ·exact Elu
  ·exact ElN
  ·exact ElM
  ·exact Elw
  ·exact ElL
  ·exact El8
  ·exact EmW
  ·exact Elu
  ·exact Emn
  ·exact Emm
  ·exact EmE
  ·exact Emi
  ·exact Emh
  ·exact EmH
  ·exact Elu
  ·exact EoA
  ·exact Eoz
  ·exact Enm
  ·exact Enh
  ·exact Eoy
  ·exact EnI
  ·exact Elu
  ·exact Elu
  ·obtain rfl:p=0:=X;have d22:xv 22=Y (D ⟨gm,7,Z⟩):=hd.at 22 rfl;have cc:wq.cell? ⟨gm,7,Z⟩=D (Ec b7):=VC.out _ _ hp.2.2.2;exact Es Lv U
  ·have d6:xv 6=EZ pv:=hd.at 6 rfl;have d13:xv 13=EZ Iq:=hd.at 13 rfl;have d20:xv 20=Y (D ⟨gq,0,Z⟩):=hd.at 20 rfl;have d21:xv 21=E I k:=hd.at 21 rfl;have d23:xv 23=Ec b7:=hd.at 23 rfl;refine JR (f:=177) (args:= #[xv 6,xv 13,xv 20,xv 21,xv 23]) (Ei U) Ez ?_;rw[d6,d13,d20,d21,d23];refine(CA.out wq hp.2.1.core.Z2).mono fun e w2 h=> ?_;obtain⟨⟨t2,hw,cd,he,hf⟩,m2⟩:=h;obtain⟨rv,IH,hs,ho⟩:=ZH t2;obtain⟨L2,q2,okq,hpq⟩:=VB.out wq t2 hw cd w2 hp.2.1.core.ok hf;exact⟨_,he,⟨m2.iG,EA hp.1 m2.bel.size,L2,hp.2.1.gH m2 L2 q2 okq,hp.2.2.1.trans (m2.jB hi),m2.Ek hp.2.2.2 Eb Eb⟩,rv,hw,cd,qt.out t2 rv hw cd IH hs ho hpq,congrArg (fun v=>Value.tuple #[v,E I hw,E I cd]) IH⟩
  ·obtain rfl:p=1:=X;obtain⟨rv,hw,cd,hpq,e24⟩: ∃(rv:Array V) (hw:Int) (cd:Int),PQ rv hw cd/\xv 24=Et #[EZ rv,E I hw,E I cd]:=hd.at 24 rfl;exact Es (by simp[go_sem,e24]) ⟨rv,hw,cd,hpq,U⟩
  ·obtain rfl:p=1:=X;exact Ema
  ·exact Ema
  ·exact Ema
  ·exact EmD
  ·obtain⟨b,d0,eA,lb,h8,kb⟩:aO n0 (xv 29) wq:=hd.at 29 rfl;have nh:=X0.out;obtain⟨rv,hw,cd,hpq,-,e26⟩: ∃(rv:Array V) (hw:Int) (cd:Int),PQ rv hw cd/\xv 25=Et #[EZ rv,E I hw,E I cd]/\xv 26=EZ rv:=hd.at 26 rfl;have hsz:=qu.out _ _ _ hpq;obtain⟨nn,L',s,m,km⟩:=hp;refine db EV (Ei U) ⟨U,eA,e26⟩ kb h8 hsz.1 hsz.2 ⟨tX kb hsz.1,?_⟩ ⟨b,rv,eA,e26,lb,kb.setRow _⟩;exact EoZ
  ·obtain rfl:p=2:=X;obtain⟨rv,hw,cd,hpq,-,e27⟩: ∃(rv:Array V) (hw:Int) (cd:Int),PQ rv hw cd/\xv 25=Et #[EZ rv,E I hw,E I cd]/\xv 27=E I hw:=hd.at 27 rfl;exact Es (by simp[go_sem,e27]) (e27.symm)
  ·obtain rfl:p=2:=X;obtain⟨rv,hw,cd,hpq,-,e28⟩: ∃(rv:Array V) (hw:Int) (cd:Int),PQ rv hw cd/\xv 25=Et #[EZ rv,E I hw,E I cd]/\xv 28=E I cd:=hd.at 28 rfl;exact Es (by simp[go_sem,e28]) (e28.symm)
 case hend=>
  intro xv W6 hp hd;clear S1 MM KM;simp only[EL,In,Ip,Ig,Ih];obtain⟨rv,hw,cd,hpq,eM,e26⟩: ∃(rv:Array V) (hw:Int) (cd:Int),PQ rv hw cd/\xv 25=Et #[EZ rv,E I hw,E I cd]/\xv 26=EZ rv:=hd 26 Eb;obtain⟨b,iH,eA,eE,lb,kb⟩: ∃(b:Nat) (rv:Array V),xv 29=Y (D ⟨b,0,Z⟩)/\xv 26=EZ rv/\n0<=b/\H W6 b rv 109:=hd 30 Eb;have qx:iH=rv:=by rw[eE] at e26;injection e26
  subst qx;have a31:xv 31=E I hw:=by have h1:xv 31=xv 27:=hd 31 Eb;obtain⟨Cg,hw9,Lo,-,f1,f2⟩: ∃(rv:Array V) (hw:Int) (cd:Int),PQ rv hw cd/\xv 25=Et #[EZ rv,E I hw,E I cd]/\xv 27=E I hw:=hd 27 Eb;exact Eno
  have a32:xv 32=E I cd:=by have h1:xv 32=xv 28:=hd 32 Eb;obtain⟨Cg,hw9,Lo,-,f1,f2⟩: ∃(rv:Array V) (hw:Int) (cd:Int),PQ rv hw cd/\xv 25=Et #[EZ rv,E I hw,E I cd]/\xv 28=E I cd:=hd 28 Eb;exact Eno
  obtain⟨-,L',s6,m6,dL⟩:=hp;have S1:=O s6;have MM:=O m6;have KM:=O dL;have KB:=O kb;rw[eA,a31,a32];rw[hPQ.out] at hpq;obtain⟨t2,IH,hs,ho,hf⟩:=hpq;have Uv:=O IH;have RS:=O hs;have RO:=O ho;clear s6 m6 dL kb hd eA a31 a32 CA IH hs ho eM eE VB;have c1:=Oo.out _ _ KM.out;by_cases hcd:cd=0
  ·subst hcd;rcases hf with hf|⟨-,rfl,hf⟩|⟨-,rfl,hf⟩;·exact absurd U hf
   ·have HT2:Ea (t2.ok/\t2.e=c.tok.e+1/\t2.o= -1):=O ⟨(gK S1.out.core.ok.tok hf).1,(gK S1.out.core.ok.tok hf).2.1,(gK S1.out.core.ok.tok hf).2.2.2⟩;clear hf;go_wp2_with (with_reducible refine wL EV KB ?_ (hn:=RS.out));rw[<-Uv.out];refine(nK lo hi g gc gq gt gs _ ns rs t2 3 v1 _ S1.out HT2.out.1 Ob JS).mono ?_;rintro e7 w7 ⟨rfl,⟨L2,m7,XS,sq,s7⟩,Xl⟩;replace KM:=O<|Xl.Ek KM.out Eb Eb;replace S1:=O s7;replace MM:=O<|MM.out.trans Xl;have nN:=O XS;clear s7 Xl sq XS c1;have c1:=Oo.out _ _ KM.out;go_wp2_with fail;refine(jz lo hi g gc gq gt gs _ (ns+m7) _ k v1 _ S1.out Ll).mono ?_;rintro e8 w8 ⟨rfl,s8,m8⟩;have S8:=O s8;replace MM:=O<|MM.out.trans m8;clear s8 m8;go_wp2_with fail;go_end0;exact⟨U,⟨_,m7+1,_,qp,S8.out,L2,.inr (.inl ⟨t2,HT2.out.1,HT2.out.2.1,HT2.out.2.2,U,U⟩)⟩,MM.out⟩
   ·subst hf;have aJ:Ea (iH.toList=c.tok.v):=O (by have h:=Uv.out;unfold EG.a at h;injection h with h;rw[<-h];rfl);go_wp2_with fail;have y0: ∀y:Ext W6,(Ey W6 y).cell? ⟨gs,0,Z⟩=D (Y (D ⟨gc,0,Z⟩)):=fun y=>(S1.out.G (ED y)).IC;refine J5 7 Ed Ed ?_;simp only[Ir,Im,IL,IG]
    repeat (first
     |go_big_quiet_skip
     |(go_big_quiet_want
       first
        |(refine Ub (T:=109) (g:=b) EV _ rfl rfl KB ?_ ?_;(·exact RS.out);go_simp;go_big_quiet_on)
        |(go_big_quiet_op
          first
           |go_big_quiet_on
           |go_big_quiet_call (fail))))
    refine IM ?_;intro _ hw';obtain⟨y9,rfl⟩:=hw';have Em:=ED y9;replace KM:=EQ KM Em;replace S1:=O<|S1.out.G Em;replace MM:=O<|MM.out.trans (Ex.Ew Em);clear y0 Em c1;generalize Ey W6 y9=w7 at*;have TH:=O<|cV S1.out.core 1 rfl 8 XV;go_wp2_with ((with_reducible refine JE 109 ?_);(with_reducible refine OH U 109 _ _ U gc 56 iH ?_ ?_ ?_ ?_ ?_ ?_);(·rfl);(·rfl);(·rw[RS.out];exact TH.out);(·rw[RS.out];exact EV.2);(·exact RO.out);refine Ev.mk ?_);apply Eo;rw[aJ.out];have S4:=S1.out.aA c.tok S1.out.core.ok;obtain⟨d0,d1,d2,hd,KG,-⟩:=S1.out.core.Ek;replace KM:=O<|(Jq (g:=gc) c.tok.v 56 w7).Ek KM.out (E5 KM.out KG Eb);replace S1:=O S4.1;replace MM:=O<|MM.out.trans S4.2;clear S4 TH KG;generalize w7.setCells gc 56 c.tok.v=w8 at*;have c1:=Oo.out _ _ KM.out;go_wp2_with fail;refine(ZC lo hi g gc gq gt gs _ ns rs 10 k v1 0 0 _ S1.out JS).mono ?_;rintro e9 w9 ⟨rfl,s9,m9⟩;replace KM:=O<|m9.Ek KM.out Eb Eb;replace S1:=O s9;replace MM:=O<|MM.out.trans m9;clear s9 m9 c1;have c1:=Oo.out _ _ KM.out;go_wp2_with fail;refine(jz lo hi g gc gq gt gs _ ns _ k v1 _ S1.out Ob).mono ?_;rintro e8 w8 ⟨rfl,s8,m8⟩;have S8:=O s8;replace MM:=O<|MM.out.trans m8;clear s8 m8;go_wp2_with fail;go_end0;exact⟨U,⟨_,1,_,X,S8.out,L',.inr (.inr ⟨U,U⟩)⟩,MM.out⟩
  ·exact Emd
theorem Edx(t:EG)(k:Int):(t.oW k=(t,28))\/(0<=t.o/\t.o=k/\t.oW k=(t.end_,0)):=by
 unfold EG.oW;split;·exact .inl U
 ·exact .inr ⟨X,X,U⟩
theorem VF(h:t.ok):t.end_.ok:=⟨h.h,h.e,fp,fp,fp,h.la,h.lm,fp⟩
theorem Edy(lo hi:Nat)(g:Nat->V)(gc gq gt gs:Nat)(c:EB)(ns:Nat)(rs:List Rec)(l:List Int)(k:Int)(w:M)(S:E_ lo hi g gc gq gt gs c ns rs w)(hn:ns<800000)(hl:rs.length<800000): Ef EU 133 #[Y (D ⟨gs,0,Z⟩),E I k,EZ (EF l)] w fun e w'=>e=Eg (Et #[])/\(∃c' m new,m<=3/\E_ lo hi g gc gq gt gs c' (ns+m) (rs++new) w'/\((∃cd,c'=c/\new=[⟨7,k,l.getD 1 0,c.tok.e,cd,0⟩])\/(0<=c.tok.o/\c.tok.o=k/\c'={c with tok:=c.tok.end_}/\new=[⟨11,k,l.getD 1 0,c.tok.e,0,0⟩])))/\Ex lo hi w w':=by
 have VG:=fun W=>EJL c.tok k W;obtain⟨Iq,Uw,Xk,Zb⟩: ∃Iq,c.tok.a=EZ Iq/\Ea (Iq.size=8)/\Ea (c.tok.v.toArray=Iq):=⟨_,U,O U,O U⟩;have S0:=O S;have HN:=O hn;have HL:=O hl;have KM:=O<|H.new w (EF l) 183;have b1:=Ep w (EJ (EF l) 183);have S1:=O<|S0.out.G b1;have MM:=O<|Ex.Ew (lo:=lo) (hi:=hi) b1;obtain⟨v1,hv1⟩:=En (l.getD 1 0);have Oo:Ea (∀W g,H W g (EF l) 183->W.cell? ⟨g,1,Z⟩=D (E I v1)):=O (fun W g K=>by rw[hv1];exact Za K 1 X X);try rw[<-hv1]
 replace hv1:=O hv1;clear S hn hl S0;obtain⟨mv,hmv⟩:=En (EF l);rw[<-hmv] at KM b1 S1 MM Oo⊢;clear hmv;go_enter Tryz.func133,Tryz.ntmps133;go_wp2_with (with_reducible refine I7 12 ?_);apply Eo;clear b1;generalize w.alloc (EJ mv 183)=w1 at*;obtain⟨gm,hgm⟩:=En w.heap.size;rw[<-hgm] at KM⊢;clear hgm;have z0:=S1.out.IC;obtain⟨big,KB,UJ⟩:=bA S1.out.core;have KB:=O KB;have dH:Ea (big.extract 56 (56+8)=Iq):=O<|(UJ 1 c.tok.v U).trans Zb.out;have CD:=O VG;rw[Uw] at CD;clear UJ VG Uw;go_wp2_with (with_reducible refine wM (off:=56) (cs:=Iq) EV KB ?_ (hn:=Xk.out) (he:=dH.out));refine(CD.out _).mono ?_;rintro e6 w6 ⟨rfl,b6⟩;replace KM:=EQ KM b6;replace S1:=O<|S1.out.G b6;replace MM:=O<|MM.out.trans (Ex.Ew b6);clear b6 z0 KB CD;cases hr:c.tok.oW k with|mk t cd=>
 have HR:=O hr;rw[show(t,cd).fst.a=t.a from rfl];clear hr;obtain⟨tv,Ia,TS,TO,aJ,gF⟩: ∃tv,t.a=EZ tv/\Ea (tv.size=8)/\Ea (tv.all (·.oneCell')=u)/\Ea (tv.toList=t.v)/\Ea (∀W g,H W g tv 109->W.cell? ⟨g,0,Z⟩=D (E I t.h)/\W.cell? ⟨g,1,Z⟩=D (E I t.e)):=⟨_,U,O U,O (f9 _ _ _ _ _ _ _ _),O U,O fun W g K=>⟨(H.cell K 0).trans U,(H.cell K 1).trans U⟩⟩;rw[Ia];go_wp2_with (with_reducible refine fU 109 ?_);apply Eo;generalize hW:UN _ _=w7 at*;have KT:Ea (H w7 (w6.heap.size) #[E I 0,E I 0,E I 0,E I 0,E I 0,E I 0,E I 0,Ec B] 109):=O (by subst hW;repeat (first|exact H.new _ _ _|exact H.new' _ _ _ Eh|refine H.alloc ?_ _));have b7:Ea (El w6 w7):=O Vw;clear hW;obtain⟨gk,ZK⟩:=En w6.heap.size;rw[<-ZK] at KT⊢;have LK:=O (show w6.heap.size<=gk from X);clear ZK;go_wp2_with (with_reducible refine wS (cs:=tv) EV KT (Ev.mk ?_) (hn:=TS.out) (h1:=TO.out));apply Eo;replace KT:=O<|KT.out.setRow tv;replace b7:=O<|E3 (g:=gk) b7.out LK.out tv;generalize w7.setRow gk tv=w8 at*;replace KM:=EQ KM b7.out;replace S1:=O<|S1.out.G b7.out;replace MM:=O<|MM.out.trans (Ex.Ew b7.out);clear b7 LK Ia;have c1:=Oo.out _ _ KM.out;rcases Edx c.tok k with hc|⟨ho1,ho2,hc⟩;·have hcd:cd=28:=wv;subst hcd;clear hc;go_wp2_with fail;refine(iw lo hi g gc gq gt gs c ns rs k v1 28 _ S1.out Ob JS).mono ?_;rintro e7 w7 ⟨rfl,s7,m7⟩;have S8:=O s7;replace MM:=O<|MM.out.trans m7;clear s7 m7;go_wp2_with fail;refine ET (U1 U _ _ _) U ?_;exact⟨U,⟨_,1,_,X,S8.out,.inl ⟨28,U,U⟩⟩,MM.out⟩
 ·have hcd:cd=0:=wv;have ht:t=c.tok.end_:=wv;have Lw:=O ht;have HO:=O<|show 0<=c.tok.o/\c.tok.o=k from⟨ho1,ho2⟩;subst hcd;clear hc ho1 ho2 ht;go_wp2_with fail;have y0: ∀y:Ext w8,(Ey w8 y).cell? ⟨gs,0,Z⟩=D (Y (D ⟨gc,0,Z⟩)):=fun y=>(S1.out.G (ED y)).IC;refine J5 7 Ed Ed ?_;simp only[Ir,Im,IL,IG]
  repeat (first
   |go_big_quiet_skip
   |(go_big_quiet_want
     first
      |(refine Ub (T:=109) (g:=gk) EV _ rfl rfl KT ?_ ?_;(·exact TS.out);go_simp;go_big_quiet_on)
      |(go_big_quiet_op
        first
         |go_big_quiet_on
         |go_big_quiet_call (fail))))
  refine IM ?_;intro _ hw';obtain⟨y9,rfl⟩:=hw';have Em:=ED y9;replace KT:=EQ KT Em;replace KM:=EQ KM Em;replace S1:=O<|S1.out.G Em;replace MM:=O<|MM.out.trans (Ex.Ew Em);clear y0 Em c1;generalize Ey w8 y9=w9 at*;have TH:=O<|cV S1.out.core 1 rfl 8 XV;go_wp2_with ((with_reducible refine JE 109 ?_);(with_reducible refine OH U 109 _ _ U gc 56 tv ?_ ?_ ?_ ?_ ?_ ?_);(·rfl);(·rfl);(·rw[TS.out];exact TH.out);(·rw[TS.out];exact EV.2);(·exact TO.out);refine Ev.mk ?_);apply Eo;rw[aJ.out];have S4:=S1.out.aA t (S1.out.core.ok.aA (by rw[Lw.out];exact VF S1.out.core.ok.tok));obtain⟨d0,d1,d2,hd,KG,-⟩:=S1.out.core.Ek;replace KT:=O<|(Jq (g:=gc) t.v 56 w9).Ek KT.out (E5 KT.out KG Eb);replace KM:=O<|(Jq (g:=gc) t.v 56 w9).Ek KM.out (E5 KM.out KG Eb);replace S1:=O S4.1;replace MM:=O<|MM.out.trans S4.2;clear S4 TH KG;generalize w9.setCells gc 56 t.v=UD at*;have c0:=(gF.out _ _ KT.out).1;go_wp2_with fail;refine(pY lo hi g gc gq gt gs _ ns rs t.h k 0 _ S1.out Ob).mono ?_;rintro e11 am ⟨rfl,⟨m1,hm1,s11⟩,m11⟩;replace KM:=O<|m11.Ek KM.out Eb Eb;replace S1:=O s11;replace MM:=O<|MM.out.trans m11;have jK:=O hm1;clear m11 s11 hm1 c0 KT;have c1:=Oo.out _ _ KM.out;go_wp2_with fail;refine(ZC lo hi g gc gq gt gs _ (ns+m1) rs 11 k v1 0 0 _ S1.out JS).mono ?_;rintro e12 Xz ⟨rfl,s12,m12⟩;replace KM:=O<|m12.Ek KM.out Eb Eb;replace S1:=O s12;replace MM:=O<|MM.out.trans m12;clear m12 s12 c1;have c1:=Oo.out _ _ KM.out;go_wp2_with fail;refine(jz lo hi g gc gq gt gs _ (ns+m1) _ k v1 _ S1.out wg).mono ?_;rintro e13 Jx ⟨rfl,s13,m13⟩;have S8:=O s13;replace MM:=O<|MM.out.trans m13;clear s13 m13;go_wp2_with fail;go_end0;refine⟨U,⟨_,m1+1,_,tU,S8.out,.inr ⟨HO.out.1,HO.out.2,?_,?_⟩⟩,MM.out⟩;·rw[Lw.out]
  ·rw[Lw.out];rfl
end Go.Proofs.YtclmichaaiohjaaGreatDoor
