import Derived.Test.YtclmichaaiohjaaGreatDoorP01
import Derived.Laws.BytesArg
import Derived.Laws.EntriesVeiled
import Derived.Lib.BitFns
import Derived.Lib.Slices
import Derived.Lib.Small
import Derived.Lib.Strings
import Derived.Maps.AppendAt
import Derived.OwnWalk
set_option maxRecDepth 100000
set_option linter.unusedVariables false
set_option linter.unusedSimpArgs false
set_option maxHeartbeats 6400000
namespace Go.Proofs.YtclmichaaiohjaaGreatDoor
open RowKit
open _root_.Array renaming getElem?_eq_some_iff->Ja
open Bool renaming true->G,false->Y
open Go renaming World->H,Calls->Ef,TypeId->Ez,Value->M,Addr->Et,bodyPost_ret->EQ,Oper->EK,below_setRow->E2,rounds_succ->Ib
open Act renaming put->Ic
open Ending renaming returned->Eg
open IntKind renaming i64->I,u8->IB,u64->Ip
open Lib renaming hid->J
open Obj renaming cells->EI
open Go.Proofs.Tryz renaming prog->EJ
open Region renaming wanted->IQ
open RowKit renaming Hid->Ea
open RowKit.Below renaming refl->E6
open Value renaming bool->Eb,int->E,agg->EU,slice->u,tuple->Es,pointer->V
open List renaming setIfInBounds_toArray->Ig,length_append->IL,set_cons_succ->IJ,set_cons_zero->IU
open Nat renaming le_trans->Ey,le_refl->E5
open Option renaming some->X,none->Z
open KQ
variable{ops:Array EK}{cs:Array M}{ks:List (Nat×Nat)}{Ph:Nat->H->Prop}{F:(Nat->M)->Act}{R:Nat->(Nat->M)->H->Prop}{id g hi n0 n i base cap lo:Nat}{l:List EK}{a0:Act}{w0 w w' W:H}{S:Ez}{o:EK}{x:One}{L:List One}{rest:List M}{A:Option Et}{xs:List Int}{Q:Exit->Act->H->Prop}{P:Program}{gp:M}
def bP(ops:Array EK):Nat->Nat->Nat->Bool
 |0,_,_=>Y
 |f+1,i,k=>match ops[i]? with
  |none=>Y
  |some o=>o.after.any fun e=>Region.binds .any e&&(e.on==k||bP ops f e.on k)
theorem np{ops:Array EK}{listed:Array Bool}(hcl:ZF ops listed): ∀(f i k:Nat),bP ops f i k=G->i<ops.size->listed.getD i G=G->listed.getD k G=G
 |0,_,_,h,_,_=>Uf
 |f+1,i,k,h,hi,hl=>by
  unfold bP at h;rw[Array.getElem?_eq_getElem hi] at h;simp only at h;obtain⟨e,he,hb⟩:=Array.any_eq_true'.1 h;simp only[Bool.and_eq_true,Bool.or_eq_true,beq_iff_eq] at hb;have h1:=hcl i _ (Array.getElem?_eq_getElem hi) hl e he hb.1;rcases hb.2 with h2|h2;·rw[<-h2];exact h1
  ·by_cases he2:e.on<ops.size;·exact np hcl f e.on k h2 he2 h1
   ·cases f with
    |zero=>cases h2
    |succ f=>unfold bP at h2;rw[Array.getElem?_eq_none U] at h2;cases h2
def fj(ops:Array EK)(cs:List Nat)(ks:List (Nat×Nat)):Bool:=ks.length==ops.size&&cs.all (fun c=>decide (c<ops.size))&&decide cs.Nodup&&(List.range ops.size).all fun i=>match ks[i]? with
 |some (lo,hi)=>(List.range cs.length).all (fun j=>match cs[j]? with
  |some c=>if c=i then decide (lo=j)&&decide (hi=j) else(decide (lo<=j)||bP ops ops.size i c)&&(decide (j<hi)||bP ops ops.size c i)
  |none=>Y)
 |none=>Y
def cnt(cs:List Nat)(listed:Array Bool):Nat:=(cs.filter fun c=>listed.getD c G).length
theorem p8{listed:Array Bool}: ∀(cs:List Nat) (lo:Nat),lo<=cs.length->(∀j c,j<lo->cs[j]?=X c->listed.getD c G=G)->lo<=cnt cs listed
 |_,0,_,_=>Nat.zero_le _
 |[],_+1,h,_=>absurd h Ek
 |c::cs,lo+1,h,hl=>by have h0:=hl 0 c U O;have ih:=p8 cs lo Ou (fun j c' hj hc=>hl (j+1) c' U uN);unfold cnt at*;rw[List.filter_cons,if_pos h0];simpa using ih
theorem i8{listed:Array Bool}: ∀(cs:List Nat) (hi:Nat),(∀j c,hi<=j->cs[j]?=X c->listed.getD c G=Y)->cnt cs listed<=hi
 |[],_,_=>Nat.zero_le _
 |c::cs,0,hl=>by have h0:=hl 0 c (E5 _) O;have ih:=i8 cs 0 (fun j c' _ hc=>hl (j+1) c' U uN);unfold cnt at*;rw[List.filter_cons,if_neg (by rw[h0];exact Bool.false_ne_true)];exact ih
 |c::cs,hi+1,hl=>by
  have ih:=i8 cs hi (fun j c' hj hc=>hl (j+1) c' U uN);unfold cnt at*;rw[List.filter_cons];split;·simpa using ih
  ·omega
theorem uP{listed:Array Bool}{i:Nat}: ∀(cs:List Nat),i∉cs->cnt cs (listed.setIfInBounds i G)=cnt cs listed
 |[],_=>rfl
 |c::cs,h=>by
  have hne:i≠c:=fun e=>h (by rw[e];exact List.mem_cons_self);have ih:=uP (listed:=listed) cs (fun hm=>h (List.mem_cons_of_mem _ hm));unfold cnt at*;rw[List.filter_cons,List.filter_cons,getD_set_ne G hne];split;·rw[List.length_cons,List.length_cons,ih]
  ·exact ih
theorem uQ{listed:Array Bool}{i:Nat}(hi:i<listed.size)(hu:listed.getD i G=Y): ∀(cs:List Nat),cs.Nodup->i∈cs->cnt cs (listed.setIfInBounds i G)=cnt cs listed+1
 |[],_,h=>Uf
 |c::cs,hn,h=>by
  have hset:(listed.setIfInBounds i G).getD i G=G:=by simp[hi]
  by_cases e:i=c;·subst e;have ho:=uP (listed:=listed) cs (List.nodup_cons.1 hn).1;unfold cnt at*;rw[List.filter_cons,if_pos hset,List.filter_cons,if_neg (by rw[hu];exact Bool.false_ne_true),List.length_cons,ho]
  ·have hm:i∈cs:=by
    rcases List.mem_cons.1 h with h|h;·exact absurd h e
    ·exact h
   have ih:=uQ hi hu cs (List.nodup_cons.1 hn).2 hm;unfold cnt at*;rw[List.filter_cons,List.filter_cons,getD_set_ne G e];split;·rw[List.length_cons,List.length_cons,ih]
   ·exact ih
theorem uR{cs:List Nat}(h:fj ops cs ks=G):(∀c∈cs,c<ops.size)/\cs.Nodup/\ ∀i,i<ops.size-> ∃lo hi,ks[i]?=X (lo,hi)/\ ∀j c,cs[j]?=X c->(c=i->lo=j/\hi=j)/\(c≠i->(lo<=j\/bP ops ops.size i c=G)/\(j<hi\/bP ops ops.size c i=G)):=by
 unfold fj at h;simp only[Bool.and_eq_true] at h;obtain⟨⟨⟨-,h1⟩,h2⟩,h3⟩:=h;refine⟨fun c hc=>of_decide_eq_true (List.all_eq_true.1 h1 c hc),of_decide_eq_true h2,fun i hi=> ?_⟩;have h4:=List.all_eq_true.1 h3 i (List.mem_range.2 hi);cases hk:ks[i]? with
 |none=>rw[hk] at h4;cases h4
 |some p=>
  obtain⟨lo,hi'⟩:=p;rw[hk] at h4;refine⟨lo,hi',O,fun j c hj=> ?_⟩;have hjl:=(List.getElem?_eq_some_iff.1 hj).1;have h5:=List.all_eq_true.1 h4 j (List.mem_range.2 hjl);rw[hj] at h5;by_cases e:c=i;·simp only[if_pos e,Bool.and_eq_true,decide_eq_true_eq] at h5;exact⟨fun _=>h5,fun h=>absurd e h⟩
  ·simp only[if_neg e,Bool.and_eq_true,Bool.or_eq_true,decide_eq_true_eq] at h5;exact⟨fun h=>absurd h e,fun _=>h5⟩
section
variable{P:Program}{ops:Array Oper}{Q:Exit->Act->World->Prop}
def uS(Ph:Nat->H->Prop)(Rel If:H->H->Prop)(P:Program)(ops:Array EK)(Q:Exit->Act->H->Prop)(F:(Nat->M)->Act)(R:Nat->(Nat->M)->H->Prop)(c:Bool)(lo hi i:Nat)(o:EK):Prop:=match c with
 |true=> ∀x w,Ph lo w->i6 R o x w->UJ (fun w w'=>If w w'/\Ph (lo+1) w') P ops Q F R i o x w
 |false=> ∀x w p,lo<=p->p<=hi->Ph p w->i6 R o x w->UJ Rel P ops Q F R i o x w
theorem YE{Rel If:H->H->Prop}{cs:List Nat}(hB:bN ops=G)(hK:fj ops cs ks=G)(hlk: ∀(i lo hi:Nat),ks[i]?=X (lo,hi)->lo<=cs.length) (hPh: ∀b w w',Ph b w->Rel w w'->Ph b w') (hF: ∀i o x v,i<ops.size->ops[i]?=X o->(F x).put o.dst v=F (Jv x i v)) (hR: ∀i x w w',i<ops.size->R i x w->Rel w w'->R i x w') (hR2: ∀i x w w',i<ops.size->R i x w->If w w'->R i x w') (hD: ∀i x y w,i<ops.size->(∀k,(k=i\/fh ops i k)->x k=y k)->R i x w->R i y w) (hcw: ∀c o x,c∈cs->ops[c]?=X o->IQ o (yielded ops (F x).tmps)=G) (hstep: ∀(i:Nat) (o:EK) (lo hi:Nat),ops[i]?=X o->ks[i]?=X (lo,hi)->uS Ph Rel If P ops Q F R (decide (i∈cs)) lo hi i o) (hend: ∀x w,Ph cs.length w->(∀i,i<ops.size->R i x w)->wpList P ops Q [] (F x) w): ∀(fuel:Nat) (listed:Array Bool) (x:Nat->M) (w:H),(Of ops listed).length<=fuel->listed.size=ops.size->ZF ops listed->Ph (cnt cs listed) w-> (∀i,i<ops.size->listed.getD i G=G->R i x w)->wpAny P .any ops Q fuel listed (F x) w:=by
 obtain⟨hcs,hcn,hKs⟩:=uR hK
 have done: ∀(fuel:Nat) (listed:Array Bool) (x:Nat->M) (w:H),(∀j,j<ops.size->listed.getD j G=G)->Ph (cnt cs listed) w->(∀i,i<ops.size->listed.getD i G=G->R i x w)->wpAny P .any ops Q fuel listed (F x) w:=by
  intro fuel listed x w hall hb hr;have hcl:cnt cs listed=cs.length:=by exact Emh
  rw[hcl] at hb;exact Em2
 intro fuel;induction fuel with
 |zero=>
  intro listed x w hf hs hcl hb hr;refine done 0 listed x w (fun j hj=> ?_) hb hr;cases hlj:listed.getD j G;·exact Ek9
  ·rfl
 |succ fuel ih=>
  intro listed x w hf hs hcl hb hr;by_cases hall: ∀j,j<ops.size->listed.getD j G=G;·exact El3
  ·refine⟨fun h0=> ?_,fun i hi=> ?_⟩
   ·exfalso
    have hex: ∃j,j<ops.size/\listed.getD j G=Y:=by
     apply Classical.byContradiction;intro hno
     exact hall fun j hj=>by
      cases hlj:listed.getD j G;·exact absurd ⟨j,hj,hlj⟩ hno
      ·rfl
    have hmin: ∃j,(j<ops.size/\listed.getD j G=Y)/\ ∀k,k<j-> ¬(k<ops.size/\listed.getD k G=Y):=by
     obtain⟨j,hj⟩:=hex;induction j using Nat.strongRecOn with
     |ind j aR=>
      by_cases h: ∃k,k<j/\(k<ops.size/\listed.getD k G=Y);·exact EjN
      ·exact Ejr
    obtain⟨j,⟨hjn,hj⟩,hlt⟩:=hmin;have ho:ops[j]?=X ops[j]:=Array.getElem?_eq_getElem hjn
    have:j∈Region.ready .any ops listed:=by
     refine mem_ready.2 ⟨hj,_,ho,fun e he hbe=> ?_⟩;have h1:=no hB ho e he hbe;have h2:=hlt e.on h1;have h3:e.on<listed.size:=U;cases hlj:listed.getD e.on G;·exact absurd ⟨U,hlj⟩ h2
     ·simpa[h3] using hlj
    rw[h0] at this;cases this
   ·obtain⟨h1,o,ho,aa⟩:=mem_ready.1 hi;have hin:=(Ja.1 ho).1;have hdr:i6 R o x w:=by intro e he hb';have h3:=aa e he hb';have h4:=no hB ho e he hb';have h5:e.on<listed.size:=U;exact hr e.on U kI
    obtain⟨lo,hi',hk,hkc⟩:=hKs i hin;have st:=hstep i o lo hi' ho hk;have qE:=hcl.set hs hi;have hset:(listed.setIfInBounds i G).getD i G=G:=by exact Eka
    have next: ∀v w',Ph (cnt cs (listed.setIfInBounds i G)) w'->(∀j,j<ops.size->j≠i->listed.getD j G=G->R j x w')->R i (Jv x i v) w'->wpAny P .any ops Q fuel (listed.setIfInBounds i G) ((F x).put o.dst v) w':=by
     intro v w' hb' hrs hv;rw[hF i o x v hin ho];have hlt:=iT hs hin h1;refine ih _ _ w' U dE qE hb' (fun j hj hl=> ?_);by_cases hji:j=i;·subst hji;exact hv
     ·rw[getD_set_ne G (fun e=>hji e.symm)] at hl;refine hD j x _ w' hj (fun q hq=> ?_) (hrs j hj hji hl);rw[fc];intro hqi;rw[hqi] at hq;rcases hq with hq|⟨oj,e,hoj,he,hbe,pY⟩;·exact hji hq.symm
      ·exact EkH
    have early: ∀j c,cs[j]?=X c->c≠i->j<lo->listed.getD c G=G:=by
     intro j c hj hne hlt;rcases((hkc j c hj).2 hne).1 with h|h;·omega
     ·exact ElT
    have late: ∀j c,cs[j]?=X c->c≠i->hi'<=j->listed.getD c G=Y:=by
     intro j c hj hne hle;rcases((hkc j c hj).2 hne).2 with h|h;·omega
     ·cases hlc:listed.getD c G;·rfl
      ·exact Elm
    by_cases hic:i∈cs
    ·obtain⟨j0,hj0⟩:=List.mem_iff_getElem?.1 hic;obtain⟨e1,e2⟩:=(hkc j0 i hj0).1 rfl;have hjl:=(List.getElem?_eq_some_iff.1 hj0).1;have uniq: ∀j,cs[j]?=X i->j=j0:=by intro j hj;have YI:=(List.getElem?_eq_some_iff.1 hj).1;have h5:=(List.getElem?_eq_some_iff.1 hj).2;have h6:=(List.getElem?_eq_some_iff.1 hj0).2;exact(List.getElem_inj hcn).1 (h5.trans h6.symm)
     have hcnt:cnt cs listed=lo:=by
      refine Nat.le_antisymm (i8 cs lo fun j c hj hc=> ?_) (p8 cs lo U fun j c hj hc=> ?_)
      ·by_cases e:c=i;·subst e;exact h1
       ·exact late j c hc e U
      ·by_cases e:c=i;·subst e;have:=uniq j hc;omega
       ·exact early j c hc e hj
     rw[Ia hic] at st;rw[hcnt] at hb;have st:=st x w hb hdr;unfold wpOp;simp only[ho];unfold UJ at st;rw[if_pos (hcw i o x hic ho)] at st⊢;refine .inl (Oper.wp_mono (fun a' w' h'=> ?_) st);obtain⟨v,rfl,⟨hb',uT⟩,hv⟩:=h';exact next v w' (by rw[uQ U h1 cs hcn hic,hcnt];exact uT) (fun j hj _ hl=>hR2 j _ w w' hj (hr j hj hl) hb') hv
    ·rw[E9 hic] at st;have hne: ∀j c,cs[j]?=X c->c≠i:=fun j c hj e=>hic Km;have hlo2:lo<=cnt cs listed:=p8 cs lo (hlk i lo hi' hk) fun j c hj hc=>early j c hc (hne j c hc) hj;have AX:cnt cs listed<=hi':=i8 cs hi' fun j c hj hc=>late j c hc (hne j c hc) hj;have st:=st x w _ hlo2 AX hb hdr;unfold wpOp;simp only[ho];unfold UJ at st;split;·rename_i hw;rw[if_pos hw] at st;refine .inl (Oper.wp_mono (fun a' w' h'=> ?_) st);obtain⟨v,rfl,hb',hv⟩:=h';exact next v w' Ko (fun j hj _ hl=>hR j _ w w' hj (hr j hj hl) hb') hv
     ·exact Elx
def bQ(Ph:Nat->H->Prop)(Rel If:H->H->Prop)(P:Program)(ops:Array EK)(Q:Exit->Act->H->Prop)(F:(Nat->M)->Act)(R:Nat->(Nat->M)->H->Prop)(cs:List Nat):Nat->List EK->List (Nat×Nat)->Prop
 |i,o::l,(lo,hi)::ks=>uS Ph Rel If P ops Q F R (decide (i∈cs)) lo hi i o/\bQ Ph Rel If P ops Q F R cs (i+1) l ks
 |_,_,_=>True
theorem bQ.at{Ph:Nat->H->Prop}{Rel If:H->H->Prop}{F:(Nat->M)->Act}{R:Nat->(Nat->M)->H->Prop}{cs:List Nat}: ∀(l:List EK) (ks:List (Nat×Nat)) (i:Nat),bQ Ph Rel If P ops Q F R cs i l ks-> ∀j o lo hi,l[j]?=X o->ks[j]?=X (lo,hi)->uS Ph Rel If P ops Q F R (decide (i+j∈cs)) lo hi (i+j) o
 |[],_,_,_,_,_,_,_,h,_=>kJ
 |_::_,[],_,_,_,_,_,_,_,h=>kJ
 |p::l,(a,b)::ks,i,hs,0,o,lo,hi,h,h2=>by simp at h h2;obtain⟨rfl,rfl⟩:=h2;subst h;exact hs.1
 |p::l,(a,b)::ks,i,hs,j+1,o,lo,hi,h,h2=>by have:=bQ.at l ks (i+1) hs.2 j o lo hi Ou (by simpa using h2);rw[show i+(j+1)=i+1+j from U];exact this
theorem Kq{Rel If:H->H->Prop}(cs:List Nat)(ks:List (Nat×Nat))(hm:P.follows .mixedOrders=G)(hB:bN l.toArray=G)(hK:fj l.toArray cs ks=G)(hlk:(ks.all fun p=>decide (p.1<=cs.length))=G)(hnd:(OU l).Nodup)(R:Nat->(Nat->M)->H->Prop) (hcg:(cs.all fun c=>match l[c]? with|some o=>o.guard.isNone|none=>false)=G) (hPh: ∀b w w',Ph b w->Rel w w'->Ph b w') (hR: ∀i x w w',i<l.length->R i x w->Rel w w'->R i x w') (hR2: ∀i x w w',i<l.length->R i x w->If w w'->R i x w') (hD: ∀i x y w,i<l.length->(∀k,(k=i\/fh l.toArray i k)->x k=y k)->R i x w->R i y w) (h0:Ph 0 w0.drew) (hstep:bQ Ph Rel If P l.toArray Q (fun x=>EB l 0 x a0) R cs 0 l ks) (hend: ∀x w,Ph cs.length w->(∀i,i<l.length->R i x w)->wpList P l.toArray Q [] (EB l 0 x a0) w):(Code.region id l.toArray G).wp P Q a0 w0:=by
 have kX:EB l 0 (held l a0) a0=a0:=fd a0 _ 0 _ (fun k o ho d hd=>by unfold held;rw[Nat.zero_add,ho];simp only[hd]);refine wp_region_any hm ?_
 have key:=YE (P:=P) (Q:=Q) (ops:=l.toArray) (Ph:=Ph) (Rel:=Rel) (If:=If) (cs:=cs) (ks:=ks) (F:=fun x=>EB l 0 x a0) (R:=R) hB hK (by
  intro i lo hi h;have:=List.all_eq_true.1 hlk (lo,hi) (List.mem_iff_getElem?.2 ⟨i,h⟩);simpa using this) hPh
  (fun i o x v hi ho=>by have:=gw l 0 i x a0 o v hnd kO;rw[Nat.zero_add] at this;exact this) (fun i x w w' hi=>hR i x w w' Om) (fun i x w w' hi=>hR2 i x w w' Om) (fun i x y w hi=>hD i x y w Om)
  (fun c o x hc ho=>by
   have h1:=List.all_eq_true.1 hcg c hc;have:l[c]?=X o:=kO;rw[this] at h1;simp only at h1;unfold IQ;cases hg:o.guard with
   |none=>rfl
   |some g=>rw[hg] at h1;cases h1)
  (fun i o lo hi ho hk=>by have:=bQ.at l ks 0 hstep i o lo hi kO hk;rwa [Nat.zero_add] at this)
  (fun x w hp hr=>hend x w hp fun i hi=>hr i Om)
  l.toArray.size (Array.replicate l.toArray.size Y) (held l a0) w0.drew ?_ Ek ?_ ?_ ?_
 ·simp only[kX] at key;exact key
 ·exact Ejh
 ·intro j o ho h;by_cases hj:j<l.toArray.size;·have:j<l.length:=uD;simp[this] at h
  ·exact absurd (Ja.1 ho).1 hj
 ·have hz:cnt cs (Array.replicate l.toArray.size Y)=0:=by
   refine Nat.le_zero.1 (i8 cs 0 fun j c _ hj=> ?_);have:=(uR hK).1 c (List.mem_iff_getElem?.2 ⟨j,hj⟩);have h2:c<l.length:=by exact Ek_
   simp[h2]
  rw[hz];exact h0
 ·intro i hi h;have:i<l.length:=Om;simp[this] at h
end
structure Jx(Y8:Nat->Ez->Option (Array M))(w w':H):Prop where
 os:w'.os=w.os
 tape:w'.tape=w.tape
 output:w'.output=w.output
 size:w.heap.size<=w'.heap.size
 keep: ∀k,k<w.heap.size->(∀c S,D w k c S->Y8 k S=Z)->w'.heap[k]?=w.heap[k]?
 nt: ∀k c S,D w k c S->D w' k c S\/ ∃cs,Y8 k S=X cs/\cs.size=c.size/\D w' k cs S
section
variable{Y8:Nat->TypeId->Option (Array Value)}{w w' w'':World}
theorem Jx.refl(w:H):Jx Y8 w w:=⟨O,O,O,E5 _,fun _ _ _=>rfl,fun _ _ _ h=> .inl h⟩
theorem Jx.trans(h:Jx Y8 w w')(k:Jx Y8 w' w''):Jx Y8 w w'':=by
 refine⟨k.os.trans h.os,k.tape.trans h.tape,k.output.trans h.output,Ey h.size k.size,fun i hi hm=> ?_,fun i c S hb=> ?_⟩;·have e:=h.keep i hi hm;refine(k.keep i (Nat.lt_of_lt_of_le hi h.size) fun c S hb=>hm c S ?_).trans e;unfold D at*;rw[<-e];exact hb
 ·rcases h.nt i c S hb with h1|⟨cs,e,s,h1⟩;·exact k.nt i c S h1
  ·rcases k.nt i cs S h1 with h2|⟨cs',e',s',h2⟩;·exact .inr ⟨cs,e,s,h2⟩
   ·exact .inr ⟨cs',e',s'.trans s,h2⟩
theorem Jx.kept:Kept (Jx Y8):=⟨Jx.refl,fun _ _ _ h k=>h.trans k,fun w=>⟨O,O,O,E5 _,fun _ _ _=>rfl,fun _ _ _ h=> .inl h⟩⟩
theorem Jx.B(h:Eh w w'):Jx Y8 w w':=⟨h.os,h.tape,h.output,h.size,fun k hk _=>h.block k hk,fun _ _ _ hb=> .inl (hb.B h)⟩
theorem Jx.Em(h:Jx Y8 w w'){g:Nat}{c:Array M}{S:Ez}(k:D w g c S)(hm:Y8 g S=Z):D w' g c S:=by
 rcases h.nt g c S k with h1|⟨cs,e,-⟩;·exact h1
 ·rw[hm] at e;cases e
theorem Jx.same(h:Jx Y8 w w'){g:Nat}{c:Array M}{S:Ez}(k:D w g c S)(hm: ∀cs,Y8 g S=X cs->cs=c):D w' g c S:=by
 rcases h.nt g c S k with h1|⟨cs,e,-,h1⟩;·exact h1
 ·rw[hm cs e] at h1;exact h1
theorem Jx.some(h:Jx Y8 w w'){g:Nat}{c:Array M}{S:Ez}(k:D w g c S): ∃c',c'.size=c.size/\D w' g c' S:=by
 rcases h.nt g c S k with h1|⟨cs,-,s,h1⟩;·exact⟨c,O,h1⟩
 ·exact⟨cs,s,h1⟩
theorem Jx.setRow{old:Array M}(k:D w g old S)(hm:Y8 g S=Option.some cs)(hs:cs.size=old.size):Jx Y8 w (w.setRow g cs):=by
 refine⟨O,O,O,Ek,fun i hi hn=>setRow_other w g i cs fun e=> ?_,fun i c T hb=> ?_⟩;·subst e;have:=hn old S k;rw[hm] at this;cases this
 ·by_cases e:i=g;·subst e;have e2:=(show Option.some (Obj.cells c T (0,0))=Option.some (Obj.cells old S (0,0)) from hb.symm.trans k);injection e2 with e2;injection e2 with e3 e4;subst e3 e4;exact .inr ⟨cs,hm,hs,k.setRow cs⟩
  ·exact .inl (hb.setRow_other g cs e)
theorem Jx.Kr(h:Jx Y8 w w')(hh:hi<=w.heap.size)(hm: ∀k S cs,Y8 k S=Option.some cs->hi<=k):Below hi w w':=
 ⟨h.os,h.tape,h.output,h.size,fun k hk=>h.keep k U fun c S _=>by
  cases e:Y8 k S with
  |none=>rfl
  |some cs=>have:=hm k S cs e;omega⟩
end
def YJ(n0:Nat)(T:Ez)(n:Nat)(v:M)(w:H):Prop:= ∃(b:Nat) (c:Array M),v=V (X ⟨b,0,Z⟩)/\n0<=b/\c.size=n/\D w b c T
def YO(n0:Nat)(T:Ez)(cs:Array M)(v:M)(w:H):Prop:= ∃b:Nat,v=V (X ⟨b,0,Z⟩)/\n0<=b/\D w b cs T
inductive Kn where
 |val (p:M->Prop)
 |made (T:Ez) (n:Nat)
 |into (k:Nat) (T:Ez) (cs:Array M)
 |onto (g:Nat) (T:Ez) (cs:Array M)
instance(x):CoeDep KQ (KQ.kq x) Kn:=⟨.val fun v=>v=x⟩
instance(g i):CoeDep KQ (KQ.kp g i) Kn:=⟨.val fun v=>v=V (X ⟨g,i,Z⟩)⟩
def RK(n0:Nat)(K:Nat->Kn)(i:Nat)(x:Nat->M)(w:H):Prop:=match K i with
 | .val p=>p (x i)
 | .made T n=>YJ n0 T n (x i) w
 | .into k T cs=>YO n0 T cs (x k) w
 | .onto g T cs=>D w g cs T
theorem RK.keep{K:Nat->Kn}{Rel:H->H->Prop}(h1: ∀i T m,i<n->K i= .made T m-> ∀b c w w',D w b c T->Rel w w'-> ∃c',c'.size=c.size/\D w' b c' T) (h2: ∀i k T cs,i<n->K i= .into k T cs-> ∀b w w',n0<=b->D w b cs T->Rel w w'->D w' b cs T) (h3: ∀i g T cs,i<n->K i= .onto g T cs-> ∀w w',D w g cs T->Rel w w'->D w' g cs T): ∀i x w w',i<n->RK n0 K i x w->Rel w w'->RK n0 K i x w':=by
 intro i x w w' hi h hr;unfold RK at*;cases e:K i with
 |val p=>rw[e] at h;exact h
 |made T m=> rw[e] at h;obtain⟨b,c,hv,hb,hs,hk⟩:=h;obtain⟨c',hs',hk'⟩:=h1 i T m hi e b c w w' hk hr;exact⟨b,c',hv,hb,hs'.trans hs,hk'⟩
 |into k T cs=> rw[e] at h;obtain⟨b,hv,hb,hk⟩:=h;exact⟨b,hv,hb,h2 i k T cs hi e b w w' hb hk hr⟩
 |onto g T cs=>rw[e] at h;exact h3 i g T cs hi e w w' h hr
def kM(n0:Nat)(Ks:List Kn)(b:Nat)(S:Ez):Option (Array M):=Ks.findSome? fun k=>match k with
 | .into _ T cs=>if n0<=b/\S=T then X cs else Z
 | .onto g T cs=>if b=g/\S=T then X cs else Z
 |_=>Z
theorem Kt{Ks:List Kn}{b:Nat}(h:kM n0 Ks b S=X cs): ∃k∈Ks,(∃j,k= .into j S cs/\n0<=b)\/(k= .onto b S cs):=by
 unfold kM at h;obtain⟨k,hk,hv⟩:=List.exists_of_findSome?_eq_some h;refine⟨k,hk,?_⟩;cases k with
 |val p=>cases hv
 |made T n=>cases hv
 |into j T c=>
  simp only at hv;split at hv;·rename_i he;obtain⟨h1,rfl⟩:=he;injection hv with hv;subst hv;exact .inl ⟨j,rfl,h1⟩
  ·cases hv
 |onto g T c=>
  simp only at hv;split at hv;·rename_i he;obtain⟨rfl,rfl⟩:=he;injection hv with hv;subst hv;exact .inr rfl
  ·cases hv
theorem YU{Ks:List Kn}{b:Nat}(h:kM n0 Ks b S=X cs)(hon: ∀g T c,Kn.onto g T c∈Ks->hi<=g)(hn:hi<=n0):hi<=b:=by
 obtain⟨k,hk,⟨j,-,h1⟩|e⟩:=Kt h;·exact Ey hn h1
 ·subst e;exact hon b S cs hk
def Kn.st:Kn->Option Ez
 | .into _ T _=>X T
 | .onto _ T _=>X T
 |_=>Z
def Kn.ty:Kn->Option Ez
 | .made T _=>X T
 | .into _ T _=>X T
 | .onto _ T _=>X T
 |_=>Z
theorem Ku: ∀{Ks:List Kn},(Ks.filterMap Kn.st).Nodup-> ∀{b:Nat} {T:Ez} {cs c':Array M} {k:Kn},k∈Ks->(k.st=X T)->(∀c,(∃j,k= .into j T c)\/(∃g,k= .onto g T c)->c=cs)->kM n0 Ks b T=X c'->c'=cs:=by
 intro Ks hn b T cs c' k hk ht hc h;obtain⟨k',hk',h'⟩:=Kt h;have ht':k'.st=X T:=by rcases h' with⟨j,rfl,-⟩|rfl<;>rfl
 have e:k=k':=by
  obtain⟨i,hi⟩:=List.mem_iff_getElem?.1 hk;obtain⟨i',hi'⟩:=List.mem_iff_getElem?.1 hk';clear hc h h' hk hk';induction Ks generalizing i i' with
  |nil=>simp at hi
  |cons a r ih=>
   have hr:(r.filterMap Kn.st).Nodup:=by
    cases ha:a.st with
    |none=>rw[List.filterMap_cons_none ha] at hn;exact hn
    |some s=>rw[List.filterMap_cons_some ha] at hn;exact(List.nodup_cons.1 hn).2
   have hmem: ∀(q:Kn) (Y3:Nat),r[Y3]?=X q->q.st=X T->a.st≠X T:=by intro q Y3 hu hq ha;rw[List.filterMap_cons_some ha] at hn;exact(List.nodup_cons.1 hn).1 (List.mem_filterMap.2 ⟨q,List.mem_iff_getElem?.2 ⟨Y3,hu⟩,hq⟩)
   cases i with
   |zero=>
    cases i' with
    |zero=>simp at hi hi';exact hi.symm.trans hi'
    |succ Y3=>simp at hi hi';subst hi;exact absurd ht (hmem k' Y3 hi' ht')
   |succ v=>
    cases i' with
    |zero=>simp at hi hi';subst hi';exact absurd ht' (hmem k v hi ht)
    |succ Y3=>exact ih hr v Om Y3 (by simpa using hi')
 subst e;rcases h' with⟨j,e,-⟩|e;·exact hc c' (.inl ⟨j,e⟩)
 ·exact hc c' (.inr ⟨b,e⟩)
def kN(Ks:List Kn)(i:Nat):Kn:=Ks.getD i (.val fun _=>True)
theorem qI{Ks:List Kn}(h:i<Ks.length):kN Ks i∈Ks:=by unfold kN;rw[List.getD_eq_getElem?_getD,List.getElem?_eq_getElem h];exact List.getElem_mem h
section
variable{P:Program}{Q:Exit->Act->World->Prop}
def Kv(o:EK)(a:Act)(T:Ez)(g off:Nat)(cs:Array M):Prop:=match o.op with| .store t x y=>t=T/\a.eval x=V (X ⟨g,off,Z⟩)/\a.eval y=EU cs|_=>False
theorem Kw{Rel:H->H->Prop}{x:Nat->M}{T:Ez}{off:Nat}(hA:ID P T n)(hw:IQ o (yielded ops (F x).tmps)=G)(hl:Kv o (F x) T g off cs)(ht:w.there g off n)(hn:cs.size=n) (h1:cs.all (·.oneCell')=G) (hb:Rel w (w.setCells g off cs.toList)) (h:R i (Jv x i undef) (w.setCells g off cs.toList)):UJ Rel P ops Q F R i o x w:=by
 obtain⟨-,hi⟩:=hA;unfold Kv at hl;split at hl
 ·rename_i t a b hop;obtain⟨rfl,hx,hy⟩:=hl;unfold UJ;rw[if_pos hw];subst hn;have hrun:(execOp (F x).eval o).run P w= .ok .skip (w.setCells g off cs.toList):=by unfold execOp;simp only[hop,hx,hy,Sem.run_bind,run_storeAt_mid w g off t cs ht hi h1,Sem.run_pure,Result.andThen_ok]
  unfold Oper.wp;rw[hrun];exact⟨undef,rfl,hb,h⟩
 ·exact hl.elim
theorem Kx{If:H->H->Prop}(n0:Nat)(Ks:List Kn)(cs:List Nat)(ks:List (Nat×Nat))(hm:P.follows .mixedOrders=G)(hB:bN l.toArray=G)(hK:fj l.toArray cs ks=G)(hlk:(ks.all fun p=>decide (p.1<=cs.length))=G)(hnd:(OU l).Nodup) (hcg:(cs.all fun c=>match l[c]? with|some o=>o.guard.isNone|none=>false)=G) (hlen:Ks.length=l.length) (hst:(Ks.filterMap Kn.st).Nodup) (hwt:((List.range Ks.length).all fun i=>match kN Ks i with| .into k _ _=>(match l.toArray[i]? with|some o=>o.after.toList.any (fun e=>Region.binds .any e&&e.on==k)|none=>false)|_=>true)=G) (hPh: ∀b w w',Ph b w->Jx (kM n0 Ks) w w'->Ph b w') (hR2: ∀T,T∈Ks.filterMap Kn.ty-> ∀b c w w',D w b c T->If w w'->D w' b c T) (h0:Ph 0 w0.drew) (hstep:bQ Ph (Jx (kM n0 Ks)) If P l.toArray Q (fun x=>EB l 0 x a0) (RK n0 (kN Ks)) cs 0 l ks) (hend: ∀x w,Ph cs.length w->(∀i,i<l.length->RK n0 (kN Ks) i x w)->wpList P l.toArray Q [] (EB l 0 x a0) w):(Code.region id l.toArray G).wp P Q a0 w0:=by
 refine Kq cs ks hm hB hK hlk hnd (RK n0 (kN Ks)) hcg hPh (RK.keep ?_ ?_ ?_) (RK.keep ?_ ?_ ?_) ?_ h0 hstep hend;·intro i T m _ _ b c w w' hb hr;exact hr.some hb
 ·intro i k T c hi he b w w' _ hb hr;refine hr.same hb fun c' hc'=> ?_
  exact Ku hst (qI (U:i<Ks.length)) i9 (fun c2 h=>by
   rw[he] at h;rcases h with⟨j,e⟩|⟨g,e⟩;·cases e;rfl
   ·cases e) hc'
 ·intro i g T c hi he w w' hb hr;refine hr.same hb fun c' hc'=> ?_
  exact Ku hst (qI (U:i<Ks.length)) i9 (fun c2 h=>by
   rw[he] at h;rcases h with⟨j,e⟩|⟨g,e⟩;·cases e
   ·cases e;rfl) hc'
 ·intro i T m hi he b c w w' hb hr;exact⟨c,O,hR2 T (List.mem_filterMap.2 ⟨_,qI (U:i<Ks.length),i9⟩) b c w w' hb hr⟩
 ·intro i k T c hi he b w w' _ hb hr;exact hR2 T (List.mem_filterMap.2 ⟨_,qI (U:i<Ks.length),i9⟩) b c w w' hb hr
 ·intro i g T c hi he w w' hb hr;exact hR2 T (List.mem_filterMap.2 ⟨_,qI (U:i<Ks.length),i9⟩) g c w w' hb hr
 ·intro i x y w hi hq h;unfold RK at*;cases e:kN Ks i with
  |val p=>rw[e] at h;simp only at h⊢;rw[<-hq i (.inl O)];exact h
  |made T m=>rw[e] at h;simp only at h⊢;rw[<-hq i (.inl O)];exact h
  |into k T c=> rw[e] at h;simp only at h⊢;have h1:=List.all_eq_true.1 hwt i (List.mem_range.2 U);rw[e] at h1;rw[<-hq k (.inr (p6 h1))];exact h
  |onto g T c=>rw[e] at h;exact h
theorem AZ{Rel:H->H->Prop}{x:Nat->M}(hw:IQ o (yielded ops (F x).tmps)=G) (hr:(execOp (F x).eval o).run P w= .ok .skip w') (hb:Rel w w') (h:R i (Jv x i undef) w'):UJ Rel P ops Q F R i o x w:=by unfold UJ;rw[if_pos hw];unfold Oper.wp;rw[hr];exact⟨undef,O,hb,h⟩
inductive nu(Rel If:H->H->Prop) where
 |val (p:M->Prop)
 |dep (s:M->H->Prop) (h1: ∀v w w',s v w->Rel w w'->s v w') (h2: ∀v w w',s v w->If w w'->s v w')
instance{Rel If}(x):CoeDep KQ (KQ.kq x) (nu Rel If):=⟨.val fun v=>v=x⟩
instance{Rel If}(g i):CoeDep KQ (KQ.kp g i) (nu Rel If):=⟨.val fun v=>v=V (X ⟨g,i,Z⟩)⟩
def RS{Rel If:H->H->Prop}(K:Nat->nu Rel If)(i:Nat)(x:Nat->M)(w:H):Prop:=match K i with
 | .val p=>p (x i)
 | .dep s _ _=>s (x i) w
def kS{Rel If:H->H->Prop}(Ks:List (nu Rel If))(i:Nat):nu Rel If:=Ks.getD i (.val fun _=>True)
theorem uV{Rel If:H->H->Prop}(Ks:List (nu Rel If))(cs:List Nat)(ks:List (Nat×Nat))(hm:P.follows .mixedOrders=G)(hB:bN l.toArray=G)(hK:fj l.toArray cs ks=G)(hlk:(ks.all fun p=>decide (p.1<=cs.length))=G)(hnd:(OU l).Nodup) (hcg:(cs.all fun c=>match l[c]? with|some o=>o.guard.isNone|none=>false)=G) (hPh: ∀b w w',Ph b w->Rel w w'->Ph b w') (h0:Ph 0 w0.drew) (hstep:bQ Ph Rel If P l.toArray Q (fun x=>EB l 0 x a0) (RS (kS Ks)) cs 0 l ks) (hend: ∀x w,Ph cs.length w->(∀i,i<l.length->RS (kS Ks) i x w)->wpList P l.toArray Q [] (EB l 0 x a0) w):(Code.region id l.toArray G).wp P Q a0 w0:=by
 refine Kq cs ks hm hB hK hlk hnd (RS (kS Ks)) hcg hPh ?_ ?_ ?_ h0 hstep hend
 ·intro i x w w' _ h hr;unfold RS at*;split at h;·exact h
  ·rename_i s h1 h2 _;exact El9
 ·intro i x w w' _ h hr;unfold RS at*;split at h;·exact h
  ·exact EmO
 ·intro i x y w _ hq h;unfold RS at*;exact ElN
end
def Ln(W:H)(g:Nat)(L:List One)(rest:List M):Prop:=D W g (Iv L++rest).toArray 171
def less(a b:One):Bool:=if a.r=b.r then decide (a.n<b.n) else decide (a.r<b.r)
theorem YX(pre old post:List M)(o n:Nat)(ho:pre.length=o)(hn:old.length=n):(pre++(old++post)).toArray.extract o (o+n)=old.toArray:=by subst ho hn;simp
theorem YZ(L:List One)(i:Nat)(h:i<L.length)(rest:List M)(j:Nat)(hj:j<5):(Iv L++rest)[i*5+j]?=(L[i]).v[j]?:=by
 induction L generalizing i with
 |nil=>simp at h
 |cons x r ih=>
  cases i with
  |zero=> simp only[Iv,List.flatMap_cons,List.append_assoc,Nat.zero_mul,Nat.zero_add,List.getElem_cons_zero];rw[List.getElem?_append_left uW]
  |succ i=> have:=ih i Ou;simp only[Iv,List.flatMap_cons,List.append_assoc,List.getElem_cons_succ] at*;rw[List.getElem?_append_right uW,show(i+1)*5+j-x.v.length=i*5+j from uW];exact this
theorem Ln.cell(K:Ln W g L rest)(i:Nat)(h:L[i]?=X x):W.cell? ⟨g,i*5,Z⟩=X (E I x.s)/\W.cell? ⟨g,i*5+1,Z⟩=X (E I x.r)/\W.cell? ⟨g,i*5+2,Z⟩=X (E I x.a)/\W.cell? ⟨g,i*5+3,Z⟩=X (E I x.m)/\W.cell? ⟨g,i*5+4,Z⟩=X (E Ip x.n):=by
 obtain⟨hl,rfl⟩:=List.getElem?_eq_some_iff.1 h;have hk: ∀j,j<5->W.cell? ⟨g,i*5+j,Z⟩=(L[i]).v[j]?:=fun j hj=>by rw[D.cell K,List.getElem?_toArray];exact YZ L i hl rest j hj
 exact⟨hk 0 U,hk 1 U,hk 2 U,hk 3 U,hk 4 U⟩
theorem aW(A:Option Et)(n c:Nat)(w:H): Ef EJ 272 #[u A n c] w fun e w'=>e=Eg (E I n)/\w=w':=by go_enter Tryz.func272,Tryz.ntmps272;exact Eh9
theorem fk(g:Nat)(L:List One)(rest:List M)(n c:Nat)(i j:Nat)(x z:One)(hi:L[i]?=X x)(hj:L[j]?=X z)(hn:L.length=n)(w:H)(K:Ln w g L rest): Ef EJ 273 #[u (X ⟨g,0,Z⟩) n c,E I i,E I j] w fun e w'=>e=Eg (Eb (less x z))/\Eh w w':=by
 have hi2:i<n:=Ky;have hj2:j<n:=Kz;have CI:Ea (∀W,Ln W g L rest->W.cell? ⟨g,i*5+1,Z⟩=X (E I x.r)/\W.cell? ⟨g,i*5+4,Z⟩=X (E Ip x.n)):=J fun W k=>by have:=Ln.cell k i hi;exact⟨this.2.1,this.2.2.2.2⟩
 have CJ:Ea (∀W,Ln W g L rest->W.cell? ⟨g,j*5+1,Z⟩=X (E I z.r)/\W.cell? ⟨g,j*5+4,Z⟩=X (E Ip z.n)):=J fun W k=>by have:=Ln.cell k j hj;exact⟨this.2.1,this.2.2.2.2⟩
 have KK:=J K;have BB:=J<|E6 w.heap.size w;clear K hi hj hn;by_cases hr:x.r=z.r
 ·have d1:(x.r !=z.r)=Y:=by rw[hr];simp
  have ci: ∀y:Ext w,(Ex w y).cell? ⟨g,i*5+1,Z⟩=X (E I x.r):=fun y=>(CI.out _ (D.B KK.out (EC y))).1;have cj: ∀y:Ext w,(Ex w y).cell? ⟨g,j*5+1,Z⟩=X (E I z.r):=fun y=>(CJ.out _ (D.B KK.out (EC y))).1;have er:less x z=decide (x.n<z.n):=by unfold less;rw[if_pos hr]
  rw[er];clear er hr;go_enter Tryz.func273,Tryz.ntmps273;go_wp2_with fail;refine Uv Ec Ec ?_
  repeat (first
   |go_big_quiet_skip
   |(go_big_quiet_want
     first
      |(go_big_quiet_op
        first
         |go_big_quiet_on
         |go_big_quiet_call (fail))))
  refine wpQuiet_nil ?_;intro _ hw';obtain⟨y9,rfl⟩:=hw';have El:=EC y9;replace KK:Ea (Ln (Ex w y9) g L rest):=EN KK El;replace BB:=ET BB El;clear ci cj;generalize Ex w y9=w1 at*;go_wp2_with fail;have ci: ∀y:Ext w1,(Ex w1 y).cell? ⟨g,i*5+4,Z⟩=X (E Ip x.n):=fun y=>(CI.out _ (D.B KK.out (EC y))).2;have cj: ∀y:Ext w1,(Ex w1 y).cell? ⟨g,j*5+4,Z⟩=X (E Ip z.n):=fun y=>(CJ.out _ (D.B KK.out (EC y))).2;clear El;refine Uv Ec Ec ?_
  repeat (first
   |go_big_quiet_skip
   |(go_big_quiet_want
     first
      |(go_big_quiet_op
        first
         |go_big_quiet_on
         |go_big_quiet_call (fail))))
  refine wpQuiet_nil ?_;exact Ej4
 ·have d1:(x.r !=z.r)=G:=by simp[hr]
  have ci: ∀y:Ext w,(Ex w y).cell? ⟨g,i*5+1,Z⟩=X (E I x.r):=fun y=>(CI.out _ (D.B KK.out (EC y))).1;have cj: ∀y:Ext w,(Ex w y).cell? ⟨g,j*5+1,Z⟩=X (E I z.r):=fun y=>(CJ.out _ (D.B KK.out (EC y))).1;have er:less x z=decide (x.r<z.r):=by unfold less;rw[if_neg hr]
  rw[er];clear er hr;go_enter Tryz.func273,Tryz.ntmps273;go_wp2_with fail;refine Uv Ec Ec ?_
  repeat (first
   |go_big_quiet_skip
   |(go_big_quiet_want
     first
      |(go_big_quiet_op
        first
         |go_big_quiet_on
         |go_big_quiet_call (fail))))
  refine wpQuiet_nil ?_;intro _ hw';obtain⟨y9,rfl⟩:=hw';have El:=EC y9;replace KK:Ea (Ln (Ex w y9) g L rest):=EN KK El;replace BB:=ET BB El;clear ci cj;generalize Ex w y9=w1 at*;go_wp2_with fail;have ci: ∀y:Ext w1,(Ex w1 y).cell? ⟨g,i*5+1,Z⟩=X (E I x.r):=fun y=>(CI.out _ (D.B KK.out (EC y))).1;have cj: ∀y:Ext w1,(Ex w1 y).cell? ⟨g,j*5+1,Z⟩=X (E I z.r):=fun y=>(CJ.out _ (D.B KK.out (EC y))).1;clear El;refine Uv Ec Ec ?_
  repeat (first
   |go_big_quiet_skip
   |(go_big_quiet_want
     first
      |(go_big_quiet_op
        first
         |go_big_quiet_on
         |go_big_quiet_call (fail))))
  refine wpQuiet_nil ?_;exact Ej4
theorem ZM:ID EJ 171 5:=⟨⟨_,Tryz.underlying171,O⟩,Ec⟩
theorem KD(L:List One)(i:Nat){x:One}(h:L[i]?=X x)(y:One):Iv L=Iv (L.take i)++(x.v++Iv (L.drop (i+1)))/\Iv (L.set i y)=Iv (L.take i)++(y.v++Iv (L.drop (i+1))):=by
 obtain⟨hl,rfl⟩:=List.getElem?_eq_some_iff.1 h;have e: ∀(Y8:List One) (z:One),Iv (Y8++z::L.drop (i+1))=Iv Y8++(z.v++Iv (L.drop (i+1))):=fun Y8 z=>by simp[Iv]
 refine⟨?_,?_⟩;·rw[<-e,<-List.drop_eq_getElem_cons hl,List.take_append_drop]
 ·rw[<-e,List.set_eq_take_append_cons_drop,if_pos hl]
theorem Ln.set(K:Ln W g L rest)(i:Nat)(h:L[i]?=X x)(y:One):Ln (W.setCells g (i*5) y.v) g (L.set i y) rest:=by have hl:=(List.getElem?_eq_some_iff.1 h).1;obtain⟨e1,e2⟩:=KD L i h y;unfold Ln at*;rw[e1,List.append_assoc,List.append_assoc] at K;rw[e2,List.append_assoc,List.append_assoc];exact Xg y.v x.v _ (i*5) W K O KV
theorem Ln.there(K:Ln W g L rest)(i:Nat)(h:i<L.length):W.there g (i*5) 5:=by refine UR K ?_;rw[List.size_toArray,IL,ZL];omega
theorem Ln.ext(i:Nat)(h:L[i]?=X x):(Iv L++rest).toArray.extract (i*5) (i*5+5)=x.v.toArray:=by have hl:=(List.getElem?_eq_some_iff.1 h).1;obtain⟨e1,-⟩:=KD L i h x;rw[e1,List.append_assoc,List.append_assoc];exact YX _ _ _ _ _ KV O
theorem One.one(x:One):x.v.toArray.all (·.oneCell')=G:=Ac
theorem aY(g:Nat)(L:List One)(rest:List M)(n c:Nat)(i j:Nat)(x z:One)(hi:L[i]?=X x)(hj:L[j]?=X z)(hn:L.length=n)(w:H)(K:Ln w g L rest): Ef EJ 274 #[u (X ⟨g,0,Z⟩) n c,E I i,E I j] w fun e w'=>e=Eg (Es #[])/\Ln w' g ((L.set i z).set j x) rest/\EG g w w':=by
 have hi2:i<n:=Ky;have hj2:j<n:=Kz;have LI:=J (show i<L.length from U);have LJ:=J (show j<L.length from U);have HI:=J hi;have HJ:=J hj;obtain⟨z2,hz2⟩: ∃z2,(L.set i z)[j]?=X z2:=⟨_,List.getElem?_eq_getElem (by simpa using LJ.out)⟩;have HJ2:=J hz2;have KK:=J K;clear K hi hj hn hz2;go_enter Tryz.func274,Tryz.ntmps274;refine Kx (Ph:=fun p wq=>match p with|0=>Ln wq g L rest/\EG g w wq|1=>Ln wq g (L.set i z) rest/\EG g w wq|_=>Ln wq g ((L.set i z).set j x) rest/\EG g w wq) (If:=fun _ _=>True) (w.heap.size) [kq (u (X ⟨g,0,Z⟩) n c),kq (E I (i:Int)),kq (u (X ⟨g,0,Z⟩) n c),kq (E I (j:Int)),kq (u (X ⟨g,0,Z⟩) n c),kq (E I (j:Int)),kq (V (X ⟨g,j*5,Z⟩)),kq (EU z.v.toArray),kq (u (X ⟨g,0,Z⟩) n c),kq (E I (i:Int)),kq (V (X ⟨g,i*5,Z⟩)),kq (EU x.v.toArray),kq (V (X ⟨g,i*5,Z⟩)),.val (fun _=>True),kq (V (X ⟨g,j*5,Z⟩)),.val (fun _=>True)] [13,15] [(0,0),(0,0),(0,1),(0,1),(0,0),(0,0),(0,0),(0,0),(0,0),(0,0),(0,0),(0,0),(0,0),(0,0),(1,1),(1,1)] Ec Ec Ec Ec On Ec O (show List.Nodup ([]:List Ez) from EZ) dU ?hPh ?hR2 ?h0 ?hstep ?hend
 case hPh=>
  exact fun p w1 w2 h hr=>by
   have hb:=hr.Kr (E5 _) (fun k S cs hk=>by simp[kM] at hk);match p,h with
   |0,h=>exact⟨D.B h.1 hb,h.2.trans (EG.Eu hb)⟩
   |1,h=>exact⟨D.B h.1 hb,h.2.trans (EG.Eu hb)⟩
   |_+2,h=>exact⟨D.B h.1 hb,h.2.trans (EG.Eu hb)⟩
 case hR2=> intro T hT;simp[Kn.ty] at hT
 case h0=> exact⟨KK.out.drew,EG.Eu (I1 w)⟩
 case hstep=>
  refine⟨?_,?_,?_,?_,?_,?_,?_,?_,?_,?_,?_,?_,?_,?_,?_,?_,trivial⟩;all_goals first|intro xv wq p hlo hhi hp hd|intro xv wq hp hd
  all_goals simp only[EB,Ic,Ig,IJ,IU]
  ·exact EjQ
  ·exact EjQ
  ·exact Ej9
  ·exact Ej9
  ·exact EjQ
  ·exact EjQ
  ·obtain rfl:p=0:=U;have d4:xv 4=u (X ⟨g,0,Z⟩) n c:=hd.at 4 rfl;have d5:xv 5=E I (j:Int):=hd.at 5 rfl;exact Ir Jx.kept (Ei O) (by simp[go_sem,d4,d5,hj2]) O
  ·obtain rfl:p=0:=U;have d6:xv 6=V (X ⟨g,j*5,Z⟩):=hd.at 6 rfl;exact ah Jx.kept ZM (Ei O) ⟨O,d6⟩ (hp.1) O (Ln.ext j HJ.out) O
  ·exact EjQ
  ·exact EjQ
  ·obtain rfl:p=0:=U;have d8:xv 8=u (X ⟨g,0,Z⟩) n c:=hd.at 8 rfl;have d9:xv 9=E I (i:Int):=hd.at 9 rfl;exact Ir Jx.kept (Ei O) (by simp[go_sem,d8,d9,hi2]) O
  ·obtain rfl:p=0:=U;have d10:xv 10=V (X ⟨g,i*5,Z⟩):=hd.at 10 rfl;exact ah Jx.kept ZM (Ei O) ⟨O,d10⟩ (hp.1) O (Ln.ext i HI.out) O
  ·obtain rfl:p=0:=U;have d0:xv 0=u (X ⟨g,0,Z⟩) n c:=hd.at 0 rfl;have d1:xv 1=E I (i:Int):=hd.at 1 rfl;exact Ir Jx.kept (Ei O) (by simp[go_sem,d0,d1,hi2]) O
  ·have d12:xv 12=V (X ⟨g,i*5,Z⟩):=hd.at 12 rfl;have d7:xv 7=EU z.v.toArray:=hd.at 7 rfl;exact Kw ZM (Ei O) ⟨O,d12,d7⟩ (Ln.there hp.1 i (by simpa using LI.out)) O (One.one _) ⟨trivial,⟨Ln.set hp.1 i HI.out z,hp.2.trans (JX _ _ _)⟩⟩ trivial
  ·obtain rfl:p=1:=U;have d2:xv 2=u (X ⟨g,0,Z⟩) n c:=hd.at 2 rfl;have d3:xv 3=E I (j:Int):=hd.at 3 rfl;exact Ir Jx.kept (Ei O) (by simp[go_sem,d2,d3,hj2]) O
  ·have d14:xv 14=V (X ⟨g,j*5,Z⟩):=hd.at 14 rfl;have d11:xv 11=EU x.v.toArray:=hd.at 11 rfl;exact Kw ZM (Ei O) ⟨O,d14,d11⟩ (Ln.there hp.1 j (by simpa using LJ.out)) O (One.one _) ⟨trivial,⟨Ln.set hp.1 j HJ2.out x,hp.2.trans (JX _ _ _)⟩⟩ trivial
 case hend=> intro x2 W6 hp hr;clear hr;simp only[EB,Ic,Ig,IJ,IU];have HP:=J hp;clear hp;go_wp2_with fail;go_end0;exact⟨O,HP.out⟩
def Js:List One->List One
 |[a,b]=>if less b a then [b,a] else [a,b]
 |[a,b,c]=>if less b a then(if less c a then(if less c b then [c,b,a] else [b,c,a]) else [b,a,c]) else(if less c b then(if less c a then [c,a,b] else [a,c,b]) else [a,b,c])
 |l=>l
theorem fl: ∀(L:List One),(Js L).length=L.length
 |[]=>rfl
 |[_]=>rfl
 |[a,b]=>by simp only[Js];split<;>rfl
 |[a,b,c]=>by
  simp only[Js];repeat' split
  all_goals rfl
 |_::_::_::_::_=>rfl
theorem Ya(g:Nat)(a b:One)(rest:List M)(c:Nat)(w:H)(K:Ln w g [a,b] rest): Ef EJ 191 #[.iface 149 (u (X ⟨g,0,Z⟩) 2 c),E I 0,E I 2] w fun e w'=>e=Eg (Es #[])/\Ln w' g (Js [a,b]) rest/\EG g w w':=by
 have mL: ∀w,Sem.run EJ (method 460 149 (u (X ⟨g,0,Z⟩) 2 c) "Less") w= .ok (273,u (X ⟨g,0,Z⟩) 2 c) w:=fun _=>Ec;have mS: ∀w,Sem.run EJ (method 460 149 (u (X ⟨g,0,Z⟩) 2 c) "Swap") w= .ok (274,u (X ⟨g,0,Z⟩) 2 c) w:=fun _=>Ec;have eL: ∀(args:Array M) (W:H),(callFunc 273 args).run EJ W= .ok (.enter 273 args) W:=fun _ _=>Ec;have eS: ∀(args:Array M) (W:H),(callFunc 274 args).run EJ W= .ok (.enter 274 args) W:=fun _ _=>Ec;have K:=J K;have ON:=J<|EG.refl g w;go_enter Tryz.func191,Tryz.ntmps191;(iterate 2 go_wp2_with fail;refine wp_loop_rounds 3 ?_;rw[Ib]);go_wp2_with fail;have C1:Ef EJ 273 #[u (X ⟨g,0,Z⟩) 2 c,E I 1,E I 0] w _:=fk g [a,b] rest 2 c 1 0 b a O O O w K.out;replace C1:=J C1;cases l1:less b a;·rw[l1] at C1;(with_reducible refine C1.out.mono ?_);rintro e w1 ⟨rfl,b1⟩;replace K:Ea (Ln w1 g [a,b] rest):=EN K b1;replace ON:=J<|ON.out.trans (EG.Eu b1);have h1:=J l1;clear b1 C1 l1;go_wp2_with fail;rw[Ib];exact Ek0
 ·rw[l1] at C1;(with_reducible refine C1.out.mono ?_);rintro e w1 ⟨rfl,b1⟩;replace K:Ea (Ln w1 g [a,b] rest):=EN K b1;replace ON:=J<|ON.out.trans (EG.Eu b1);have h1:=J l1;clear b1 C1 l1;go_wp2_with fail;have C2:Ef EJ 274 #[u (X ⟨g,0,Z⟩) 2 c,E I 1,E I 0] w1 _:=aY g [a,b] rest 2 c 1 0 b a O O O w1 K.out;(with_reducible refine C2.mono ?_);rintro e w2 ⟨rfl,k2,o2⟩;replace K:Ea (Ln w2 g [b,a] rest):=J k2;replace ON:=J<|ON.out.trans o2;clear k2 o2 C2;(iterate 2 go_wp2_with fail;rw[Ib]);exact Ek0
theorem Yb(g:Nat)(a b d:One)(rest:List M)(c:Nat)(w:H)(K:Ln w g [a,b,d] rest): Ef EJ 191 #[.iface 149 (u (X ⟨g,0,Z⟩) 3 c),E I 0,E I 3] w fun e w'=>e=Eg (Es #[])/\Ln w' g (Js [a,b,d]) rest/\EG g w w':=by
 have mL: ∀w,Sem.run EJ (method 460 149 (u (X ⟨g,0,Z⟩) 3 c) "Less") w= .ok (273,u (X ⟨g,0,Z⟩) 3 c) w:=fun _=>Ec;have mS: ∀w,Sem.run EJ (method 460 149 (u (X ⟨g,0,Z⟩) 3 c) "Swap") w= .ok (274,u (X ⟨g,0,Z⟩) 3 c) w:=fun _=>Ec;have eL: ∀(args:Array M) (W:H),(callFunc 273 args).run EJ W= .ok (.enter 273 args) W:=fun _ _=>Ec;have eS: ∀(args:Array M) (W:H),(callFunc 274 args).run EJ W= .ok (.enter 274 args) W:=fun _ _=>Ec;have K:=J K;have ON:=J<|EG.refl g w;go_enter Tryz.func191,Tryz.ntmps191;go_wp2_with fail;refine wp_loop_rounds 4 ?_;rw[Ib];go_wp2_with fail;refine wp_loop_rounds 3 ?_;rw[Ib];go_wp2_with fail;have C1:Ef EJ 273 #[u (X ⟨g,0,Z⟩) 3 c,E I 1,E I 0] w _:=fk g [a,b,d] rest 3 c 1 0 b a O O O w K.out;replace C1:=J C1;cases l1:less b a
 ·
   rw[l1] at C1;(with_reducible refine C1.out.mono ?_);rintro e w1 ⟨rfl,b1⟩;replace K:Ea (Ln w1 g [a,b,d] rest):=EN K b1;replace ON:=J<|ON.out.trans (EG.Eu b1);have h1:=J l1;clear b1 C1 l1;go_wp2_with fail;rw[Ib];go_wp2_with fail;refine wp_loop_rounds 3 ?_;rw[Ib];go_wp2_with fail;have C2:Ef EJ 273 #[u (X ⟨g,0,Z⟩) 3 c,E I 2,E I 1] w1 _:=fk g [a,b,d] rest 3 c 2 1 d b O O O w1 K.out;replace C2:=J C2;cases l2:less d b;·rw[l2] at C2;(with_reducible refine C2.out.mono ?_);rintro e w2 ⟨rfl,b2⟩;replace K:Ea (Ln w2 g [a,b,d] rest):=EN K b2;replace ON:=J<|ON.out.trans (EG.Eu b2);have h2:=J l2;clear b2 C2 l2;go_wp2_with fail;rw[Ib];go_wp2_with fail;go_end0;refine⟨O,?_,ON.out⟩;simp only[Js,h1.out,h2.out,if_true,Bool.false_eq_true,if_false];exact K.out
   ·
     rw[l2] at C2;(with_reducible refine C2.out.mono ?_);rintro e w2 ⟨rfl,b2⟩;replace K:Ea (Ln w2 g [a,b,d] rest):=EN K b2;replace ON:=J<|ON.out.trans (EG.Eu b2);have h2:=J l2;clear b2 C2 l2;go_wp2_with fail;have C3:Ef EJ 274 #[u (X ⟨g,0,Z⟩) 3 c,E I 2,E I 1] w2 _:=aY g [a,b,d] rest 3 c 2 1 d b O O O w2 K.out;(with_reducible refine C3.mono ?_);rintro e w3 ⟨rfl,k3,o3⟩;replace K:Ea (Ln w3 g [a,d,b] rest):=J k3;replace ON:=J<|ON.out.trans o3;clear k3 o3 C3;go_wp2_with fail;rw[Ib];go_wp2_with fail;have C4:Ef EJ 273 #[u (X ⟨g,0,Z⟩) 3 c,E I 1,E I 0] w3 _:=fk g [a,d,b] rest 3 c 1 0 d a O O O w3 K.out;replace C4:=J C4;cases l4:less d a;·rw[l4] at C4;(with_reducible refine C4.out.mono ?_);rintro e w4 ⟨rfl,b4⟩;replace K:Ea (Ln w4 g [a,d,b] rest):=EN K b4;replace ON:=J<|ON.out.trans (EG.Eu b4);have h4:=J l4;clear b4 C4 l4;go_wp2_with fail;rw[Ib];exact EkC
     ·rw[l4] at C4;(with_reducible refine C4.out.mono ?_);rintro e w4 ⟨rfl,b4⟩;replace K:Ea (Ln w4 g [a,d,b] rest):=EN K b4;replace ON:=J<|ON.out.trans (EG.Eu b4);have h4:=J l4;clear b4 C4 l4;go_wp2_with fail;have C5:Ef EJ 274 #[u (X ⟨g,0,Z⟩) 3 c,E I 1,E I 0] w4 _:=aY g [a,d,b] rest 3 c 1 0 d a O O O w4 K.out;(with_reducible refine C5.mono ?_);rintro e w5 ⟨rfl,k5,o5⟩;replace K:Ea (Ln w5 g [d,a,b] rest):=J k5;replace ON:=J<|ON.out.trans o5;clear k5 o5 C5;(iterate 2 go_wp2_with fail;rw[Ib]);exact EkC
 ·
   rw[l1] at C1;(with_reducible refine C1.out.mono ?_);rintro e w1 ⟨rfl,b1⟩;replace K:Ea (Ln w1 g [a,b,d] rest):=EN K b1;replace ON:=J<|ON.out.trans (EG.Eu b1);have h1:=J l1;clear b1 C1 l1;go_wp2_with fail;have C6:Ef EJ 274 #[u (X ⟨g,0,Z⟩) 3 c,E I 1,E I 0] w1 _:=aY g [a,b,d] rest 3 c 1 0 b a O O O w1 K.out;(with_reducible refine C6.mono ?_);rintro e w6 ⟨rfl,k6,o6⟩;replace K:Ea (Ln w6 g [b,a,d] rest):=J k6;replace ON:=J<|ON.out.trans o6;clear k6 o6 C6;(iterate 2 go_wp2_with fail;rw[Ib]);go_wp2_with fail;refine wp_loop_rounds 3 ?_;rw[Ib];go_wp2_with fail;have C7:Ef EJ 273 #[u (X ⟨g,0,Z⟩) 3 c,E I 2,E I 1] w6 _:=fk g [b,a,d] rest 3 c 2 1 d a O O O w6 K.out;replace C7:=J C7;cases l7:less d a;·rw[l7] at C7;(with_reducible refine C7.out.mono ?_);rintro e w7 ⟨rfl,b7⟩;replace K:Ea (Ln w7 g [b,a,d] rest):=EN K b7;replace ON:=J<|ON.out.trans (EG.Eu b7);have h7:=J l7;clear b7 C7 l7;go_wp2_with fail;rw[Ib];go_wp2_with fail;go_end0;refine⟨O,?_,ON.out⟩;simp only[Js,h1.out,h7.out,if_true,Bool.false_eq_true,if_false];exact K.out
   ·
     rw[l7] at C7;(with_reducible refine C7.out.mono ?_);rintro e w7 ⟨rfl,b7⟩;replace K:Ea (Ln w7 g [b,a,d] rest):=EN K b7;replace ON:=J<|ON.out.trans (EG.Eu b7);have h7:=J l7;clear b7 C7 l7;go_wp2_with fail;have C8:Ef EJ 274 #[u (X ⟨g,0,Z⟩) 3 c,E I 2,E I 1] w7 _:=aY g [b,a,d] rest 3 c 2 1 d a O O O w7 K.out;(with_reducible refine C8.mono ?_);rintro e w8 ⟨rfl,k8,o8⟩;replace K:Ea (Ln w8 g [b,d,a] rest):=J k8;replace ON:=J<|ON.out.trans o8;clear k8 o8 C8;go_wp2_with fail;rw[Ib];go_wp2_with fail;have C9:Ef EJ 273 #[u (X ⟨g,0,Z⟩) 3 c,E I 1,E I 0] w8 _:=fk g [b,d,a] rest 3 c 1 0 d b O O O w8 K.out;replace C9:=J C9;cases l9:less d b;·rw[l9] at C9;(with_reducible refine C9.out.mono ?_);rintro e w9 ⟨rfl,b9⟩;replace K:Ea (Ln w9 g [b,d,a] rest):=EN K b9;replace ON:=J<|ON.out.trans (EG.Eu b9);have h9:=J l9;clear b9 C9 l9;go_wp2_with fail;rw[Ib];exact EkB
     ·rw[l9] at C9;(with_reducible refine C9.out.mono ?_);rintro e w9 ⟨rfl,b9⟩;replace K:Ea (Ln w9 g [b,d,a] rest):=EN K b9;replace ON:=J<|ON.out.trans (EG.Eu b9);have h9:=J l9;clear b9 C9 l9;go_wp2_with fail;have K_:Ef EJ 274 #[u (X ⟨g,0,Z⟩) 3 c,E I 1,E I 0] w9 _:=aY g [b,d,a] rest 3 c 1 0 d b O O O w9 K.out;(with_reducible refine K_.mono ?_);rintro e UD ⟨rfl,k10,kw⟩;replace K:Ea (Ln UD g [d,b,a] rest):=J k10;replace ON:=J<|ON.out.trans kw;clear k10 kw K_;(iterate 2 go_wp2_with fail;rw[Ib]);exact EkB
theorem Yc(w:H):Ef EJ 190 #[E Ip 2] w fun e w'=>e=Eg (E I 2)/\w=w':=by go_enter Tryz.func190,Tryz.ntmps190;go_wp2;go_ret;refine⟨congrArg Ending.returned (congrArg (E IntKind.i64) ?_),O⟩;show wrap64 (wrap64 (Lib.len8 2))=2;rw[Lib.len8_of 2 U U];have e:Lib.bitLenAux 64 2=2:=dU;simp[Lib.bitLen,wrap64,e]
theorem Yd(w:H):Ef EJ 190 #[E Ip 3] w fun e w'=>e=Eg (E I 2)/\w=w':=by go_enter Tryz.func190,Tryz.ntmps190;go_wp2;go_ret;refine⟨congrArg Ending.returned (congrArg (E IntKind.i64) ?_),O⟩;show wrap64 (wrap64 (Lib.len8 3))=2;rw[Lib.len8_of 3 U U];have e:Lib.bitLenAux 64 3=2:=dU;simp[Lib.bitLen,wrap64,e]
theorem Yf(A:Option Et)(c:Nat)(w:H): Ef EJ 109 #[.iface 149 (u A 0 c)] w fun e w'=>e=Eg (Es #[])/\w=w':=by have mL: ∀w,Sem.run EJ (method 460 149 (u A 0 c) "Len") w= .ok (272,u A 0 c) w:=fun _=>Ec;have eL: ∀(args:Array M) (W:H),(callFunc 272 args).run EJ W= .ok (.enter 272 args) W:=fun _ _=>Ec;go_enter Tryz.func109,Tryz.ntmps109;go_wp2_with fail;(with_reducible refine(aW A 0 c _).mono ?_);rintro e w2 ⟨rfl,rfl⟩;rw[show((0:Nat):Int)=0 from rfl];exact Emq
theorem sort_1(A:Option Et)(c:Nat)(w:H): Ef EJ 109 #[.iface 149 (u A 1 c)] w fun e w'=>e=Eg (Es #[])/\w=w':=by have mL: ∀w,Sem.run EJ (method 460 149 (u A 1 c) "Len") w= .ok (272,u A 1 c) w:=fun _=>Ec;have eL: ∀(args:Array M) (W:H),(callFunc 272 args).run EJ W= .ok (.enter 272 args) W:=fun _ _=>Ec;go_enter Tryz.func109,Tryz.ntmps109;go_wp2_with fail;(with_reducible refine(aW A 1 c _).mono ?_);rintro e w2 ⟨rfl,rfl⟩;rw[show((1:Nat):Int)=1 from rfl];exact Emq
theorem Yg(g:Nat)(a b:One)(rest:List M)(c:Nat)(w:H)(K:Ln w g [a,b] rest): Ef EJ 109 #[.iface 149 (u (X ⟨g,0,Z⟩) 2 c)] w fun e w'=>e=Eg (Es #[])/\Ln w' g (Js [a,b]) rest/\EG g w w':=by have K:=J K;have mL: ∀w,Sem.run EJ (method 460 149 (u (X ⟨g,0,Z⟩) 2 c) "Len") w= .ok (272,u (X ⟨g,0,Z⟩) 2 c) w:=fun _=>Ec;have eL: ∀(args:Array M) (W:H),(callFunc 272 args).run EJ W= .ok (.enter 272 args) W:=fun _ _=>Ec;go_enter Tryz.func109,Tryz.ntmps109;go_wp2_with fail;(with_reducible refine(aW _ 2 c _).mono ?_);rintro e w2 ⟨rfl,rfl⟩;go_wp2_with (first|(go_at_call 190;(with_reducible refine(Yc _).mono ?_);rintro e w2 ⟨rfl,rfl⟩)|(go_at_call 153;go_in)|(go_at_call 154;go_in));refine wp_loop_rounds 1 ?_;rw[Ib];go_wp2_with fail;(with_reducible refine(Ya g a b rest c _ K.out).mono ?_);exact EkL
theorem Yh(g:Nat)(a b d:One)(rest:List M)(c:Nat)(w:H)(K:Ln w g [a,b,d] rest): Ef EJ 109 #[.iface 149 (u (X ⟨g,0,Z⟩) 3 c)] w fun e w'=>e=Eg (Es #[])/\Ln w' g (Js [a,b,d]) rest/\EG g w w':=by have K:=J K;have mL: ∀w,Sem.run EJ (method 460 149 (u (X ⟨g,0,Z⟩) 3 c) "Len") w= .ok (272,u (X ⟨g,0,Z⟩) 3 c) w:=fun _=>Ec;have eL: ∀(args:Array M) (W:H),(callFunc 272 args).run EJ W= .ok (.enter 272 args) W:=fun _ _=>Ec;go_enter Tryz.func109,Tryz.ntmps109;go_wp2_with fail;(with_reducible refine(aW _ 3 c _).mono ?_);rintro e w2 ⟨rfl,rfl⟩;go_wp2_with (first|(go_at_call 190;(with_reducible refine(Yd _).mono ?_);rintro e w2 ⟨rfl,rfl⟩)|(go_at_call 153;go_in)|(go_at_call 154;go_in));refine wp_loop_rounds 1 ?_;rw[Ib];go_wp2_with fail;(with_reducible refine(Yb g a b d rest c _ K.out).mono ?_);exact EkL
theorem EP:ID EJ 109 8:=⟨⟨_,Tryz.underlying109,O⟩,Ec⟩
def Oo(h e o oa om la lm:Int)(b:Bool):Array M:= #[E I h,E I e,E I o,E I oa,E I om,E I la,E I lm,Eb b]
def EL.a(t:EL):M:=EU (Oo t.h t.e t.o t.oa t.om t.la t.lm t.bad)
theorem bR(h e o oa om la lm:Int)(b:Bool):(Oo h e o oa om la lm b).all (·.oneCell')=G:=by simp[Oo,Value.oneCell']
theorem Ad(t:EL)(IG e2:Int)(w:H): Ef EJ 67 #[t.a,E I IG,E I e2] w fun x w'=>x=Eg (t.pass IG e2).a/\Eh w w':=by unfold EL.a EL.pass Oo;obtain⟨h,e,o,oa,om,la,lm,b⟩:=t;simp only;go_enter Tryz.func67,Tryz.ntmps67;go_wp2_with fail;refine EQ (by simp[results,Tryz.results67,go_sem]) O ⟨O,?_⟩;exact X5 _ _ _ _
theorem ny(t:EL)(IG:Int)(w:H)(he: -9223372036854775808<=t.e): Ef EJ 140 #[t.a,E I IG] w fun x w'=>x=Eg (Es #[(t.Ow IG).1.a,E I (t.Ow IG).2])/\Eh w w':=by
 have CP:=J<|fun e2 W=>Ad t IG e2 W;unfold EL.Ow;unfold EL.a at*;obtain⟨h,e,o,oa,om,la,lm,b⟩:=t;simp only[EL.pass] at*;by_cases h1:IG<0;·rw[if_pos (.inl h1)];have d1:decide (IG<0)=G:=Ia h1;clear CP;exact Ei9
 have d1:decide (IG<0)=Y:=E9 h1;by_cases h2:5<=IG;·rw[if_pos (.inr h2)];have d2:decide (5<=IG)=G:=Ia h2;clear h1 h2 CP;exact Ei9
 have d2:decide (5<=IG)=Y:=E9 h2;rw[if_neg U];by_cases h3:IG=h
 ·rw[if_pos h3];have d3:(IG==h)=G:=by rw[h3];exact beq_self_eq_true _
  clear h1 h2 h3 CP;exact Ei9
 have d3:(IG==h)=Y:=beq_eq_false_iff_ne.2 h3;rw[if_neg h3];by_cases h4:65535<=e;·rw[if_pos h4];have d4:decide (65535<=e)=G:=Ia h4;clear h1 h2 h3 h4 CP;exact Ei9
 have d4:decide (65535<=e)=Y:=E9 h4;rw[if_neg h4];have we:IntKind.i64.wrap (e+1)=e+1:=nz;clear h1 h2 h3 h4 he;replace CP:=J<|CP.out (e+1);obtain⟨r,hr⟩:=En (Oo IG (e+1) (-1) 0 0 0 0 b);rw[<-hr] at CP⊢;have SR:Ea (r.size=8):=J qJ;have OR:Ea (r.all (·.oneCell')=G):=J u0;clear hr;unfold Oo at*;go_enter Tryz.func140,Tryz.ntmps140;go_wp2_with fail;have K4:=J<|D.new' (w.alloc (EI #[E I h,E I e,E I o,E I oa,E I om,E I la,E I lm,Eb b] 109)) #[E I 0,E I 0,E I 0,E I 0,E I 0,E I 0,E I 0,Eb Y] 109 (g:=w.heap.size+1) Ek;have BB:=J<|JF w (EI #[E I h,E I e,E I o,E I oa,E I om,E I la,E I lm,Eb b] 109) (EI #[E I 0,E I 0,E I 0,E I 0,E I 0,E I 0,E I 0,Eb Y] 109);generalize (w.alloc (EI #[E I h,E I e,E I o,E I oa,E I om,E I la,E I lm,Eb b] 109)).alloc (EI #[E I 0,E I 0,E I 0,E I 0,E I 0,E I 0,E I 0,Eb Y] 109)=w1 at*;(with_reducible refine(CP.out _).mono ?_);rintro x w2 ⟨rfl,b2⟩;replace K4:=J<|K4.out.B b2;replace BB:=ET BB b2;clear b2;go_wp2_with (with_reducible refine wS (cs:=r) EP K4 ?_ (hn:=SR.out) (h1:=OR.out));refine EQ (O0 EP O _ _ (w.heap.size+1) r _ O O (K4.out.setRow r) SR.out) O ⟨O,?_⟩;exact EmU
theorem qO(t:EL)(w:H)(h1: -9223372036854775808<=t.e): Ef EJ 96 #[t.a] w fun x w'=>x=Eg t.ZK.a/\Eh w w':=by
 have CP:=J<|fun e2 W=>Ad t 4 e2 W;have CS:=J<|fun W=>pH t.e 65535 W h1 U;unfold EL.ZK;unfold EL.a at*;obtain⟨h,e,o,oa,om,la,lm,b⟩:=t;simp only[EL.pass] at*;clear h1;by_cases h4:h=4
 ·rw[if_neg dX];have d4:(h !=4)=Y:=by rw[h4];rfl
  clear CS;subst h4;replace CP:=J<|CP.out e;obtain⟨r,hr⟩:=En (Oo 4 e (-1) 0 0 0 0 b);rw[<-hr] at CP⊢;have SR:Ea (r.size=8):=J qJ;have OR:Ea (r.all (·.oneCell')=G):=J u0;clear hr;unfold Oo at*;go_enter Tryz.func96,Tryz.ntmps96;go_wp2_with fail;have K4:=J<|D.new' (w.alloc (EI #[E I 4,E I e,E I o,E I oa,E I om,E I la,E I lm,Eb b] 109)) #[E I 0,E I 0,E I 0,E I 0,E I 0,E I 0,E I 0,Eb Y] 109 (g:=w.heap.size+1) Ek;have BB:=J<|JF w (EI #[E I 4,E I e,E I o,E I oa,E I om,E I la,E I lm,Eb b] 109) (EI #[E I 0,E I 0,E I 0,E I 0,E I 0,E I 0,E I 0,Eb Y] 109);generalize (w.alloc (EI #[E I 4,E I e,E I o,E I oa,E I om,E I la,E I lm,Eb b] 109)).alloc (EI #[E I 0,E I 0,E I 0,E I 0,E I 0,E I 0,E I 0,Eb Y] 109)=w1 at*;exact EiY
 ·rw[if_pos h4];have d4:(h !=4)=G:=dX;generalize sat e 65535=e2 at*;replace CP:=J<|CP.out e2;obtain⟨r,hr⟩:=En (Oo 4 e2 (-1) 0 0 0 0 b);rw[<-hr] at CP⊢;have SR:Ea (r.size=8):=J qJ;have OR:Ea (r.all (·.oneCell')=G):=J u0;clear hr h4;unfold Oo at*;go_enter Tryz.func96,Tryz.ntmps96;go_wp2_with fail;(with_reducible refine(CS.out _).mono ?_);rintro x w2 ⟨rfl,rfl⟩;go_wp2_with fail;have K4:=J<|D.new' (w.alloc (EI #[E I h,E I e,E I o,E I oa,E I om,E I la,E I lm,Eb b] 109)) #[E I 0,E I 0,E I 0,E I 0,E I 0,E I 0,E I 0,Eb Y] 109 (g:=w.heap.size+1) Ek;have BB:=J<|JF w (EI #[E I h,E I e,E I o,E I oa,E I om,E I la,E I lm,Eb b] 109) (EI #[E I 0,E I 0,E I 0,E I 0,E I 0,E I 0,E I 0,Eb Y] 109);generalize (w.alloc (EI #[E I h,E I e,E I o,E I oa,E I om,E I la,E I lm,Eb b] 109)).alloc (EI #[E I 0,E I 0,E I 0,E I 0,E I 0,E I 0,E I 0,Eb Y] 109)=w1 at*;exact EiY
theorem Yi(t:EL)(s:Int)(w:H): Ef EJ 146 #[t.a,E I s] w fun x w'=>x=Eg (Es #[(t.drop s).1.a,Eb (t.drop s).2])/\Eh w w':=by
 unfold EL.drop;unfold EL.a;obtain⟨h,e,o,oa,om,la,lm,b⟩:=t;simp only[EL.end_];by_cases h1:o<0;·rw[if_pos (.inl h1)];have d1:decide (0<=o)=Y:=E9 U;unfold Oo;clear h1;exact Em4
 have d1:decide (0<=o)=G:=Ia U;by_cases h2:o=s;·rw[if_neg U];have d2:(o !=s)=Y:=u1;unfold Oo;clear h1;subst h2;go_enter Tryz.func146,Tryz.ntmps146;go_wp2;refine EQ (v:=EU #[E I h,E I e,E I (-1),E I 0,E I 0,E I la,E I lm,Eb b]) Ag O ?_;exact Em6
 ·rw[if_pos (.inr h2)];have d2:(o !=s)=G:=u2;unfold Oo;clear h1 h2;exact Em4
theorem Yj(t:EL)(s:Int)(w:H): Ef EJ 180 #[t.a,E I s] w fun x w'=>x=Eg (Es #[(t.kj s).1.a,E I (t.kj s).2])/\Eh w w':=by
 unfold EL.kj;unfold EL.a;obtain⟨h,e,o,oa,om,la,lm,b⟩:=t;simp only[EL.end_];by_cases h1:o<0;·rw[if_pos (.inl h1)];have d1:decide (0<=o)=Y:=E9 U;unfold Oo;clear h1;exact Em3
 have d1:decide (0<=o)=G:=Ia U;by_cases h2:o=s;·rw[if_neg U];have d2:(o !=s)=Y:=u1;unfold Oo;clear h1;subst h2;go_enter Tryz.func180,Tryz.ntmps180;go_wp2;refine EQ (v:=EU #[E I h,E I e,E I (-1),E I 0,E I 0,E I la,E I lm,Eb b]) Ag O ?_;exact Em5
 ·rw[if_pos (.inr h2)];have d2:(o !=s)=G:=u2;unfold Oo;clear h1 h2;exact Em3
theorem Yk(t:EL)(w:H):Ef EJ 150 #[t.a] w fun x w'=>x=Eg t.end_.a/\Eh w w':=by unfold EL.a;obtain⟨h,e,o,oa,om,la,lm,b⟩:=t;simp only[EL.end_];unfold Oo;go_enter Tryz.func150,Tryz.ntmps150;go_wp2;refine EQ Ag O ⟨O,?_⟩;exact Eh7
theorem Yl(t:EL)(w:H)(h1: -9223372036854775808<=t.oa)(h3:t.om<=9223372036854775807): Ef EJ 104 #[t.a] w fun x w'=>x=Eg (Es #[t.OM.1.a,E I t.OM.2])/\Eh w w':=by
 have CS:=J<|fun W=>pH t.oa t.om W h1 h3;have CE:=J<|fun W=>Yk {t with oa:=sat t.oa t.om} W;unfold EL.OM;unfold EL.a at*;obtain⟨h,e,o,oa,om,la,lm,b⟩:=t;simp only[EL.end_] at*;clear h1 h3;by_cases h1:o<0;·rw[if_pos h1];have d1:decide (0<=o)=Y:=E9 U;unfold Oo;clear h1 CS CE;go_enter Tryz.func104,Tryz.ntmps104;go_wp2;refine EQ LO O ⟨O,?_⟩;exact Eh7
 have d1:decide (0<=o)=G:=Ia U;rw[if_neg h1];generalize sat oa om=a2 at*;clear h1;by_cases h2:a2<om;·rw[if_pos h2];have d2:decide (om<=a2)=Y:=E9 U;clear h2 CE;unfold Oo at*;go_enter Tryz.func104,Tryz.ntmps104;go_wp2_with (first|(go_at_call 90;(with_reducible refine(CS.out _).mono ?_);rintro x w9 ⟨rfl,rfl⟩)|go_in);refine EQ (v:=EU #[E I a2,E I om]) zY O ?_;go_wp2;refine EQ LO O ⟨O,?_⟩;exact Eh7
 ·rw[if_neg h2];have d2:decide (om<=a2)=G:=Ia U;clear h2;obtain⟨r,hr⟩:=En (Oo h e (-1) 0 0 la lm b);rw[<-hr] at CE⊢;have SR:Ea (r.size=8):=J qJ;have OR:Ea (r.all (·.oneCell')=G):=J u0;clear hr;unfold Oo at*;go_enter Tryz.func104,Tryz.ntmps104;go_wp2_with (first|(go_at_call 90;(with_reducible refine(CS.out _).mono ?_);rintro x w9 ⟨rfl,rfl⟩)|go_in);refine EQ (v:=EU #[E I a2,E I om]) zY O ?_;go_wp2_with (first|(go_at_call 90;(with_reducible refine(CS.out _).mono ?_);rintro x w9 ⟨rfl,rfl⟩)|go_in);generalize hW:World.alloc _ _=W at*;have K1:Ea (D W w.heap.size #[E I h,E I e,E I o,E I a2,E I om,E I la,E I lm,Eb b] 109):=J (by subst hW;repeat (first|exact D.new _ _ _|refine D.alloc ?_ _));have K2:Ea (D W (w.heap.size+1) #[E I 0,E I 0,E I 0,E I 0,E I 0,E I 0,E I 0,Eb Y] 109):=J (by subst hW;repeat (first|exact D.new' (w.alloc _) _ _ Ek|refine D.alloc ?_ _));have BB:Ea (Eh w W):=J (by subst hW;(repeat (first|exact E6 _ _|(refine Below.alloc ?_ Io _)|(refine Below.setCell ?_ Io _))));clear hW;refine Kx (Ph:=fun _ wq=>D wq w.heap.size #[E I h,E I e,E I o,E I a2,E I om,E I la,E I lm,Eb b] 109/\(∃c,c.size=8/\D wq (w.heap.size+1) c 109)/\Eh w wq) (If:=fun w w'=>w=w') (W.heap.size) [kq (EU #[E I h,E I e,E I o,E I a2,E I om,E I la,E I lm,Eb b]),kq (EU r),kq (V (X ⟨w.heap.size,2,Z⟩)),kq (E I o),.onto (w.heap.size+1) 109 (r),kq (E I o)] [] [(0,0),(0,0),(0,0),(0,0),(0,0),(0,0)] Ec Ec Ec Ec On Ec O (show List.Nodup ([109]:List Ez) from EZ) dU ?hPh ?hR2 ?h0 ?hstep ?hend;case hPh=>exact fun _ w1 w2 h hr=>⟨hr.Em h.1 (by simp[kM]),by obtain⟨c,hs,hk⟩:=h.2.1;obtain⟨c2,hs2,hk2⟩:=hr.some hk;exact⟨c2,hs2.trans hs,hk2⟩,h.2.2.trans (hr.Kr h.2.2.size (fun k S cs hk=>YU hk (by intro g T c hm;simp at hm;obtain⟨rfl,-⟩:=hm;omega) Ai))⟩
  case hR2=>exact fun _ _ _ _ _ _ h k=>k▸h
  case h0=>exact⟨K1.out.drew,⟨_,O,K2.out.drew⟩,BB.out.drew⟩
  case hstep=>
   refine⟨?_,?_,?_,?_,?_,?_,trivial⟩;·intro x wq p hlo hhi hp hd;simp only[EB,Ic,Ig,IJ,IU];exact fi Jx.kept EP (Ei O) ⟨O,O⟩ (hp.1) O O
   ·intro x wq p hlo hhi hp hd;simp only[EB,Ic,Ig,IJ,IU];have d0:x 0=EU #[E I h,E I e,E I o,E I a2,E I om,E I la,E I lm,Eb b]:=hd.at 0 rfl;refine IY (f:=150) (args:= #[x 0]) (Ei O) Ew ?_;rw[d0];exact(CE.out wq).mono fun e w2 ⟨he,hb⟩=>⟨_,he,Jx.B hb,O⟩
   ·intro x wq p hlo hhi hp hd;simp only[EB,Ic,Ig,IJ,IU];exact Ej9
   ·intro x wq p hlo hhi hp hd;simp only[EB,Ic,Ig,IJ,IU];have d2:x 2=V (X ⟨w.heap.size,2,Z⟩):=hd.at 2 rfl;have cc:wq.cell? ⟨w.heap.size,2,Z⟩=X (E I o):=(D.cell hp.1 2).trans O;exact Ir Jx.kept (Ei O) ZN O
   ·intro x wq p hlo hhi hp hd;simp only[EB,Ic,Ig,IJ,IU];have d1:x 1=EU r:=hd.at 1 rfl;obtain⟨cz,hz,kz⟩:=hp.2.1;exact ag EP (Ei O) ⟨O,O,d1⟩ (kz) hz SR.out OR.out (Jx.setRow (kz) (by simp[kM]) (by rw[SR.out,hz])) (D.setRow (kz) _)
   ·intro x wq p hlo hhi hp hd;simp only[EB,Ic,Ig,IJ,IU];have d3:x 3=E I o:=hd.at 3 rfl;exact Ir Jx.kept (Ei O) Xi O
  case hend=> intro x W6 hp hr;have d5:x 5=E I o:=hr 5 EZ;have k4:D W6 (w.heap.size+1) r 109:=hr 4 EZ;simp only[EB,Ic,Ig,IJ,IU];rw[d5];have u3:=J hp.2.2;clear hr hp d5 K1 K2;go_wp2_with fail;refine EQ (O0 EP O _ _ (w.heap.size+1) r _ O O k4 SR.out) O ⟨O,u3.out⟩
def Own(w:H)(base:Nat)(A:Option Et)(cap:Nat)(xs:List Int):Prop:=
 w.ownsRow base 5 1 (u A xs.length cap) xs.length (xs.map (E .u8))/\ ∀x∈xs,0<=x/\x<=255
theorem Own.row(h:Own w base A cap xs):Row w A xs:=by
 obtain⟨h,hb⟩:=h;refine⟨?_,hb⟩;rcases h.2 with⟨hv,hn⟩|⟨g,cap',cur,hv,hg,hh,hl,hm,hs,ht⟩;·exact .inl (List.eq_nil_of_length_eq_zero hn)
 ·right;injection hv with h1 h2 h3;refine⟨g,0,h1,fun i hi=> ?_⟩;subst h1;have:=h.cellAt i U;rw[Nat.zero_add,this];simp[hi]
theorem Own.Ym(h:Own w base A cap xs):uu w (u A xs.length cap):=by
 refine⟨A,xs,cap,O,?_,?_,h.row,?_⟩
 all_goals
  rcases h.1.2 with⟨hv,hn⟩|⟨g,cap',cur,hv,hg,hh,hl,hm,hs,ht⟩
  ·simp at hv;first|omega|(intro _;exact hv.2.2)
  ·injection hv with h1 h2 h3;subst h1 h3;unfold maxLen at hm;first|omega|(intro h;cases h)
theorem XJ(w:H)(base:Nat):Own w base Z 0 []:=⟨World.ownsRow_nil _ _ _ _,fun x hx=>pK⟩
theorem Aj(w:H)(base:Nat)(hb:base<=w.heap.size):Own (w.alloc (EI #[] 5)) base (X ⟨w.heap.size,0,Z⟩) 0 []:=
 ⟨World.ownsRow_lit w #[] 0 hb Ob O,fun x hx=>pK⟩
theorem XF(h:Own w base A cap xs)(hb:Eh w w'):Own w' base A cap xs:=by
 refine⟨?_,h.2⟩;obtain⟨h1,h2⟩:=h.1;refine⟨h1,?_⟩;rcases h2 with h2|⟨g,cap',cur,hv,hg,hh,hl⟩;·exact .inl h2
 ·refine .inr ⟨g,cap',cur,hv,hg,?_,hl⟩;rw[hb.block g ?_];·exact hh
  ·rcases Nat.lt_or_ge g w.heap.size with h|h;·exact h
   ·rw[Array.getElem?_eq_none h] at hh;cases hh
theorem Yn(w:H)(base:Nat)(A:Option Et)(cap:Nat)(xs:List Int)(hown:Own w base A cap xs)(Y4:Option Et)(c:Nat)(ys:List Int)(hr:Row w Y4 ys) (hsmall:xs.length+ys.length<=1000000000) (hbase:base<=w.heap.size) (ty:Ez): ∃A' cap' w',(Builtin.append_ #[23,23] ty #[u A xs.length cap,u Y4 ys.length c]).run EJ w= .ok (u A' (xs.length+ys.length) cap') w'/\ Own w' base A' cap' (xs++ys)/\Below base w w':=by
 obtain⟨i0,hi,hz0,hz1,hz2⟩:=info_parts iS
 have hbb: ∀x∈xs++ys,0<=x/\x<=255:=by
  intro x hx;rcases List.mem_append.1 hx with h|h;·exact hown.2 x h
  ·exact hr.2 x h
 rcases Y4 with _|ad
 ·have hy:ys=[]:=by
   rcases hr.1 with h|⟨b,off,h,_⟩;·exact h
   ·cases h
  subst hy;refine⟨A,cap,w,?_,Ak,E6 _ _⟩;rcases hown.1.2 with⟨hv,hn⟩|⟨g,cap',cur,hv,_,_,hnc,_⟩;·exact EkE
  ·exact EkI
 ·have hcells: ∀(j:Nat) Y3,(ys.map (E .u8))[j]?=X Y3->w.cell? (ad.add j)=X Y3:=by
   intro j Y3 hu
   have hj:j<ys.length:=by
    rcases Nat.lt_or_ge j ys.length with h|h;·exact h
    ·exact ElQ
   rcases hr.1 with h|⟨b,off,h,hc⟩;·subst h;simp at hj
   ·exact Ek7
  obtain⟨v',w',hrun,h2,h3,_,h5⟩:=run_append_own_at (P:=EJ) w base 23 ty 5 i0 (E IB 0) 1 1 Tryz.underlying23 hi hz0 hz1 hz2 O U _ _ _ hown.1 ad ys.length c (ys.map (E .u8)) Ek hcells
   LU Ob U hbase
  have hbel:Below base w w':=by refine(E6 _ _).grown h3 hbase (fun k hk=> ?_);exact(hown.1.lt k hk).1
  rcases h2.2 with⟨hv,hn⟩|⟨g,cap',cur,hv,hrest⟩
  ·refine⟨Z,0,w',?_,⟨?_,hbb⟩,hbel⟩;·rw[hrun,hv,hn]
   ·exact EkW
  ·refine⟨X ⟨g,0,Z⟩,cap',w',by rw[hrun,hv],⟨?_,hbb⟩,hbel⟩;rw[hv] at h2;rw[IL,List.map_append];exact h2
theorem qU{rest:List EK}{a:Act}(w:H)(hgd:o.guard=Z)(s x:Operand) (ho:o.op= .call {callee:= .builtin .append,args:= #[s,x],argTypes:= #[23,23]}) (base:Nat) (A:Option Et) (cap n:Nat) (xs:List Int) (hn:xs.length=n) (hs:a.eval s=u A n cap) (hown:Own w base A cap xs) (Y4:Option Et) (c m:Nat) (ys:List Int) (hm:ys.length=m) (hx:a.eval x=u Y4 m c) (hr:Row w Y4 ys) (hsmall:n+m<=1000000000) (hbase:base<=w.heap.size) (h: ∀A' cap' w',Own w' base A' cap' (xs++ys)->Below base w w'->wpList EJ ops Q rest (a.put o.dst (u A' (n+m) cap')) w'):wpList EJ ops Q (o::rest) a w:=by subst hn hm;refine wpList_plain hgd fun K hK=> ?_;obtain⟨A',cap',w',hrun,h2,h3⟩:=Yn w base A cap xs hown Y4 c ys hr hsmall hbase o.type;unfold Oper.wp execOp;simp only[ho,resolve,invoke,builtin,Sem.run_bind,Sem.run_pure,Result.andThen_ok,List.map_toArray,List.map_cons,List.map_nil,hs,hx,hrun];exact hK _ _ (h A' cap' w' h2 h3)
def qX(A:Option Et)(k:Nat):Prop:= ∀a,A=X a->a.block≠k
theorem u4(w:H)(base:Nat)(A:Option Et)(cap:Nat)(xs:List Int)(hown:Own w base A cap xs)(Y4:Option Et)(c:Nat)(ys:List Int)(hr:Row w Y4 ys) (hsmall:xs.length+ys.length<=1000000000) (hbase:base<=w.heap.size) (ty:Ez): ∃A' cap' w',(Builtin.append_ #[23,23] ty #[u A xs.length cap,u Y4 ys.length c]).run EJ w= .ok (u A' (xs.length+ys.length) cap') w'/\ Own w' base A' cap' (xs++ys)/\Below base w w'/\(∀k,k<w.heap.size->qX A k->w'.heap[k]?=w.heap[k]?/\qX A' k):=by
 obtain⟨i0,hi,hz0,hz1,hz2⟩:=info_parts iS
 have hbb: ∀x∈xs++ys,0<=x/\x<=255:=by
  intro x hx;rcases List.mem_append.1 hx with h|h;·exact hown.2 x h
  ·exact hr.2 x h
 rcases Y4 with _|ad
 ·have hy:ys=[]:=by
   rcases hr.1 with h|⟨b,off,h,_⟩;·exact h
   ·cases h
  subst hy;refine⟨A,cap,w,?_,Ak,E6 _ _,fun k _ hA=>⟨O,hA⟩⟩;rcases hown.1.2 with⟨hv,hn⟩|⟨g,cap',cur,hv,_,_,hnc,_⟩;·exact EkE
  ·exact EkI
 ·have hcells: ∀(j:Nat) Y3,(ys.map (E .u8))[j]?=X Y3->w.cell? (ad.add j)=X Y3:=by
   intro j Y3 hu
   have hj:j<ys.length:=by
    rcases Nat.lt_or_ge j ys.length with h|h;·exact h
    ·exact ElQ
   rcases hr.1 with h|⟨b,off,h,hc⟩;·subst h;simp at hj
   ·exact Ek7
  obtain⟨v',w',hrun,h2,h3,h4,h5⟩:=run_append_own_at (P:=EJ) w base 23 ty 5 i0 (E IB 0) 1 1 Tryz.underlying23 hi hz0 hz1 hz2 O U _ _ _ hown.1 ad ys.length c (ys.map (E .u8)) Ek hcells
   LU Ob U hbase
  have hbel:Below base w w':=(E6 _ _).grown h3 hbase (fun k hk=>(hown.1.lt k hk).1)
  have hblk: ∀k,k<w.heap.size->qX A k->w'.heap[k]?=w.heap[k]?:=by
   intro k hk hA;refine h3.block k hk ?_;cases A with
   |none=>simp[Value.ownBlock]
   |some a=>simpa[Value.ownBlock] using Ne.symm (hA a O)
  rcases h2.2 with⟨hv,hn⟩|⟨g,cap',cur,hv,hrest⟩
  ·refine⟨Z,0,w',?_,⟨?_,hbb⟩,hbel,fun k hk hA=>⟨hblk k hk hA,fun a ha=>by cases ha⟩⟩;·rw[hrun,hv,hn]
   ·exact EkW
  ·refine⟨X ⟨g,0,Z⟩,cap',w',by rw[hrun,hv],⟨?_,hbb⟩,hbel,fun k hk hA=>⟨hblk k hk hA,?_⟩⟩;·rw[hv] at h2;rw[IL,List.map_append];exact h2
   ·intro a ha;injection ha with ha;subst ha;rw[hv] at h5;rcases h5 with h5|h5
    ·cases A with
     |none=>simp[Value.ownBlock] at h5
     |some a=>simp[Value.ownBlock] at h5;rw[h5];exact hA a O
    ·simp[Value.ownBlock] at h5;rw[h5];show w.heap.size≠k;omega
theorem i_{rest:List EK}{a:Act}(w:H)(hgd:IQ o (yielded ops a.tmps)=G)(s x:Operand) (ho:o.op= .call {callee:= .builtin .append,args:= #[s,x],argTypes:= #[23,23]}) (base:Nat) (A:Option Et) (cap n:Nat) (xs:List Int) (hn:xs.length=n) (hs:a.eval s=u A n cap) (hown:Own w base A cap xs) (Y4:Option Et) (c m:Nat) (ys:List Int) (hm:ys.length=m) (hx:a.eval x=u Y4 m c) (hr:Row w Y4 ys) (hsmall:n+m<=1000000000) (hbase:base<=w.heap.size) (h: ∀A' cap' w',Own w' base A' cap' (xs++ys)->Below base w w'->(∀k,k<w.heap.size->qX A k->w'.heap[k]?=w.heap[k]?/\qX A' k)->wpList EJ ops Q rest (a.put o.dst (u A' (n+m) cap')) w'):wpList EJ ops Q (o::rest) a w:=by subst hn hm;obtain⟨A',cap',w',hrun,h2,h3,h4⟩:=u4 w base A cap xs hown Y4 c ys hr hsmall hbase o.type;refine JT hgd (v:=u A' (xs.length+ys.length) cap') (w':=w') ?_ (h A' cap' w' h2 h3 h4);exact Ekg
def fm(b0:Nat)(T:Ez)(N:Nat)(ys:List M)(w w':H):Prop:=
 w.heap.size<=w'.heap.size/\(b0<=w.heap.size->Below b0 w w')/\
 ∀(g:Nat) (cs:Array M) (S:Ez),w.heap[g]?=X (EI cs S (0,0))-> ∃cs':Array M,w'.heap[g]?=X (EI cs' S (0,0))/\cs'.size=cs.size/\(S≠T->cs'=cs)/\ ∀j:Nat,cs'[j]?=cs[j]?\/(N<=j/\j<N+ys.length/\cs'[j]?=ys[j-N]?)
section
variable{b0:Nat}{T:TypeId}{N:Nat}{ys:List Value}
theorem dZ:Kept (fm b0 T N ys):=by
 refine⟨fun w=>⟨E5 _,fun _=>E6 _ _,fun g cs S h=>⟨cs,h,O,fun _=>rfl,fun j=> .inl O⟩⟩,?_,fun w=>⟨E5 _,fun _=>(E6 _ _).drew,fun g cs S h=>⟨cs,h,O,fun _=>rfl,fun j=> .inl O⟩⟩⟩;rintro a b c ⟨h1,h2,h3⟩ ⟨k1,k2,k3⟩;refine⟨Ey h1 k1,fun h=>(h2 h).trans (k2 (Ey h h1)),fun g cs S h=> ?_⟩;obtain⟨cs1,e1,s1,t1,j1⟩:=h3 g cs S h;obtain⟨cs2,e2,s2,t2,j2⟩:=k3 g cs1 S e1;refine⟨cs2,e2,s2.trans s1,fun hS=>(t2 hS).trans (t1 hS),fun j=> ?_⟩;rcases j2 j with h|h
 ·rcases j1 j with h'|⟨p,q,r⟩;·exact .inl (h.trans h')
  ·exact .inr ⟨p,q,h.trans r⟩
 ·exact .inr h
theorem qZ(hb:Eh w w'):fm b0 T N ys w w':=
 ⟨hb.size,fun h=>hb.mono h,fun g cs S h=>⟨cs,Uu h hb,O,fun _=>rfl,fun j=> .inl O⟩⟩
theorem XQ(h:fm b0 T N ys w w')(hk:D w g cs S)(hS:S≠T):D w' g cs S:=by obtain⟨cs',e,-,t,-⟩:=h.2.2 g cs S hk;rw[t hS] at e;exact e
theorem jE(h:fm b0 T N ys w w'){size:Nat}{v:M}{xs:List M}(ho:w.ownsRow base T size v n xs) (hx: ∀j,N<=j->j<N+ys.length->j<xs.length->xs[j]?=ys[j-N]?):w'.ownsRow base T size v n xs:=by
 obtain⟨h1,h2⟩:=ho;refine⟨h1,?_⟩;rcases h2 with h2|⟨g,cap,cur,rfl,hg,hh,hnc,hm,hs,ht⟩;·exact .inl h2
 ·obtain⟨cs',e,s,-,hj⟩:=h.2.2 g cur T hh;refine .inr ⟨g,cap,cs',O,hg,e,hnc,hm,s.trans hs,?_⟩;apply List.ext_getElem?;intro j;by_cases hlt:j<xs.length
  ·have h3:xs[j]?=cur[j]?:=by rw[<-ht,List.getElem?_take_of_lt U];simp
   rw[List.getElem?_take_of_lt U,Array.getElem?_toList];rcases hj j with h4|⟨p,q,r⟩;·rw[h4,h3]
   ·rw[r,hx j p q hlt]
  ·rw[List.getElem?_eq_none JJ,List.getElem?_eq_none U]
end
theorem a_(w:H)(b0 base:Nat)(t ty e:Ez)(i:TypeInfo)(z:M)(size bytes:Nat)(ht:P.underlying t=X (.slice e))(hi:P.info? e=X i)(hz:i.zero=X z) (hsize:i.size=size) (hby:i.bytes=bytes) (hzs:z.cells.size=size) (A:Option Et) (cap n:Nat) (xs:List M) (hown:w.ownsRow base e size (u A n cap) n xs) (a:Et) (m c:Nat) (news:List M) (hl:news.length=m*size) (hnews: ∀j Y3,news[j]?=X Y3->w.cell? (a.add j)=X Y3) (h1: ∀Y3∈news,Y3.oneCell'=G) (hm:A=Z->0<m) (h63:n+m<=maxLen) (hbytes:(n+m)*bytes<=140737488355328) (hbase:base<=w.heap.size) (hb0:b0<=base): ∃A' cap' w',(Builtin.append_ #[t,t] ty #[u A n cap,u (X a) m c]).run P w= .ok (u A' (n+m) cap') w'/\w'.ownsRow base e size (u A' (n+m) cap') (n+m) (xs++news)/\fm b0 e (n*size) news w w'/\A'≠Z/\(cap<n+m->Eh w w'):=by
 subst hsize;subst hby;have hsmall:n+m<=9223372036854775807:=Am;have hlen:(xs++news).length=(n+m)*i.size:=by rw[IL,hown.1,hl,Nat.add_mul]
 have made: ∀old:Nat,(w.drew.alloc (EI (xs.toArray++news.toArray++Builtin.zeroCells z.cells (grownCap w (n+m) old e-(n+m))) e)).ownsRow base e i.size (u (X ⟨w.heap.size,0,Z⟩) (n+m) (grownCap w (n+m) old e)) (n+m) (xs++news):=by
  intro old;have hge:=grownCap_ge w (n+m) old e;refine⟨hlen,.inr ⟨w.heap.size,_,_,O,hbase,heap_alloc_new w.drew _,hge,grownCap_le_maxLen w (n+m) old e h63,?_,?_⟩⟩;·simp only[Array.size_append,List.size_toArray,size_zeroCells,hzs,hown.1,hl,<-Nat.add_mul];congr 1;omega
  ·simp only[Array.toList_append];rw[<-hlen];exact List.take_left
 have LZ: ∀o:Obj,Eh w (w.drew.alloc o):=fun o=>((E6 _ w).drew).alloc (E5 _) o;have bel: ∀o:Obj,fm b0 e (n*i.size) news w (w.drew.alloc o):=fun o=>qZ (((E6 _ w).drew).alloc (E5 _) o);rcases hown.2 with⟨hv,hn⟩|⟨g,cap',cur,hv,hbg,hg,hnc,hcm,hcs,htake⟩;·subst hn;have hx:xs=[]:=List.eq_nil_of_length_eq_zero An;subst hx;rw[hv];have hr:=run_append_nil (P:=P) w t ty e i z ht hi hz a m c news hl hnews (hm u5) U Ap;have hmd:=made 0;simp only[Nat.zero_add,List.nil_append,Array.empty_append] at hmd⊢;exact⟨_,_,_,hr,hmd,bel _,fun h=>Uf,fun _=>LZ _⟩
 ·rw[hv];by_cases hroom:n+m<=cap'
  ·have hfit:n*i.size+news.length<=cur.size:=Aq;have hr:=run_append_room (P:=P) w t ty e i ht hi g n cap' cur hg a m c news hl hnews h1 hroom hfit;have hnew:=setRow_heap w g cur (cur.toList.take (n*i.size)++news++cur.toList.drop (n*i.size+news.length)).toArray e _ hg;have hsz:(cur.toList.take (n*i.size)++news++cur.toList.drop (n*i.size+news.length)).toArray.size=cur.size:=by simp only[List.size_toArray,IL,List.length_take,List.length_drop,Array.length_toList];omega
   refine⟨_,_,_,hr,⟨hlen,.inr ⟨g,cap',_,O,hbg,hnew,hroom,hcm,hsz.trans hcs,?_⟩⟩,⟨?_,?_,?_⟩,fun h=>Uf,fun h=>absurd h (by injection hv with _ _ h3;omega)⟩;·rw[htake,<-hlen];exact List.take_left
   ·simp
   ·intro _;exact(E6 _ _).trans ⟨O,O,O,Ek,fun k hk=>setRow_other w g k _ U⟩
   ·intro k cs S hk;by_cases e1:k=g
    ·subst e1;rw[hg] at hk;injection hk with hk;injection hk with k1 k2 k3;subst k1 k2;refine⟨_,hnew,hsz,fun hS=>absurd O hS,fun j=> ?_⟩;have tl:(cur.toList.take (n*i.size)).length=n*i.size:=JJ;simp only[List.getElem?_toArray];rcases Nat.lt_or_ge j (n*i.size) with h|h;·left;rw[List.append_assoc,List.getElem?_append_left U,List.getElem?_take_of_lt h];simp
     ·rcases Nat.lt_or_ge j (n*i.size+news.length) with h2|h2;·right;refine⟨h,h2,?_⟩;rw[List.getElem?_append_left La,List.getElem?_append_right U,tl]
      ·left;rw[List.getElem?_append_right La,List.getElem?_drop,IL,tl,<-Array.getElem?_toList];congr 1;omega
    ·exact⟨cs,(setRow_other w g k _ U).trans hk,O,fun _=>rfl,fun j=> .inl O⟩
  ·have holds: ∀j Y3,xs[j]?=X Y3->w.cell? ((⟨g,0,Z⟩:Et).add j)=X Y3:=by have h5:=hown;rw[hv] at h5;exact h5.cells (g:=g) O
   have hr:=run_append_grow (P:=P) w t ty e i z ht hi hz ⟨g,0,Z⟩ n cap' xs hown.1 holds a m c news hl hnews U U (growslice_fits U hbytes);exact⟨_,_,_,hr,made cap',bel _,fun h=>Uf,fun _=>LZ _⟩
def be(n:Int)(k:Nat):List Int:=(List.range k).map fun i=>n/2^(8*(k-1-i))%256
def X8(n:Int)(k i:Nat):Array M:=((List.range k).map fun j=>E .u8 (if j<i then n/2^(8*(k-1-j))%256 else 0)).toArray
theorem Yo(n:Int)(k i:Nat):(X8 n k i).size=k:=by simp[X8]
theorem Yp(n:Int)(k i:Nat)(h:i<k):(X8 n k i)[i]?=X (E IB 0):=by simp[X8,h]
theorem Yq(n:Int)(k:Nat):madeCells #[E IB 0] k=X8 n k 0:=by
 apply Array.ext;·simp[madeCells,X8]
 ·intro i h1 h2;simp[madeCells,X8,Nat.mod_one]
theorem Yr(n:Int)(k i:Nat)(h:i<k):(X8 n k i).setIfInBounds i (E IB (n/2^(8*(k-1-i))%256))=X8 n k (i+1):=by
 apply Array.ext;·simp[X8]
 ·intro j h1 h2;have hj:j<k:=by simpa[X8] using h2
  rw[Array.getElem_setIfInBounds (by simpa[X8] using hj)];simp only[X8,List.getElem_toArray,List.getElem_map,List.getElem_range];by_cases e:i=j;·subst e;simp
  ·rw[if_neg e];by_cases e2:j<i;·rw[if_pos e2,if_pos U]
   ·rw[if_neg e2,if_neg U]
theorem Ys(n:Int)(k:Nat):X8 n k k=((be n k).map (E .u8)).toArray:=by unfold X8 be;rw[List.map_map];congr 1;apply List.map_congr_left;intro j hj;simp at hj;simp[hj]
theorem Yt(n:Int)(k:Nat)(hk:k<=1000)(W:H): (Instr.makeSlice 23 (E I (k:Int)) (E I (k:Int))).run EJ W= .ok (u (X ⟨W.heap.size,0,Z⟩) k k) (W.alloc (EI (X8 n k 0) 5)):=by obtain⟨i0,hi,hz0,hz1,hz2⟩:=info_parts iS;have h:=run_make (P:=EJ) W 23 5 i0 _ Tryz.underlying23 hi hz0 .i64 .i64 k k U U zV U;rw[h,hz1,Int.toNat_natCast,Nat.mul_one];have e:(E IntKind.u8 0).cells= #[E IB 0]:=rfl;rw[e,Yq n]
theorem Lb(n:Int)(k:Nat)(w:H)(h0:0<=n)(h1:n<=18446744073709551615)(hk:k<=8)(hn:n/2^(8*k)=0): Ef EJ 111 #[E Ip n,E I k] w fun e w'=>e=Eg (Es #[u (X ⟨w.heap.size,0,Z⟩) k k,E I 0])/\w.alloc (EI ((be n k).map (E .u8)).toArray 5)=w':=by
 have hmk:=Yt n k U;have hn':(n/2^(8*k) !=0)=Y:=by rw[hn];rfl
 go_enter Tryz.func111,Tryz.ntmps111;go_wp2;clear hmk hn';go_loopw[24] (fun y wr=> ∃i:Nat,i<=k/\y=E I i/\wr=w.alloc (EI (X8 n k i) 5)) (fun y _=>k-(intOf y).toNat);case atStart=>exact⟨0,U,O,O⟩
 case round=>
  obtain⟨i,hi,rfl,rfl⟩:=hrel;by_cases hlt:i<k
  ·have hc:=Yp n k i hlt;have hs:=Yo n k i;have hp:=Yr n k i hlt;go_wp2;go_roundw;case rel=>exact⟨i+1,U,qi,by first|rfl|rw[hp]⟩
   case measure=> exact Emx
  ·obtain rfl:i=k:=U;have hp:=Ys n i;go_wp2;go_ret2;exact⟨O,by first|rfl|rw[hp]⟩
def num(xs:List Int):Int:=xs.foldl (fun n x=>n*256+x) 0
theorem Lc(xs:List Int)(x:Int):num (xs++[x])=num xs*256+x:=by simp[num]
theorem Ld(xs:List Int)(i:Nat)(h:i<xs.length):num (xs.take (i+1))=num (xs.take i)*256+xs[i]:=by rw[List.take_succ_eq_append_getElem h,Lc]
theorem qj(xs:List Int)(h: ∀x∈xs,0<=x/\x<=255)(i:Nat)(hi:i<=xs.length):0<=num (xs.take i)/\num (xs.take i)<256^i:=by
 induction i with
 |zero=>simp[num]
 |succ i ih=> have:=ih U;have hx:=h xs[i] (List.getElem_mem _);rw[Ld xs i U,Int.pow_succ];omega
theorem Yu(n x:Int)(h0:0<=n)(h1:n<72057594037927936)(x0:0<=x)(x1:x<=255):bits .or .u64 (n*256) x=n*256+x:=by obtain⟨m,rfl⟩:=Int.eq_ofNat_of_zero_le h0;obtain⟨y,rfl⟩:=Int.eq_ofNat_of_zero_le x0;have e:((m:Int)*256)=((m*256:Nat):Int):=Ek;rw[e,u64_or_nat _ _ U U,nat_join 8 _ _ U U];simp
theorem Yv(xs:List Int)(i:Nat)(h:i<xs.length)(h8:xs.length<=8)(nb:0<=num (xs.take i)/\num (xs.take i)<256^i)(hx:0<=xs[i]/\xs[i]<=255): bits .or .u64 (IntKind.u64.wrap (num (xs.take i)*256)) xs[i]=num (xs.take (i+1)):=by
 have hp:(256:Int)^i<=72057594037927936:=by
  have h1:256^i<=256^7:=Nat.pow_le_pow_right U U;have h2:(256:Int)^i=((256^i:Nat):Int):=by rw[Int.natCast_pow];rfl
  rw[show(256:Nat)^7=72057594037927936 from EZ] at h1;rw[h2];exact Int.ofNat_le.2 h1
 rw[Ld xs i h,IntWalk.u64_in _ U,Yu _ _ nb.1 U hx.1 hx.2]
theorem Lf(a:Option Et)(xs:List Int)(c:Nat)(w:H)(hr:Row w a xs)(hl:xs.length<=8): Ef EJ 239 #[u a xs.length c] w fun e w'=>e=Eg (Es #[E Ip (num xs),E I 0])/\w=w':=by
 obtain⟨hr,hb⟩:=hr;have NB:=J<|qj xs hb;have HR:=J hr;have HB:=J hb;clear hr hb;go_enter Tryz.func239,Tryz.ntmps239;go_wp2;go_loop [4,11] (fun x y=> ∃i:Nat,i<=xs.length/\y=E I i/\x=E Ip (num (xs.take i))) (fun _ y=>xs.length-(intOf y).toNat);case atStart=>exact⟨0,U,O,O⟩
 case round=>
  obtain⟨i,hi,rfl,rfl⟩:=hrel;by_cases hlt:i<xs.length
  ·rcases HR.out with e|⟨b,off,rfl,hc⟩;·rw[e] at hlt;simp at hlt
   ·have hc:=hc i hlt;have nb:=NB.out i hi;have hx:=HB.out xs[i] (List.getElem_mem _);have STEP:=J<|Yv xs i hlt hl nb hx;go_wp2;go_round;case rel=>exact⟨i+1,U,qi,by rw[STEP.out]⟩
    case measure=> exact Emx
  ·obtain rfl:i=xs.length:=U;rw[List.take_length];go_wp2;exact Emm
theorem Yw(n:Int)(w:H)(h0: -32768<=n)(h1:n<=32767): Ef EJ 252 #[E I n] w fun e w'=>e=Eg (Es #[u (X ⟨w.heap.size,0,Z⟩) 2 2,E I 0])/\w.alloc (EI ((be (n%65536) 2).map (E .u8)).toArray 5)=w':=by
 have hp:=J<|Lb (n%65536) 2 w U U U (by show n%65536/65536=0;omega);by_cases c:n<0;·have e:n%65536=n+65536:=U;exact Ej7
 ·have e:n%65536=n:=U;exact Ej7
def sig(xs:List Int):Int:=if 32767<num xs then num xs-65536 else num xs
theorem Yx(a:Option Et)(xs:List Int)(c:Nat)(w:H)(hr:Row w a xs)(hl:xs.length=2): Ef EJ 238 #[u a 2 c] w fun e w'=>e=Eg (Es #[E I (sig xs),E I 0])/\w=w':=by
 have h:=Lf a xs c w hr U;rw[hl] at h;have Y9:=J h;have hb:=qj xs hr.2 xs.length U;rw[List.take_length,hl] at hb;obtain⟨hb1,hb2⟩:=hb;have hb3:num xs<65536:=hb2;clear h hr hl hb2;go_enter Tryz.func238,Tryz.ntmps238;go_wp2_with (go_at_call 239;refine(Y9.out).mono ?_;rintro e w' ⟨rfl,rfl⟩)
 all_goals
  go_ret2
  refine⟨?_,O⟩
  unfold sig
  first|(rw[if_pos (by assumption)];rfl)|(rw[if_neg U];rfl)
theorem Oi(n:Int)(k:Nat):(be n k).length=k:=by simp[be]
theorem qk(n:Int)(k:Nat): ∀x∈be n k,0<=x/\x<=255:=by intro x hx;simp only[be,List.mem_map] at hx;obtain⟨i,_,rfl⟩:=hx;omega
theorem Ar(n:Int)(k:Nat):be n (k+1)=n/2^(8*k)%256::be n k:=by unfold be;rw[List.range_succ_eq_map,List.map_cons,List.map_map];congr 1;apply List.map_congr_left;intro i hi;simp only[Function.comp_apply,Nat.add_sub_cancel];rw[show k-(i+1)=k-1-i from U]
theorem Yy(n:Int):be n 0=[]:=rfl
theorem Yz(n a b:Int)(ha:0<=a):n/a/b=n/(a*b):=by rw[Int.ediv_ediv,if_neg U];simp
theorem YA(n:Int)(k:Nat):be n (k+1)=be (n/256) k++[n%256]:=by
 induction k with
 |zero=>simp[be]
 |succ k ih=> rw[Ar,ih,Ar (n/256) k,List.cons_append];congr 2;rw[Yz _ _ _ U,Nat.mul_add,Int.pow_add,Int.mul_comm];rfl
theorem Lg{P:List Int->Prop}(h0:P [])(h1: ∀l x,P l->P (l++[x]))(l:List Int):P l:=by
 have: ∀l:List Int,P l.reverse:=by
  intro l;induction l with
  |nil=>exact h0
  |cons x l ih=>rw[List.reverse_cons];exact h1 _ _ ih
 have:=this l.reverse;rwa [List.reverse_reverse] at this
theorem YB(xs:List Int):(∀x∈xs,0<=x/\x<=255)->be (num xs) xs.length=xs:=by refine Lg (P:=fun xs=>(∀x∈xs,0<=x/\x<=255)->be (num xs) xs.length=xs) (fun _=>rfl) (fun l x ih h=> ?_) xs;have hx:=h x Ek;have hl:=ih (fun y hy=>h y (by simp[hy]));rw[IL,List.length_singleton,YA,Lc];have e1:(num l*256+x)/256=num l:=U;have e2:(num l*256+x)%256=x:=U;rw[e1,e2,hl]
theorem Lh(k:Nat)(hk:k<=63)(n:Int)(h0:0<=n)(h1:n<=18446744073709551615): bits .and .u64 n (IntKind.u64.wrap (IntKind.u64.wrap (2^k)-1))=n%2^k:=by
 obtain⟨m,rfl⟩:=Int.eq_ofNat_of_zero_le h0;have hp:2^k<=2^63:=Nat.pow_le_pow_right U hk;have hp0:0<2^k:=Nat.two_pow_pos k;have c1:((2:Int)^k)=((2^k:Nat):Int):=Ek;have w1:IntKind.u64.wrap ((2^k:Nat):Int)=((2^k:Nat):Int):=IntWalk.u64_in _ ⟨U,U⟩;have w2:IntKind.u64.wrap (((2^k:Nat):Int)-1)=((2^k-1:Nat):Int):=by rw[IntWalk.u64_in _ ⟨U,U⟩];omega
 rw[c1,w1,w2,u64_and_nat _ _ U U,Nat.and_two_pow_sub_one_eq_mod];simp
theorem gG(n:Int)(k:Nat)(w:H)(h0:0<=n)(h1:n<=18446744073709551615)(hk:k<=8)(hn:n/2^(8*k)=0): Ef EJ 111 #[E Ip n,E I k] w fun e w'=>e=Eg (Es #[u (X ⟨w.heap.size,0,Z⟩) k k,E I 0])/\Row w' (X ⟨w.heap.size,0,Z⟩) (be n k)/\Eh w w':=
 (Lb n k w h0 h1 hk hn).mono fun _ _ ⟨he,hw⟩=>⟨he,by subst hw;exact zw (heap_alloc_new w _) O (qk n k),Li⟩
theorem YC(n:Int)(w:H)(h0: -32768<=n)(h1:n<=32767): Ef EJ 252 #[E I n] w fun e w'=>e=Eg (Es #[u (X ⟨w.heap.size,0,Z⟩) 2 2,E I 0])/\Row w' (X ⟨w.heap.size,0,Z⟩) (be (n%65536) 2)/\Eh w w':=
 (Yw n w h0 h1).mono fun _ _ ⟨he,hw⟩=>⟨he,by subst hw;exact zw (heap_alloc_new w _) O (qk _ 2),Li⟩
theorem As{a:Option Et}(n c:Nat)(hn:xs.length=n)(hr:Row w a xs)(hl:n<=8): Ef EJ 239 #[u a n c] w fun e w'=>e=Eg (Es #[E Ip (num xs),E I 0])/\w=w':=by subst hn;exact Lf a xs c w hr hl
def ED(l:List Int):Array M:=((List.range 12).map fun i=>if i=7 then Value.bool (l.getD 7 0==1) else E I (l.getD i 0)).toArray
theorem I4(l:List Int):(ED l).size=12:=by simp[ED]
theorem Xj(l:List Int)(i:Nat)(h:i<12):(ED l)[i]?=X (if i=7 then Value.bool (l.getD 7 0==1) else E I (l.getD i 0)):=by simp[ED,h]
theorem XG(l:List Int):(ED l).all (·.oneCell')=G:=by rw[Array.all_eq_true];intro i hi;simp only[ED,List.getElem_toArray,List.getElem_map];split<;>rfl
theorem YD(l:List Int)(hl:l.length=12)(o:Nat)(ho:o<12)(n:Int):(ED l).setIfInBounds o (if o=7 then Value.bool (n==1) else E I n)=ED (l.set o n):=by
 apply Array.ext_getElem?;intro j;rw[Array.getElem?_setIfInBounds];by_cases h:o=j
 ·subst h;rw[if_pos O,if_pos (by rw[I4];exact ho),Xj _ _ ho];by_cases h7:o=7;·subst h7;simp[hl]
  ·rw[if_neg h7,if_neg h7];simp[hl,ho]
 ·rw[if_neg h];by_cases hj:j<12
  ·rw[Xj _ _ hj,Xj _ _ hj];have e1: ∀k,k≠o->(l.set o n).getD k 0=l.getD k 0:=fun k hk=>by simp[List.getD_eq_getElem?_getD,List.getElem?_set_ne (Ne.symm hk)]
   by_cases h7:j=7;·subst h7;rw[if_pos O,if_pos O,e1 7 (Ne.symm h)]
   ·rw[if_neg h7,if_neg h7,e1 j (Ne.symm h)]
  ·rw[Array.getElem?_eq_none (by rw[I4];omega),Array.getElem?_eq_none (by rw[I4];omega)]
structure FD where
 kd:Nat
 (size lo hi:Int)
 off:Nat
def FD.get(d:FD):Nat:=if d.kd=1 then 234 else
 if d.kd=2 then 250 else
 if d.kd=3 then 248 else
 236
def FD.set(d:FD):Nat:=if d.kd=1 then 235 else
 if d.kd=2 then 251 else
 if d.kd=3 then 249 else
 237
def FD.box(d:FD):Ez:=if d.kd=1 then 302 else
 if d.kd=2 then 333 else
 if d.kd=3 then 331 else
 300
def FD.ok(d:FD):Prop:=d.off<12/\d.kd<=1/\(d.kd=1↔d.off=7)
theorem FD.Lj{d:FD}(h:d.kd=0):d.get=236:=Au
theorem FD.Av{d:FD}(h:d.kd=0):d.set=237:=u6
theorem FD.u7{d:FD}(h:d.kd=0):d.box=300:=u9
theorem FD.YF{d:FD}(h:d.kd=1):d.set=235:=u6
theorem FD.YG{d:FD}(h:d.kd=1):d.box=302:=u9
def Iw(d:FD)(gb:Nat):Array M:= #[E I d.size,E I d.lo,E I d.hi,.func (.func d.get) #[] #[V (X ⟨gb,0,Z⟩)],.func (.func d.set) #[] #[V (X ⟨gb,0,Z⟩)]]
theorem da(d:FD)(gb:Nat):(Iw d gb).all (·.oneCell')=G:=by simp[Iw,Value.oneCell']
def XO(w:H)(d:FD)(gm gb:Nat):Prop:=D w gb #[V (X ⟨gm,d.off,Z⟩)] d.box
theorem UF:ID EJ 298 5:=⟨⟨_,Tryz.underlying298,O⟩,Ec⟩
theorem Oc:ID EJ 183 12:=⟨⟨_,Tryz.underlying183,O⟩,Ec⟩
def Jh:Array M:= #[E I 0,E I 0,E I 0,.nilFunc,.nilFunc]
theorem bS:Og EJ 298 Jh:=by intro ev o w ho;unfold execOp;simp only[ho];simp[go_sem];exact congrArg (fun c=>w.alloc (EI c 298)) Ec
theorem YH:Og EJ 183 (ED (List.replicate 12 0)):=by intro ev o w ho;unfold execOp;simp only[ho];simp[go_sem];exact congrArg (fun c=>w.alloc (EI c 183)) Ec
theorem YK(gb gm o:Nat)(n:Int)(w:H)(hb:D w gb #[V (X ⟨gm,o,Z⟩)] 300)(hc:w.cell? ⟨gm,o,Z⟩=X (E I n)): Ef EJ 236 #[V (X ⟨gb,0,Z⟩)] w fun e w'=>e=Eg (E I n)/\w=w':=by have c0:=hb.cell 0;simp only[List.getElem?_toArray,List.getElem?_cons_zero] at c0;clear hb;go_enter Tryz.func236,Tryz.ntmps236;exact Eh9
def jI(l:List Int):Prop:=l.length=12/\(l.getD 7 0=0\/l.getD 7 0=1)
theorem Lk(gb gm o:Nat)(n m:Int)(w:H)(hb:D w gb #[V (X ⟨gm,o,Z⟩)] 300)(hc:w.cell? ⟨gm,o,Z⟩=X (E I m))(hf:w.frozen? ⟨gm,o,Z⟩=Y): Ef EJ 237 #[E I n,V (X ⟨gb,0,Z⟩)] w fun e w'=>e=Eg (Es #[])/\w.setCell ⟨gm,o,Z⟩ (E I n)=w':=by have c0:=hb.cell 0;simp only[List.getElem?_toArray,List.getElem?_cons_zero] at c0;clear hb;go_enter Tryz.func237,Tryz.ntmps237;exact Elb
theorem YM(gb gm o:Nat)(n:Int)(b:Bool)(w:H)(hb:D w gb #[V (X ⟨gm,o,Z⟩)] 302)(hc:w.cell? ⟨gm,o,Z⟩=X (Eb b))(hf:w.frozen? ⟨gm,o,Z⟩=Y): Ef EJ 235 #[E I n,V (X ⟨gb,0,Z⟩)] w fun e w'=>e=Eg (Es #[])/\w.setCell ⟨gm,o,Z⟩ (Eb (n==1))=w':=by have c0:=hb.cell 0;simp only[List.getElem?_toArray,List.getElem?_cons_zero] at c0;clear hb;go_enter Tryz.func235,Tryz.ntmps235;exact Elb
theorem YN(d:FD)(gb gm:Nat)(l:List Int)(n:Int)(w:H)(hd:d.ok)(hl:jI l)(hb:XO w d gm gb)(hm:D w gm (ED l) 183): Ef EJ d.set #[E I n,V (X ⟨gb,0,Z⟩)] w fun e w'=>e=Eg (Es #[])/\D w' gm (ED (l.set d.off n)) 183/\(∀k,k≠gm->w'.heap[k]?=w.heap[k]?)/\w'.heap.size=w.heap.size/\Below gm w w':=by
 have hc:=hm.cell d.off;have hf:=hm.Jw d.off;rw[Xj _ _ hd.1] at hc;have fin: ∀v,v=(if d.off=7 then Value.bool (n==1) else E I n)->D (w.setCell ⟨gm,d.off,Z⟩ v) gm (ED (l.set d.off n)) 183/\(∀k,k≠gm->(w.setCell ⟨gm,d.off,Z⟩ v).heap[k]?=w.heap[k]?)/\(w.setCell ⟨gm,d.off,Z⟩ v).heap.size=w.heap.size/\Below gm w (w.setCell ⟨gm,d.off,Z⟩ v):=by intro v hv;subst hv;refine⟨?_,fun k hk=>Below.heap_setCell _ _ _ _ hk,zW,(E6 gm w).setCell (p:=⟨gm,d.off,Z⟩) (E5 _) _⟩;have h:=hm.set d.off (if d.off=7 then Value.bool (n==1) else E I n);rw[YD l hl.1 _ hd.1] at h;exact h
 unfold XO at hb;by_cases hn:d.kd=1;·have h7:=hd.2.2.1 hn;rw[FD.YG hn] at hb;rw[FD.YF hn];have Ll:=fin (Eb (n==1)) (by rw[if_pos h7]);rw[h7] at hc hb hf Ll⊢;rw[if_pos O] at hc;exact(YM gb gm 7 n _ w hb hc hf).mono fun e w' ⟨he,hw⟩=>⟨he,by rw[<-hw];exact Ll⟩
 ·have h7:d.off≠7:=fun h=>hn (hd.2.2.2 h);have h0:d.kd=0:=by have:=hd.2.1;omega
  rw[FD.u7 h0] at hb;rw[FD.Av h0];rw[if_neg h7] at hc;have u_:=fin (E I n) (by rw[if_neg h7]);exact El1
def FV(w:H)(base gm:Nat)(d:FD)(v:M):Prop:= ∃gb,v=EU (Iw d gb)/\base<=gb/\XO w d gm gb
theorem FV.B{gm:Nat}{d:FD}{v:M}(h:FV w base gm d v)(hb:Eh w w'):FV w' base gm d v:=by obtain⟨gb,e,l,k⟩:=h;exact⟨gb,e,l,k.B hb⟩
theorem YP(d:FD)(gb:Nat):Tryz.prog.built 298 [(0,E I d.size),(1,E I d.lo),(2,E I d.hi),(3,.func (.func d.get) #[] #[V (X ⟨gb,0,Z⟩)]),(4,.func (.func d.set) #[] #[V (X ⟨gb,0,Z⟩)])]=X (Iw d gb):=Ec
theorem Aw(d:FD)(gb:Nat)(h0:d.lo=0):Tryz.prog.built 298 [(0,E I d.size),(2,E I d.hi),(3,.func (.func d.get) #[] #[V (X ⟨gb,0,Z⟩)]),(4,.func (.func d.set) #[] #[V (X ⟨gb,0,Z⟩)])]=X (Iw d gb):=by unfold Iw;rw[h0];kernel_rfl
theorem kx(d:FD)(hd:d.kd=0)(gm:Nat)(w:H): Ef EJ 207 #[V (X ⟨gm,d.off,Z⟩),E I d.size,E I d.lo,E I d.hi] w fun e w'=> ∃v,e=Eg v/\FV w' w.heap.size gm d v/\Eh w w':=by have hg:=FD.Lj hd;have hs:=FD.Av hd;have hx:=FD.u7 hd;have BF:=YP d w.heap.size;rw[hg,hs] at BF;have O1:=J<|da d w.heap.size;have FSq:Ea ((Iw d w.heap.size).size=5):=J O;have HV:Ea (Iw d w.heap.size=Iw d w.heap.size):=J O;generalize Ox:Iw d w.heap.size=fv at*;replace Ox:=J Ox;replace BF:=J BF;clear HV hg hs;have HX:=J hx;clear hx;have HB:Ea (∀W:H,D W w.heap.size #[V (X ⟨gm,d.off,Z⟩)] 300->FV W w.heap.size gm d (EU fv)):=J fun W h=>⟨w.heap.size,by rw[Ox.out],E5 _,by unfold XO;rw[HX.out];exact h⟩;clear HX Ox;generalize d.size=sz at*;generalize d.lo=lo at*;generalize d.hi=hi at*;generalize d.off=of at*;go_enter Tryz.func207,Tryz.ntmps207;go_wp2_with (with_reducible refine wA bS (Ed.mk ?_));refine Ed.in ?_;have K4:=J<|(D.new w #[V (X ⟨gm,of,Z⟩)] 300).alloc (EI Jh 298);have K8:=J<|D.new' (w.alloc (EI #[V (X ⟨gm,of,Z⟩)] 300)) Jh 298 (g:=w.heap.size+1) Ek;have BB:=J<|JF w (EI #[V (X ⟨gm,of,Z⟩)] 300) (EI Jh 298);generalize (w.alloc (EI #[V (X ⟨gm,of,Z⟩)] 300)).alloc (EI Jh 298)=w1 at*;go_wp2_with (first|((with_reducible refine In 14 ?_);refine IP rfl 298 _ rfl fv BF.out ?_)|(with_reducible refine wS (cs:=fv) UF K8 ?_ (hn:=FSq.out) (h1:=O1.out)));refine EQ (v:=EU fv) (Jb UF O _ _ (w.heap.size+1) _ O (K8.out.setRow _) FSq.out) O ⟨_,O,HB.out _ (K4.out.setRow_other _ _ U),E2 BB.out U _⟩
def fo(Y5:Nat):Prop:= ∀(args:Array M) (w:H),(callFunc Y5 args).run EJ w= .ok (.enter Y5 args) w
def bE(w:H)(Y5:Nat)(gp:M)(n:Int):Prop:=fo Y5/\ ∀W,Eh w W->Ef EJ Y5 #[gp] W fun e w'=>e=Eg (E I n)/\W=w'
theorem bE.B{Y5:Nat}{n:Int}(h:bE w Y5 gp n)(hb:Eh w w'):bE w' Y5 gp n:=⟨h.1,fun W hW=>h.2 W (bt hb hW)⟩
theorem bE.call{Y5:Nat}{n:Int}(h:bE w Y5 gp n)(W:H)(hW:Eh w W):Ef EJ Y5 #[gp] W fun e w'=>e=Eg (E I n)/\W=w':=h.2 W hW
theorem YQ(d:FD):fo d.get:=by
 intro args w;unfold FD.get;repeat' split
 all_goals kernel_rfl
theorem Lm(d:FD):fo d.set:=by
 intro args w;unfold FD.set;repeat' split
 all_goals kernel_rfl
theorem YR(sz lo hi n:Int)(Y5 S:Nat)(gp:M)(w:H)(HG:bE w Y5 gp n)(h:n<lo): Ef EJ 242 #[EU #[E I sz,E I lo,E I hi,.func (.func Y5) #[] #[gp],.func (.func S) #[] #[gp]]] w fun e w'=>e=Eg (Es #[u Z 0 0,Eb Y])/\Eh w w':=by have C:=J HG;have HE: ∀(args:Array M) (w:H),(callFunc Y5 args).run EJ w= .ok (.enter Y5 args) w:=HG.1;clear HG;go_enter Tryz.func242,Tryz.ntmps242;go_wp2_with fail;have B1:=Eo w (EI #[E I sz,E I lo,E I hi,.func (.func Y5) #[] #[gp],.func (.func S) #[] #[gp]] 298);(with_reducible refine(C.out.call _ B1).mono ?_);rintro e w1 ⟨rfl,rfl⟩;clear C HE;have hd:decide (n<lo)=G:=Ia h;go_wp2_with fail;go_ret2;exact⟨O,B1⟩
theorem YT(sz lo hi n:Int)(Y5 S:Nat)(gp:M)(w:H)(HG:bE w Y5 gp n)(h0:lo<=n)(h:hi<n): Ef EJ 242 #[EU #[E I sz,E I lo,E I hi,.func (.func Y5) #[] #[gp],.func (.func S) #[] #[gp]]] w fun e w'=>e=Eg (Es #[u Z 0 0,Eb Y])/\Eh w w':=by have C:=J HG;have HE: ∀(args:Array M) (w:H),(callFunc Y5 args).run EJ w= .ok (.enter Y5 args) w:=HG.1;clear HG;go_enter Tryz.func242,Tryz.ntmps242;go_wp2_with fail;have B1:=Eo w (EI #[E I sz,E I lo,E I hi,.func (.func Y5) #[] #[gp],.func (.func S) #[] #[gp]] 298);(with_reducible refine(C.out.call _ B1).mono ?_);rintro e w1 ⟨rfl,rfl⟩;clear C HE;have hd:decide (n<lo)=Y:=E9 U;have hd2:decide (hi<n)=G:=Ia h;go_wp2_with fail;go_ret2;exact⟨O,B1⟩
theorem YV(sz lo hi n:Int)(Y5 S:Nat)(gp:M)(w:H)(HG:bE w Y5 gp n)(h0:lo<=n)(h:n<=hi)(hl:lo<0)(hl2: -32768<=lo)(hh:hi<=32767): Ef EJ 242 #[EU #[E I sz,E I lo,E I hi,.func (.func Y5) #[] #[gp],.func (.func S) #[] #[gp]]] w fun e w'=> ∃g,e=Eg (Es #[u (X ⟨g,0,Z⟩) 2 2,Eb G])/\Row w' (X ⟨g,0,Z⟩) (be (n%65536) 2)/\Eh w w':=by have C:=J HG;have HE: ∀(args:Array M) (w:H),(callFunc Y5 args).run EJ w= .ok (.enter Y5 args) w:=HG.1;clear HG;go_enter Tryz.func242,Tryz.ntmps242;go_wp2_with fail;have B1:=Eo w (EI #[E I sz,E I lo,E I hi,.func (.func Y5) #[] #[gp],.func (.func S) #[] #[gp]] 298);(with_reducible refine(C.out.call _ B1).mono ?_);rintro e w1 ⟨rfl,rfl⟩;clear C HE;have hd:decide (n<lo)=Y:=E9 U;have hd2:decide (hi<n)=Y:=E9 U;have hd3:decide (lo<0)=G:=Ia hl;have n1: -32768<=n:=U;have n2:n<=32767:=U;go_wp2_with fail;(with_reducible refine(YC n _ n1 n2).mono ?_);exact Eli
theorem YW(lo hi n:Int)(Y5 S:Nat)(gp:M)(w:H)(HG:bE w Y5 gp n)(k:Nat)(Y0:k<=8)(h0:lo<=n)(h:n<=hi)(hl:0<=lo)(hn:n/2^(8*k)=0)(hh:hi<=9223372036854775807): Ef EJ 242 #[EU #[E I (k:Int),E I lo,E I hi,.func (.func Y5) #[] #[gp],.func (.func S) #[] #[gp]]] w fun e w'=> ∃g,e=Eg (Es #[u (X ⟨g,0,Z⟩) k k,Eb G])/\Row w' (X ⟨g,0,Z⟩) (be n k)/\Eh w w':=by have C:=J HG;have HE: ∀(args:Array M) (w:H),(callFunc Y5 args).run EJ w= .ok (.enter Y5 args) w:=HG.1;clear HG;go_enter Tryz.func242,Tryz.ntmps242;go_wp2_with fail;have B1:=Eo w (EI #[E I (k:Int),E I lo,E I hi,.func (.func Y5) #[] #[gp],.func (.func S) #[] #[gp]] 298);(with_reducible refine(C.out.call _ B1).mono ?_);rintro e w1 ⟨rfl,rfl⟩;clear C HE;have hd:decide (n<lo)=Y:=E9 U;have hd2:decide (hi<n)=Y:=E9 U;have hd3:decide (lo<0)=Y:=E9 U;have n1:0<=n:=U;have n2:n<=18446744073709551615:=U;have n3:n<=9223372036854775807:=U;have CP:=J<|fun W=>gG n k W n1 n2 Y0 hn;clear hn;go_wp2_with fail;(with_reducible refine(CP.out _).mono ?_);exact Eli
structure bT where
 code:Int
 Y5:Nat
 lb:Array M
 b:Bool
def bT.v(c:bT):List M:=[E I c.code,.func (.func c.Y5) #[] c.lb]
def Y1(w:H)(c:bT):Prop:=fo c.Y5/\ ∀W,Eh w W->Ef EJ c.Y5 c.lb W fun e w'=>e=Eg (Eb c.b)/\Eh W w'
def fp:List bT->Int
 |[]=>0
 |c::r=>if c.b then c.code else fp r
theorem Lo(L:List bT)(i:Nat)(h:i<L.length):(L.flatMap bT.v)[i*2]?=X (E I L[i].code)/\(L.flatMap bT.v)[i*2+1]?=X (.func (.func L[i].Y5) #[] L[i].lb):=by
 induction L generalizing i with
 |nil=>simp at h
 |cons c r ih=>
  cases i with
  |zero=>simp[bT.v]
  |succ i=> have:=ih i Ou;rw[List.flatMap_cons,show(i+1)*2=i*2+2 from U,show i*2+2+1=i*2+1+2 from U];simpa[bT.v] using this
theorem Y2(L:List bT)(i:Nat)(h:i<L.length):fp (L.drop i)=if L[i].b then L[i].code else fp (L.drop (i+1)):=by rw[List.drop_eq_getElem_cons h];rfl
theorem EEE:ID EJ 317 2:=⟨⟨_,Tryz.underlying317,O⟩,Ec⟩
theorem Lp(L:List bT)(g n:Nat)(w:H)(hn:L.length=n)(hL:n<=10)(K:D w g (L.flatMap bT.v).toArray 317)(HT: ∀c∈L,Y1 w c): Ef EJ 220 #[u (X ⟨g,0,Z⟩) n n] w fun e w'=>e=Eg (E I (fp L))/\Eh w w':=by
 have HT:=J HT;have K:=J K;have HN:=J hn;obtain⟨r,hr⟩:=En (fp L);rw[<-hr];have HR:=J<|show r=fp (L.drop 0) from hr;clear hr hn;go_enter Tryz.func220,Tryz.ntmps220;go_wp2_with fail;go_loopw[7] (fun y wr=> ∃i:Nat,i<=n/\y=E I i/\r=fp (L.drop i)/\Eh w wr) (fun y _=>n-(intOf y).toNat);case atStart=>exact⟨0,U,O,HR.out,E6 _ _⟩
 case round=>
  obtain⟨i,hi,rfl,vI,BB⟩:=hrel;replace BB:=J BB;by_cases hlt:i<n
  ·have t1:decide ((i:Int)<(n:Int))=G:=Ia U;have hil:i<L.length:=gH;obtain⟨c,hc⟩:=En (L[i]);have KW:=K.out.B (BB.out.mono (E5 _));have c0:wr.cell? ⟨g,i*2,Z⟩=X (E I c.code):=by rw[hc,KW.cell,List.getElem?_toArray];exact(Lo L i hil).1
   have c1:wr.cell? ⟨g,i*2+1,Z⟩=X (.func (.func c.Y5) #[] c.lb):=by rw[hc,KW.cell,List.getElem?_toArray];exact(Lo L i hil).2
   have TC:=HT.out c (by rw[hc];exact List.getElem_mem hil);have HE: ∀(args:Array M) (w:H),(callFunc c.Y5 args).run EJ w= .ok (.enter c.Y5 args) w:=TC.1;have CC:=J<|TC.2;have Lq:Ea (r=if c.b then c.code else fp (L.drop (i+1))):=J (by rw[hc,vI];exact Y2 L i hil);clear TC vI hc KW;obtain⟨code,Y5,lb,b⟩:=c;simp only at*;go_wp2_with (first|(with_reducible refine WC 317 ?_));refine Ed.in ?_;clear c0 c1 t1;have lw:=BB.out.size;have KC:=J<|D.new wr #[E I 0,.nilFunc] 317;have B1:=Eo wr (EI #[E I 0,.nilFunc] 317);replace BB:=J<|BB.out.trans (B1.mono BB.out.size);clear B1;generalize wr.alloc (EI #[E I 0,.nilFunc] 317)=w1 at*;generalize wr.heap.size=gc at*;go_wp2_with (with_reducible refine wS (cs:= #[E I code,.func (.func Y5) #[] lb]) EEE KC (Ed.mk ?_) (h1:=OP));refine Ed.in ?_;replace KC:=J<|KC.out.setRow #[E I code,.func (.func Y5) #[] lb];replace BB:=J<|E2 (g:=gc) BB.out lw #[E I code,.func (.func Y5) #[] lb];generalize w1.setRow gc #[E I code,.func (.func Y5) #[] lb]=w2 at*;have cc1:w2.cell? ⟨gc,1,Z⟩=X (.func (.func Y5) #[] lb):=(KC.out.cell 1).trans O;go_wp2_with fail;(with_reducible refine(CC.out _ BB.out).mono ?_);rintro x w3 ⟨rfl,b3⟩;replace KC:=J<|KC.out.B b3;replace BB:=J<|BB.out.trans (b3.mono BB.out.size);clear b3 cc1 CC HE;have cc0:w3.cell? ⟨gc,0,Z⟩=X (E I code):=(KC.out.cell 0).trans O;cases b with
   |true=> have er:r=code:=Lq.out;go_wp2_with fail;go_ret;exact⟨by rw[er];rfl,BB.out⟩
   |false=> go_wp2_with fail;exact⟨⟨i+1,U,Ek,Lq.out,BB.out⟩,JN⟩
  ·have t1:decide ((i:Int)<(n:Int))=Y:=E9 U;have er:r=0:=by rw[vI,List.drop_of_length_le ky];rfl
   clear vI;go_wp2_with fail;go_ret;exact⟨by rw[er];rfl,BB.out⟩
section
open Go.ChangeShapes Go.WideShapes
def EH(n:Nat)(f:Nat->M):Array M:=((List.range n).map f).toArray
def UU(f:Nat->M)(j:Nat)(v:M):Nat->M:=fun x=>if x=j then v else f x
@[simp] theorem kA(n:Nat)(f:Nat->M):(EH n f).size=n:=gK
theorem bI(n:Nat)(f:Nat->M)(i:Nat):(EH n f)[i]?=if i<n then X (f i) else Z:=by
 unfold EH;by_cases h:i<n;·simp[h]
 ·simp[h]
theorem nA(n:Nat)(f:Nat->M)(i:Nat)(h:i<(EH n f).size):(EH n f)[i]=f i:=gK
theorem vJ(n:Nat)(f:Nat->M)(j:Nat)(v:M):(EH n f).setIfInBounds j v=EH n (UU f j v):=by
 apply Array.ext;·simp[EH]
 ·intro i h1 h2;have hi:i<n:=by simpa[EH] using h2
  rw[Array.getElem_setIfInBounds (by simpa[EH] using hi),nA,nA];unfold UU;by_cases e:j=i;·subst e;simp
  ·rw[if_neg e,if_neg (fun h=>e h.symm)]
theorem Lr(cs:Array M)(n:Nat)(h:cs.size=n):cs=EH n (fun i=>cs.getD i undef):=by
 apply Array.ext;·simp[EH,h]
 ·intro i h1 h2;rw[nA];simp[h1]
theorem Ay(f:Nat->M)(j:Nat)(v:M):UU f j v j=v:=by simp[UU]
theorem kB(f:Nat->M)(j:Nat)(v:M)(x:Nat)(h:x≠j):UU f j v x=f x:=by simp[UU,h]
attribute [go_sem] bI nA kA
def XH(v:M):Prop:=v=E I (intOf v)/\ -9223372036854775808<=intOf v/\intOf v<=9223372036854775807
structure nB(w:H)(f:Nat->M):Prop where
 int: ∀i,i<56->i<5\/8<i->XH (f i)
 key: ∀i,5<=i->i<=8->uu w (f i)
def Ls(w:H)(v:M):Prop:= ∃f,v=EU (EH 56 f)/\nB w f
def Az:List Ez:=List.replicate 5 3++List.replicate 4 23++List.replicate 47 3
theorem mk_pol{r:Reach}{Y9:Type}{enc:Ez×M->Y9}{v:M}{d:DataW Y9}{p:List MemPlace} (hv:Value.okWide EJ w r base 28 v) (hd:DataW.Trod enc EJ w 0 (fun _=>G) G 28 v d p):Ls w v:=by
 obtain⟨cs,rfl,hs,hc⟩:=flat (ts:=Az) (.inl ⟨_,Tryz.underlying28⟩) Ec Ec hv;have hs:cs.size=56:=hs;have hget: ∀i,i<56->cs[i]?=X (cs.getD i undef):=fun i hi=>by simp[show i<cs.size from U]
 refine⟨fun i=>cs.getD i undef,by rw[<-Lr cs 56 hs],⟨fun i hi h=> ?_,fun i h1 h2=> ?_⟩⟩
 ·have ht:Az[i]?=X 3:=by have: ∀i:Fin 56,(i.1<5\/8<i.1)->Az[i.1]?=X 3:=EZ;exact this ⟨i,hi⟩ h
  obtain⟨n,hn,b1,b2⟩:=Wg Tryz.underlying3 (hc i _ _ ht (hget i hi));unfold XH;rw[hn];exact⟨O,b1,b2⟩
 ·obtain⟨fuel,hf⟩:=hd;obtain⟨xs,n,_,_,_,hl,hg⟩:=DataW.trod_struct Tryz.underlying28 hf;have hcl:(Value.agg cs).cells.toList=cs.toList:=rfl;rw[hcl] at hg;have c3:Tryz.prog.cellsOf 24=3:=Ec;have c1:Tryz.prog.cellsOf 23=1:=Ec;have one: ∀j,j<56->(cs.toList.drop j).take 1=[cs.getD j undef]:=by intro j hj;rw[List.drop_eq_getElem_cons JJ];simp[show j<cs.size from U]
  rcases Nat.lt_or_ge i 8 with h8|h8
  ·have h:DataW.trod enc EJ w 0 (fun _=>G) G n 24 ((cs.toList.drop 5).take (Tryz.prog.cellsOf 24))=xs[1]?:=hg 1 _ O;rw[c3] at h;have hx:1<xs.length:=by rw[hl];show 1<20;omega
   rw[List.getElem?_eq_getElem hx] at h;obtain⟨ys,m,_,_,_,_,hj⟩:=DataW.trod_array Tryz.underlying24 h;have:=hj (i-5) U;rw[c1] at this;have e:((List.take 3 (List.drop 5 cs.toList)).drop ((i-5)*1)).take 1=[cs.getD i undef]:=by rw[Nat.mul_one,List.drop_take,List.drop_drop,List.take_take,show 5+(i-5)=i from U,show min 1 (3-(i-5))=1 from U];exact one i U
   rw[e] at this;have hy:i-5<ys.length:=U;rw[List.getElem?_eq_getElem hy] at this;exact Hb Tryz.underlying23 Tryz.underlying5 Ec this
  ·obtain rfl:i=8:=U;have h:DataW.trod enc EJ w 0 (fun _=>G) G n 23 ((cs.toList.drop 8).take (Tryz.prog.cellsOf 23))=xs[2]?:=hg 2 _ O;rw[c1] at h;have hx:2<xs.length:=by rw[hl];show 2<20;omega
   rw[List.getElem?_eq_getElem hx,one 8 U] at h;exact Hb Tryz.underlying23 Tryz.underlying5 Ec h
end
theorem EEJ(W:H)(h e o oa om la lm:Int)(b:Bool)(g3:Nat)(KT:D W g3 #[E I h,E I e,E I o,E I oa,E I om,E I la,E I lm,Eb b] 109)(g4:Nat)(s:Int)(K4:D W g4 #[E I s] 3): Ef EJ 226 #[V (X ⟨g3,0,Z⟩),V (X ⟨g4,0,Z⟩)] W fun x w'=>x=Eg (Eb (decide (o<0\/o≠s)))/\Eh W w':=by
 have vO:g3<W.heap.size:=D.lt KT;have vU:W.cell? ⟨g3,0,Z⟩=X (E I h):=(D.cell KT 0).trans O;have c31:W.cell? ⟨g3,1,Z⟩=X (E I e):=(D.cell KT 1).trans O;have c32:W.cell? ⟨g3,2,Z⟩=X (E I o):=(D.cell KT 2).trans O;have vX:W.cell? ⟨g3,3,Z⟩=X (E I oa):=(D.cell KT 3).trans O;have c34:W.cell? ⟨g3,4,Z⟩=X (E I om):=(D.cell KT 4).trans O;have vZ:W.cell? ⟨g3,5,Z⟩=X (E I la):=(D.cell KT 5).trans O;have vb:W.cell? ⟨g3,6,Z⟩=X (E I lm):=(D.cell KT 6).trans O;have c37:W.cell? ⟨g3,7,Z⟩=X (Eb b):=(D.cell KT 7).trans O;have Egb:g4<W.heap.size:=D.lt K4;have ci4:W.cell? ⟨g4,0,Z⟩=X (E I s):=(D.cell K4 0).trans O;by_cases h1:o<0;·rw[Ia (.inl h1)];have d1:decide (0<=o)=Y:=E9 U;clear KT K4 h1;exact Em1
 have d1:decide (0<=o)=G:=Ia U;by_cases h2:o=s;·rw[E9 U];have d2:(o !=s)=Y:=u1;clear KT K4 h1 h2;exact Em1
 ·rw[Ia (.inr h2)];have d2:(o !=s)=G:=u2;clear KT K4 h1 h2;exact Em1
theorem EEO(W:H)(h e o oa om la lm:Int)(b:Bool)(g3:Nat)(KT:D W g3 #[E I h,E I e,E I o,E I oa,E I om,E I la,E I lm,Eb b] 109)(g5:Nat)(ep:Int)(K5:D W g5 #[E I ep] 3): Ef EJ 227 #[V (X ⟨g5,0,Z⟩),V (X ⟨g3,0,Z⟩)] W fun x w'=>x=Eg (Eb (decide (ep≠e)))/\Eh W w':=by
 have vO:g3<W.heap.size:=D.lt KT;have vU:W.cell? ⟨g3,0,Z⟩=X (E I h):=(D.cell KT 0).trans O;have c31:W.cell? ⟨g3,1,Z⟩=X (E I e):=(D.cell KT 1).trans O;have c32:W.cell? ⟨g3,2,Z⟩=X (E I o):=(D.cell KT 2).trans O;have vX:W.cell? ⟨g3,3,Z⟩=X (E I oa):=(D.cell KT 3).trans O;have c34:W.cell? ⟨g3,4,Z⟩=X (E I om):=(D.cell KT 4).trans O;have vZ:W.cell? ⟨g3,5,Z⟩=X (E I la):=(D.cell KT 5).trans O;have vb:W.cell? ⟨g3,6,Z⟩=X (E I lm):=(D.cell KT 6).trans O;have c37:W.cell? ⟨g3,7,Z⟩=X (Eb b):=(D.cell KT 7).trans O;have Egd:g5<W.heap.size:=D.lt K5;have ci5:W.cell? ⟨g5,0,Z⟩=X (E I ep):=(D.cell K5 0).trans O;by_cases h2:ep=e;·rw[E9 U];have d2:(ep !=e)=Y:=u1;exact EnE
 ·rw[Ia h2];have d2:(ep !=e)=G:=u2;exact EnE
theorem EEU(t:EL)(s ep:Int)(w:H)(he: -9223372036854775808<=t.e): Ef EJ 179 #[t.a,E I s,E I ep] w fun x w'=>x=Eg (Es #[(t.accept s ep).1.a,E I (t.accept s ep).2])/\Eh w w':=by
 have CG:=J<|fun W=>ny t s W he;obtain⟨r,hr⟩:=En (t.Ow s);have HE:Ea (t.accept s ep=if t.o<0\/t.o≠s then(t,28) else if ep≠t.e then(t,21) else r):=J qJ;rw[<-hr] at CG;clear hr he;unfold EL.a at*;obtain⟨h,e,o,oa,om,la,lm,b⟩:=t;simp only at*;obtain⟨⟨h',e',o',oa',om',la',lm',b'⟩,k⟩:=r;simp only at CG;unfold Oo at CG⊢;go_enter Tryz.func179,Tryz.ntmps179;go_wp2_with fail;generalize hW:World.alloc _ _=W at*;have K3:Ea (D W (w.heap.size) #[E I h,E I e,E I o,E I oa,E I om,E I la,E I lm,Eb b] 109):=J (by subst hW;repeat (first|exact D.new _ _ _|exact D.new' _ _ _ Ek|refine D.alloc ?_ _));have K4:Ea (D W (w.heap.size+1) #[E I s] 3):=J (by subst hW;repeat (first|exact D.new _ _ _|exact D.new' _ _ _ Ek|refine D.alloc ?_ _));have K5:Ea (D W (w.heap.size+1+1) #[E I ep] 3):=J (by subst hW;repeat (first|exact D.new _ _ _|exact D.new' _ _ _ Ek|refine D.alloc ?_ _));have K6:Ea (D W (w.heap.size+1+1+1) #[E I 0,E I 0,E I 0,E I 0,E I 0,E I 0,E I 0,Eb Y] 109):=J (by subst hW;repeat (first|exact D.new _ _ _|exact D.new' _ _ _ Ek|refine D.alloc ?_ _));have KA:Ea (D W (w.heap.size+1+1+1+1) #[E I 28,.func (.func 226) #[] #[V (X ⟨w.heap.size,0,Z⟩),V (X ⟨w.heap.size+1,0,Z⟩)],E I 21,.func (.func 227) #[] #[V (X ⟨w.heap.size+1+1,0,Z⟩),V (X ⟨w.heap.size,0,Z⟩)]] 317):=J (by subst hW;repeat (first|exact D.new _ _ _|exact D.new' _ _ _ Ek|refine D.alloc ?_ _));have BB:Ea (Eh w W):=J (by subst hW;(repeat (first|exact E6 _ _|(refine Below.alloc ?_ Io _)|(refine Below.setCell ?_ Io _))));clear hW
 have CF:=Lp [⟨28,226,#[V (X ⟨w.heap.size,0,Z⟩),V (X ⟨w.heap.size+1,0,Z⟩)],decide (o<0\/o≠s)⟩,⟨21,227,#[V (X ⟨w.heap.size+1+1,0,Z⟩),V (X ⟨w.heap.size,0,Z⟩)],decide (ep≠e)⟩] (w.heap.size+1+1+1+1) 2 W O U KA.out (by
  intro c hc;simp only[List.mem_cons,List.not_mem_nil,or_false] at hc;rcases hc with rfl|rfl;·exact⟨fun _ _=>Ec,fun W2 hW2=>EEJ W2 h e o oa om la lm b _ (K3.out.B hW2) _ s (K4.out.B hW2)⟩
  ·exact⟨fun _ _=>Ec,fun W2 hW2=>EEO W2 h e o oa om la lm b _ (K3.out.B hW2) _ ep (K5.out.B hW2)⟩)
 simp only[fp,decide_eq_true_eq] at CF;replace CF:=J CF;clear KA;by_cases h1:o<0\/o≠s;·rw[if_pos h1] at CF HE;exact Eix
 rw[if_neg h1] at CF HE;by_cases h2:ep≠e;·rw[if_pos h2] at CF HE;exact Eix
 rw[if_neg h2] at CF HE;(with_reducible refine CF.out.mono ?_);rintro x W2 ⟨rfl,b2⟩;replace K3:=J<|K3.out.B b2;replace K4:=J<|K4.out.B b2;replace K5:=J<|K5.out.B b2;replace K6:=J<|K6.out.B b2;replace BB:=ET BB b2;clear b2 CF h1 h2;have c4:W2.cell? ⟨w.heap.size+1,0,Z⟩=X (E I s):=(K4.out.cell 0).trans O;go_wp2_with (first|(with_reducible refine wL EP K3 ?_));(with_reducible refine(CG.out _).mono ?_);rintro x W3 ⟨rfl,b3⟩;replace K3:=J<|K3.out.B b3;replace K4:=J<|K4.out.B b3;replace K5:=J<|K5.out.B b3;replace K6:=J<|K6.out.B b3;replace BB:=ET BB b3;clear b3 CG c4;go_wp2_with (first|(with_reducible refine wS (cs:= #[E I h',E I e',E I o',E I oa',E I om',E I la',E I lm',Eb b']) EP K6 ?_ (h1:=OP)));exact Ejc
theorem EEb{rest:List EK}{a:Act}(hw:IQ o (yielded ops a.tmps)=G) {v:M}  (hr:(execOp a.eval o).run P w= .ok (.value v) w') (h:wpList P ops Q rest (a.put o.dst v) w'):wpList P ops Q (o::rest) a w:=by exact EkU
def pz:Nat->M:=fun i=>if i<5 then E I 0 else if i<=8 then .slice Z 0 0 else E I 0
theorem EEc:(Tryz.prog.info? 28).map (·.size)=X 56:=Ec
section
variable{ops:Array Oper}{rest:List Oper}{o:Oper}{a:Act}{w:World}{Q:Exit->Act->World->Prop}
theorem kC(hw:IQ o (yielded ops a.tmps)=G)(x:Operand)(ho:o.op= .load 28 x)(g:Nat)(q:Nat->M)(hg:Ea (w.heap[g]?=X (EI (EH 56 q) 28 (0,0)))) (hx:a.eval x=V (X ⟨g,0,Z⟩)) (h:wpList EJ ops Q rest (a.put o.dst (EU (EH 56 q))) w):wpList EJ ops Q (o::rest) a w:=by refine EEb hw ?_ h;unfold execOp;simp only[ho,hx,Instr.loadAt,Instr.sureAddr,Sem.run_bind,Sem.run_pure,Result.andThen_ok,run_loadVar_row w g 28 28 (EH 56 q) (0,0) _ hg.out Tryz.underlying28 O (by rw[EEc,kA])]
theorem J6{o:EK}{ops:Array EK}{tmps:Array M}{j d:Nat}{want:Bool}(h:o.guard=X (j,want))(hd:(ops[j]?).bind (·.dst)=X d)(hv:tmps[d]?=X (Eb want)):IQ o (yielded ops tmps)=G:=by unfold IQ yielded;simp[h,hd,hv]
end
theorem EEd(n m:Int)(hm:1<=m)(hm2:m<=1000000)(h1: -9223372036854775808<=n)(h2:n<=9223372036854775807):(n.tmod m+m)%m=n%m:=by have e:=Int.mul_tdiv_add_tmod n m;rw[Int.add_emod_right];conv=>rhs;rw[<-e,Int.mul_add_emod_self_left]
theorem ZP(n m:Int)(w:H)(h1: -9223372036854775808<=n)(h2:n<=9223372036854775807)(hm:1<=m)(hm2:m<=1000000): Ef EJ 22 #[E I n,E I m] w fun e w'=>e=Eg (E I (n%m))/\w=w':=by
 have b1:=Int.tmod_lt_of_pos n (b:=m) U;have b2:=Int.lt_tmod_of_pos n (b:=m) U;have HM:=J<|EEd n m hm hm2 h1 h2;have hz:(m==0)=Y:=JJ;go_enter Tryz.func22,Tryz.ntmps22;go_wp2
 all_goals
  go_ret
  exact⟨by first|(rw[<-HM.out];rfl)|skip,rfl⟩
theorem EEf(w:H):Own (w.alloc (EI #[E IB 7] 5)) w.heap.size (X ⟨w.heap.size,0,Z⟩) 1 [7]:=
 ⟨World.ownsRow_lit w #[E IB 7] 1 (E5 _) Ob O,fun x hx=>by simp at hx;omega⟩
def EEg(w:H)(base:Nat)(e:Ending):Prop:= ∃(Y4:Option Et) (n c:Nat) (ys:List Int),e=Eg (u Y4 n c)/\ys.length=n/\Own w base Y4 c ys/\1<=n/\n<=64
theorem vc(A:Option Et)(xs:List Int)(cap:Nat)(w:H)(hr:Row w A xs)(hl:xs.length<=cap)(hc:cap<=9223372036854775807): Ef EJ 21 #[u A xs.length cap] w fun e w'=>EEg w' w.heap.size e/\Eh w w':=by
 have ba: ∀o,Eh w (w.alloc o):=fun o=>(E6 _ _).alloc (E5 _) o;by_cases h0:xs=[];·subst h0;go_enter Tryz.func21,Tryz.ntmps21;go_wp2;go_ret;exact⟨⟨_,1,1,[7],O,O,EEf w,U,U⟩,ba _⟩
 ·have hpos:0<xs.length:=by cases xs<;>simp_all
  have hz:((xs.length:Int)==0)=Y:=JJ;by_cases h64:64<xs.length
  ·have BA:=J ba;have HR:=J<|j9 hr 64;have hlen:(xs.take 64).length=64:=iQ;have HL:=J hlen;clear ba hr hlen h0;go_enter Tryz.func21,Tryz.ntmps21
   go_wp2_with (at_builtin
                refine qU _ O (.tmp 7) (.tmp 12) O w.heap.size _ 0 0 [] O O (Aj w _ (E5 _)) A cap 64 (xs.take 64) HL.out O (Iq HR.out (BA.out _)) U (BA.out _).size ?_
                intro A1 jJ w4 o1 b4)
   go_ret;rw[List.nil_append] at o1;exact⟨⟨A1,64,jJ,_,O,HL.out,o1,U,U⟩,(BA.out _).trans b4⟩
  ·have BA:=J ba;have HR:=J hr;clear ba hr h0;go_enter Tryz.func21,Tryz.ntmps21
   go_wp2_with (at_builtin
                refine qU _ O (.tmp 7) (.tmp 12) O w.heap.size _ 0 0 [] O O (Aj w _ (E5 _)) A cap xs.length xs O O (Iq HR.out (BA.out _)) U (BA.out _).size ?_
                intro A1 jJ w4 o1 b4)
   go_ret;rw[List.nil_append] at o1;exact⟨⟨A1,xs.length,jJ,xs,by first|rfl|simp,rfl,o1,U,U⟩,(BA.out _).trans b4⟩
def UG(w:H)(lo o:Nat)(v:M):Prop:= ∃(A:Option Et) (n cap:Nat) (ys:List Int) (base:Nat),v=u A n cap/\ys.length=n/\Own w base A cap ys/\1<=n/\n<=64/\(∀x,A=X x->x.block≠o)/\lo<=base
theorem UG.B{o:Nat}{v:M}(h:UG w lo o v)(hb:Eh w w'):UG w' lo o v:=by obtain⟨A,n,cap,ys,base,e,l,ho,r⟩:=h;exact⟨A,n,cap,ys,base,e,l,XF ho hb,r⟩
theorem UG.keep{o:Nat}{v:M}(h:UG w lo o v)(hw: ∀k,k≠o->w'.heap[k]?=w.heap[k]?):UG w' lo o v:=by
 obtain⟨A,n,cap,ys,base,e,l,ho,h1,h2,hx,hlo⟩:=h;refine⟨A,n,cap,ys,base,e,l,⟨?_,ho.2⟩,h1,h2,hx,hlo⟩;obtain⟨k1,k2⟩:=ho.1;refine⟨k1,?_⟩;rcases k2 with k2|⟨g,cap',cur,hv,hg,hh,hl⟩;·exact .inl k2
 ·refine .inr ⟨g,cap',cur,hv,hg,?_,hl⟩;rw[hw];·exact hh
  ·injection hv with e1 e2 e3;exact hx _ e1
theorem UG.set{o:Nat}{v:M}(h:UG w lo o v)(i:Nat)(Y3:M):UG (w.setCell ⟨o,i,Z⟩ Y3) lo o v:=
 h.keep fun k hk=>Below.heap_setCell _ _ _ _ hk
theorem UG.other{o p:Nat}{v:M}(h:UG w lo o v)(hp:p<lo):UG w lo p v:=by
 obtain⟨A,n,cap,ys,base,e,l,ho,h1,h2,hx,hlo⟩:=h;refine⟨A,n,cap,ys,base,e,l,ho,h1,h2,?_,hlo⟩;rintro x rfl;rcases ho.1.2 with⟨k2,-⟩|⟨g,cap',cur,hv,hg,hh,hl⟩;·cases k2
 ·injection hv with e1 e2 e3;injection e1 with e1;subst e1;simp only;omega
theorem UG.new{o:Nat}{Y4:Option Et}{c:Nat}{ys:List Int}(hl:ys.length=n)(ho:Own w base Y4 c ys)(h1:1<=n)(h2:n<=64)(h:o<base\/w.heap.size<=o)(hlo:lo<=base):UG w lo o (u Y4 n c):=by
 refine⟨Y4,n,c,ys,base,O,hl,ho,h1,h2,?_,hlo⟩;rintro x rfl;rcases ho.1.2 with⟨k2,-⟩|⟨g,cap',cur,hv,hg,hh,hl⟩;·cases k2
 ·injection hv with e1 e2 e3;injection e1 with e1;subst e1;have:=j_ hh;simp only;omega
end Go.Proofs.YtclmichaaiohjaaGreatDoor
