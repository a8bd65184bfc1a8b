import Derived.Test.YtclmichaaiohjaaGreatDoorS09
import Derived.LoopTactic
set_option maxRecDepth 100000
set_option linter.unusedVariables false
set_option linter.unusedSimpArgs false
set_option maxHeartbeats 6400000
namespace Go.Proofs.YtclmichaaiohjaaGreatDoor
open RowKit
open And renaming intro->JD
open _root_.Array renaming getElem?_eq_some_iff->J3
open BitVec renaming ofInt->fX
open Bool renaming true->EJ,false->EI
open Go renaming bits->Ir,World->M,Calls->Eg,TypeId->EB,Value->Y,Addr->Ep,Program->Jq,bodyPost_ret->ET,binOp->X5,results->UA,Act->E_,Oper->EP,yielded->Jg,execOp->Ig,wpList->Ib,Operand->J5,info_parts->au,below_setRow->EY,wpQuiet_nil->I5,run_underlying->go,Ending->Ud
open Act renaming put->Ih
open Builtin renaming append_->ZX
open Code renaming region->bU
open Ending renaming returned->Ei
open Instr renaming loadAt->gJ,sureAddr->dp,indexAt->qY
open IntKind renaming i64->I,u8->Ix
open Lib renaming hid->J
open Obj renaming cells->Eb
open Go.Proofs.Tryz renaming prog->EZ,underlying23->aJ
open Region renaming wanted->JO
open Result renaming andThen_ok->OM
open RowKit renaming Below->Ij,Hid->Ed,intOf->In
open RowKit.Below renaming refl->IU
open Sem renaming run_bind->OH,run_pure->Oi
open Value renaming bool->Ec,int->E,agg->Ea,slice->G,tuple->Eu,pointer->V,oneCell'->Oc
open World renaming block_lt_of_cell?->Xv,ownsRow_lit->nm
open Int renaming toNat_natCast->kn,eq_ofNat_of_zero_le->fm
open List renaming getElem?_eq_none->bJ,eq_nil_of_length_eq_zero->ZP,getElem?_eq_getElem->JV,mem_cons_of_mem->XU,mem_cons_self->dq,getElem?_eq_some_iff->Xx,cons_append->ku,take_succ_cons->Is,length_take->ar,take_of_length_le->OP,getD_eq_getElem?_getD->OE,getElem?_append_left->Z_,getElem?_append_right->aE,take_zero->Iq,getElem?_toArray->J2,setIfInBounds_toArray->Ik,length_append->IY,flatMap_cons->kG,length_cons->Zn,getElem_mem->gh,set_cons_succ->Ic,set_cons_zero->If,nil_append->ZZ,length_drop->il,getElem?_cons_zero->kS,drop_succ_cons->IT,drop_zero->IM,append_nil->dy,take_add_one->nG,mem_of_getElem?->aD,drop_eq_nil_of_le->pT,length_nil->jP,mem_singleton->mX
open Nat renaming lt_or_ge->JW,le_trans->Ew,le_refl->E3,zero_add->Ox,lt_of_lt_of_le->gX,zero_le->aO,le_of_eq->OC
open Ne renaming symm->XA
open Option renaming some->D,none->Z
open Option.some renaming injEq->nF
variable{w W w' W':M}{n i d k off N s lo b0 gs nk ga cp m:Nat}{c c':Ey}{A Y4:Option Ep}{xs ys:List Int}{a:E_}{v:Y}{T Y3:EB}{g:Nat->Y}{x y:J5}{P:Jq}{α:Type}{es:bT}{sv:Array Y}{rs rs':Int->List Int}{X:Nat->List Int}{new:List Rec}
theorem ints_at{b c:Nat}(h:w.ownsRow b 3 1 (G A n c) n (Uz xs))(hn:xs.length=n)(hi:i<n): ∃g,A=D ⟨g,0,Z⟩/\g<w.heap.size/\w.cell? ⟨g,i,Z⟩=D (E I (xs.getD i 0))/\n<=c:=by
 rcases h.2 with⟨hv,h0⟩|⟨g,cap,cur,hv,hb,hh,hc,hrest⟩;·omega
 ·injection hv with e1 e2 e3;subst e1 e3;refine⟨g,O,(J3.1 hh).1,?_,hc⟩;rw[h.cellAt i U,Uz,List.getElem?_map,JV U,OE,JV U];rfl
theorem Ekq(b1 b2:Nat)(A Y4:Option Ep)(n m c d:Nat)(xs ys:List Int)(w:M)(Pf:n<=1000)(hn:xs.length=n)(hm:ys.length=m)(h1:w.ownsRow b1 3 1 (G A n c) n (Uz xs))(h2:w.ownsRow b2 3 1 (G Y4 m d) m (Uz ys)): Eg EZ 37 #[G A n c,G Y4 m d] w fun e w'=>(∃r:Bool,e=Ei (Ec r)/\(xs=ys->r=EJ))/\Ij w.heap.size w w':=by
 have R1:=J h1;have R2:=J h2;have HN:=J hn;have HM:=J hm;clear h1 h2 hn hm;go_enter Tryz.func37,Tryz.ntmps37;by_cases e0:n=m
 ·subst e0;go_wp2_with fail;go_loopw[5] (fun Y3 wr=> ∃i:Nat,Y3=E I i/\i<=n/\Ij w.heap.size w wr) (fun Y3 _=>n-(In Y3).toNat);case atStart=>exact⟨0,O,aO _,IU _ _⟩
  case round=>
   obtain⟨i,rfl,hin,u⟩:=hrel;replace u:=J u;by_cases hlt:i<n
   ·have t8:decide ((i:Int)<(n:Int))=EJ:=IJ U;obtain⟨g1,hA,l1,c1,hc1⟩:=ints_at R1.out HN.out hlt;obtain⟨g2,hB,l2,c2,hc2⟩:=ints_at R2.out HM.out hlt;subst hA hB;replace c1:=(u.out.cell (p:=⟨g1,i,Z⟩) l1).trans c1;replace c2:=(u.out.cell (p:=⟨g2,i,Z⟩) l2).trans c2;obtain⟨x,hx⟩:=Eo (xs.getD i 0);obtain⟨y,hy⟩:=Eo (ys.getD i 0);rw[<-hx] at c1;rw[<-hy] at c2;have HXY:=J (show xs=ys->x=y from fun e=>by rw[hx,hy,e]);clear hx hy l1 l2;rcases hb:(x !=y) with _|_
    ·go_wp2_with fail;go_quiet (fail);go_wp2_with fail;go_roundw;case rel=>exact⟨i+1,O,U,jk u.out _⟩
     case measure=>simp[In];omega
    ·go_wp2_with fail;go_quiet (fail);go_wp2;go_ret;exact⟨⟨EI,O,fun h=>by rw[HXY.out h] at hb;simp at hb⟩,jk u.out _⟩
   ·have t8:decide ((i:Int)<(n:Int))=EI:=IZ U;go_wp2;go_ret;exact⟨⟨EJ,O,fun _=>rfl⟩,u.out⟩
 ·have t1:((n:Int) !=(m:Int))=EJ:=I8;go_wp2;go_ret;exact⟨⟨EI,O,fun h=>absurd (by rw[<-HN.out,<-HM.out,h]) e0⟩,IU _ _⟩
section
variable{P:Program}{ops:Array Oper}{Q:Exit->Act->World->Prop}{w:World}{rest:List Oper}
theorem dk(h:k≠d):(a.put (D d) v).tmps[k]?=a.tmps[k]?:=by simp[Ih,Array.getElem?_setIfInBounds,XA h]
theorem mD(h:d<a.tmps.size):(a.put (D d) v).tmps[d]?=D v:=by simp[Ih,h]
theorem size_put:(a.put (D d) v).tmps.size=a.tmps.size:=by simp[Ih]
theorem Pg{d:Option Tmp}:(a.put d v).defers=a.defers:=by cases d<;>rfl
theorem jf(h:a.tmps[k]?=D v):a.eval (.tmp k)=v:=by simp[Act.eval,h]
theorem oR{TB:EB}{g:Nat}{cs big:Array Y}{o:EP}(hT:IL P T n)(ho:o.op= .load T x)(hg:H w g big TB)(hn:cs.size=n)(he:big.extract off (off+n)=cs)(ev:J5->Y)(hx:ev x=V (D ⟨g,off,Z⟩)):(Ig ev o).run P w= .ok (.value (Ea cs)) w:=by obtain⟨⟨d,hu,hd⟩,hi⟩:=hT;subst he;have hrun:=run_loadVar_mid w g off T _ d (World.rangeAt_of_block hg off n) hu nX zL;exact Eoo
theorem yY{o:EP}{xs ys:Array Y}{r:Bool}(ho:o.op= .binOp .eql T x y Y3)(hm:P.eqGuardType P.depth T=EI)(hq:(X5 .eql T (Ea xs) (Ea ys)).run P w= .ok (Ec r) w)(ev:J5->Y)(h1:ev x=Ea xs)(h2:ev y=Ea ys):(Ig ev o).run P w= .ok (.value (Ec r)) w:=by exact Eqo
structure EJU(N k:Nat)(px py:Y)(r:Bool)(a:E_):Prop where
 sz:a.tmps.size=N
 df:a.defers=[]
 t2:a.tmps[2]?=D px
 t3:a.tmps[3]?=D py
 tk:a.tmps[k]?=D (Ec r)
theorem mF{o0 o1 o2 o3 o4 o5 o6:EP}{i0:Nat}{px py p1 p2 v1 v2:Y}{r s:Bool}(A:EJU N k px py r a)(hk:k<d)(h3:3<d)(hN:d+6<N) (a0:o0.op= .move (.tmp k)) (b0:o0.guard=Z) (c0:o0.dst=D d) (hd:(ops[i0]?).bind (·.dst)=D d) (b1:o1.guard=D (i0,EJ)) (c1:o1.dst=D (d+1)) (b2:o2.guard=D (i0,EJ)) (c2:o2.dst=D (d+2)) (b3:o3.guard=D (i0,EJ)) (c3:o3.dst=D (d+3)) (b4:o4.guard=D (i0,EJ)) (c4:o4.dst=D (d+4)) (b5:o5.guard=D (i0,EJ)) (c5:o5.dst=D (d+5)) (a6:o6.op= .pick (.tmp d) (.tmp (d+5)) (.const (Ec EI))) (b6:o6.guard=Z) (c6:o6.dst=D (d+6)) (H1: ∀ev:J5->Y,ev (.tmp 2)=px->(Ig ev o1).run P w= .ok (.value p1) w) (H2: ∀ev:J5->Y,ev (.tmp (d+1))=p1->(Ig ev o2).run P w= .ok (.value v1) w) (H3: ∀ev:J5->Y,ev (.tmp 3)=py->(Ig ev o3).run P w= .ok (.value p2) w) (H4: ∀ev:J5->Y,ev (.tmp (d+3))=p2->(Ig ev o4).run P w= .ok (.value v2) w) (H5: ∀ev:J5->Y,ev (.tmp (d+2))=v1->ev (.tmp (d+4))=v2->(Ig ev o5).run P w= .ok (.value (Ec s)) w) (h: ∀a',EJU N (d+6) px py (r&&s) a'->Ib P ops Q rest a' w):Ib P ops Q (o0::o1::o2::o3::o4::o5::o6::rest) a w:=by
 have hs:=A.sz;have e0:(Ig a.eval o0).run P w= .ok (.value (Ec r)) w:=by unfold Ig;simp[a0,jf A.tk]
 refine Jo (Eh b0) e0 ?_;rw[c0];have z0:((a.put (D d) (Ec r)).tmps[d]?)=D (Ec r):=mD U;have H6: ∀(ev:J5->Y) (r:Bool) (x:Y),ev (.const (Ec EI))=Ec EI->ev (.tmp d)=Ec r->ev (.tmp (d+5))=x->(Ig ev o6).run P w= .ok (.value (if r then x else Ec EI)) w:=fun ev r x h0 h1 h2=>by unfold Ig;cases r<;>simp[go_sem,a6,h0,h1,h2]
 cases r;·have no: ∀(o:EP) (a':E_),o.guard=D (i0,EJ)->a'.tmps[d]?=D (Ec EI)->JO o (Jg ops a'.tmps)=EI:=fun o a' h1 h2=>EOr h1 hd h2 O;refine wpList_skip (no _ _ b1 z0) ?_;rw[c1];refine wpList_skip (no _ _ b2 (by rw[dk U];exact z0)) ?_;rw[c2];refine wpList_skip (no _ _ b3 (by rw[dk U,dk U];exact z0)) ?_;rw[c3];refine wpList_skip (no _ _ b4 (by rw[dk U,dk U,dk U];exact z0)) ?_;rw[c4];refine wpList_skip (no _ _ b5 (by rw[dk U,dk U,dk U,dk U];exact z0)) ?_;rw[c5];refine Jo (v:=Ec EI) (Eh b6) (H6 _ EI _ O (jf uw) O) ?_;exact EqX
 ·have yes: ∀(o:EP) (a':E_),o.guard=D (i0,EJ)->a'.tmps[d]?=D (Ec EJ)->JO o (Jg ops a'.tmps)=EJ:=fun o a' h1 h2=>fc h1 hd h2;refine Jo (yes _ _ b1 z0) (H1 _ (jf Pi)) ?_;rw[c1];refine Jo (yes _ _ b2 uw) (H2 _ (jf (mD rS))) ?_;rw[c2];refine Jo (yes _ _ b3 uw) (H3 _ (jf Pj)) ?_;rw[c3];refine Jo (yes _ _ b4 uw) (H4 _ (jf (mD rS))) ?_;rw[c4];refine Jo (yes _ _ b5 uw) (H5 _ (jf (by rw[dk U,dk U];exact mD rS)) (jf (mD rS))) ?_;rw[c5];refine Jo (v:=Ec s) (Eh b6) (H6 _ EJ (Ec s) O (jf uw) (jf (mD rS))) ?_;exact EqX
end
structure y_ where
 (h:Nat->Int)
 (o:Nat->Bool)
 (r:Nat->Int)
 b:Bool
def dl(x:y_)(q:Y):Array Y:= #[E I (x.h 0),E I (x.h 1),E I (x.h 2),E I (x.h 3),E I (x.h 4),E I (x.h 5),E I (x.h 6),E I (x.h 7),E I (x.h 8),E I (x.h 9),E I (x.h 10),E I (x.h 11),E I (x.h 12),E I (x.h 13),E I (x.h 14),E I (x.h 15),E I (x.h 16),E I (x.h 17),E I (x.h 18),q,Ec (x.o 0),Ec (x.o 1),Ec (x.o 2),Ec (x.o 3),Ec (x.o 4),E I (x.r 0),E I (x.r 1),E I (x.r 2),E I (x.r 3),E I (x.r 4),Ec x.b]
structure y_.same(x y:y_):Prop where
 h: ∀i,i<19->x.h i=y.h i
 o: ∀i,i<5->x.o i=y.o i
 r: ∀i,i<5->x.r i=y.r i
 b:x.b=y.b
theorem EJX:IL EZ 36 3:=⟨⟨_,Tryz.underlying36,O⟩,Ef⟩
theorem EJZ:IL EZ 50 12:=⟨⟨_,Tryz.underlying50,O⟩,Ef⟩
theorem EJa:IL EZ 52 5:=⟨⟨_,Tryz.underlying52,O⟩,Ef⟩
theorem EJb:IL EZ 22 5:=⟨⟨_,Tryz.underlying22,O⟩,Ef⟩
theorem Eks(x y:y_)(b1 b2:Nat)(A Y4:Option Ep)(n m c d:Nat)(xs ys:List Int)(w:M)(Pf:n<=1000)(hn:xs.length=n)(hm:ys.length=m)(h1:w.ownsRow b1 3 1 (G A n c) n (Uz xs))(h2:w.ownsRow b2 3 1 (G Y4 m d) m (Uz ys)): Eg EZ 17 #[Ea (dl x (G A n c)),Ea (dl y (G Y4 m d))] w fun e w'=>(∃r:Bool,e=Ei (Ec r)/\(x.same y->xs=ys->r=EJ))/\Ij w.heap.size w w':=by
 have bb:=JY w (Eb (dl x (G A n c)) 54) (Eb (dl y (G Y4 m d)) 54);have R1:=J<|EG h1 fun _ _ hk=>H.B hk bb;have R2:=J<|EG h2 fun _ _ hk=>H.B hk bb;have Pk:=J<|JD Pf (JD hn hm);have GI:=J<|(H.new w (dl x (G A n c)) 54).B (Er (w.alloc (Eb (dl x (G A n c)) 54)) (Eb (dl y (G Y4 m d)) 54));have GJ:Ed (H ((w.alloc (Eb (dl x (G A n c)) 54)).alloc (Eb (dl y (G Y4 m d)) 54)) (w.heap.size+1) (dl y (G Y4 m d)) 54):=J (by have:=H.new (w.alloc (Eb (dl x (G A n c)) 54)) (dl y (G Y4 m d)) 54;simpa using this);have u:=J bb;obtain⟨xv,hxv⟩: ∃xv,xv=dl x (G A n c):=⟨_,O⟩;obtain⟨yv,hyv⟩: ∃yv,yv=dl y (G Y4 m d):=⟨_,O⟩;rw[<-hxv,<-hyv] at GI GJ u R1 R2;rw[<-hxv,<-hyv];have HX:=J hxv;have HY:=J hyv;clear hn hm h1 h2 Pf hxv hyv bb;go_enter Tryz.func17,Tryz.ntmps17;have cx:((w.alloc (Eb xv 54)).alloc (Eb yv 54)).cell? ⟨w.heap.size,19,Z⟩=D (G A n c):=(GI.out.cell 19).trans kU;have cy:((w.alloc (Eb xv 54)).alloc (Eb yv 54)).cell? ⟨w.heap.size+1,19,Z⟩=D (G Y4 m d):=(GJ.out.cell 19).trans kX;generalize hc:bU 2 _ _=c2;go_wp2_with fail;refine(Ekq b1 b2 A Y4 n m c d xs ys _ Pk.out.1 Pk.out.2.1 Pk.out.2.2 R1.out R2.out).mono ?_;rintro e w3 ⟨⟨r0,rfl,hr0⟩,b3⟩;have KX:=J<|GI.out.B b3;have KY:=J<|GJ.out.B b3;have B3:=EV u b3;clear cx cy b3 GI GJ u R1 R2;obtain⟨gx,hgx⟩:=Eo w.heap.size;obtain⟨gy,hgy⟩:=Eo (w.heap.size+1);rw[<-hgy] at KY⊢;rw[<-hgx] at KX⊢;clear hgx hgy;have x0:w3.cell? ⟨gx,0,Z⟩=D (E I (x.h 0)):=(KX.out.cell 0).trans kU;have y0:w3.cell? ⟨gy,0,Z⟩=D (E I (y.h 0)):=(KY.out.cell 0).trans kX;have x1:w3.cell? ⟨gx,1,Z⟩=D (E I (x.h 1)):=(KX.out.cell 1).trans kU;have y1:w3.cell? ⟨gy,1,Z⟩=D (E I (y.h 1)):=(KY.out.cell 1).trans kX;have x2:w3.cell? ⟨gx,2,Z⟩=D (E I (x.h 2)):=(KX.out.cell 2).trans kU;have y2:w3.cell? ⟨gy,2,Z⟩=D (E I (y.h 2)):=(KY.out.cell 2).trans kX;have x3:w3.cell? ⟨gx,3,Z⟩=D (E I (x.h 3)):=(KX.out.cell 3).trans kU;have y3:w3.cell? ⟨gy,3,Z⟩=D (E I (y.h 3)):=(KY.out.cell 3).trans kX;have x30:w3.cell? ⟨gx,30,Z⟩=D (Ec x.b):=(KX.out.cell 30).trans kU;have y30:w3.cell? ⟨gy,30,Z⟩=D (Ec y.b):=(KY.out.cell 30).trans kX;obtain⟨r4,q4,h4⟩:=Ekn (x.h 4) (x.h 5) (x.h 6) (y.h 4) (y.h 5) (y.h 6) w3;obtain⟨r7,q7,h7⟩:=Ekl (x.h 7) (x.h 8) (x.h 9) (x.h 10) (x.h 11) (x.h 12) (x.h 13) (x.h 14) (x.h 15) (x.h 16) (x.h 17) (x.h 18) (y.h 7) (y.h 8) (y.h 9) (y.h 10) (y.h 11) (y.h 12) (y.h 13) (y.h 14) (y.h 15) (y.h 16) (y.h 17) (y.h 18) w3;obtain⟨zE,q20,h20⟩:=Eko x.o y.o w3;obtain⟨zI,q25,qi⟩:=Ekp x.r y.r w3;have h0:x.same y->r4=EJ/\r7=EJ/\zE=EJ/\zI=EJ:=fun s=>⟨h4 ⟨s.h 4 U,s.h 5 U,s.h 6 U⟩,h7 ⟨s.h 7 U,s.h 8 U,s.h 9 U,s.h 10 U,s.h 11 U,s.h 12 U,s.h 13 U,s.h 14 U,s.h 15 U,s.h 16 U,s.h 17 U,s.h 18 U⟩,h20 ⟨s.o 0 U,s.o 1 U,s.o 2 U,s.o 3 U,s.o 4 U⟩,qi ⟨s.r 0 U,s.r 1 U,s.r 2 U,s.r 3 U,s.r 4 U⟩⟩;have H0:=J h0;have HR:=J hr0;clear h4 h7 h20 qi h0 hr0;have HC:=J hc;clear hc;go_wp2_with fail;rw[<-HC.out];refine wp_region_lit ?_;simp only[List.append_eq,ku,ZZ];refine Jo (v:=Ec r0) (Eh O) O ?_;refine mF (N:=75) (k:=11) (d:=12) (i0:=1) (px:=V (D ⟨gx,0,Z⟩)) (py:=V (D ⟨gy,0,Z⟩)) (p1:=V (D ⟨gx,0,Z⟩)) (p2:=V (D ⟨gy,0,Z⟩)) (v1:=E I (x.h 0)) (v2:=E I (y.h 0)) (s:=(x.h 0==y.h 0)) ⟨O,O,O,O,O⟩ EU EU EU O O O O O O O O O O O O O O O O O ?_ ?_ ?_ ?_ ?_ fun a1 A1=> ?_;·exact EoS
 ·exact fun ev h=>by unfold Ig;simp[go_sem,h,x0]
 ·exact EoS
 ·exact fun ev h=>by unfold Ig;simp[go_sem,h,y0]
 ·exact EqQ
 refine mF (N:=75) (k:=18) (d:=19) (i0:=8) (px:=V (D ⟨gx,0,Z⟩)) (py:=V (D ⟨gy,0,Z⟩)) (p1:=V (D ⟨gx,1,Z⟩)) (p2:=V (D ⟨gy,1,Z⟩)) (v1:=E I (x.h 1)) (v2:=E I (y.h 1)) (s:=(x.h 1==y.h 1)) A1 EU EU EU O O O O O O O O O O O O O O O O O ?_ ?_ ?_ ?_ ?_ fun a2 A2=> ?_;·exact EoS
 ·exact fun ev h=>by unfold Ig;simp[go_sem,h,x1]
 ·exact EoS
 ·exact fun ev h=>by unfold Ig;simp[go_sem,h,y1]
 ·exact EqQ
 refine mF (N:=75) (k:=25) (d:=26) (i0:=15) (px:=V (D ⟨gx,0,Z⟩)) (py:=V (D ⟨gy,0,Z⟩)) (p1:=V (D ⟨gx,2,Z⟩)) (p2:=V (D ⟨gy,2,Z⟩)) (v1:=E I (x.h 2)) (v2:=E I (y.h 2)) (s:=(x.h 2==y.h 2)) A2 EU EU EU O O O O O O O O O O O O O O O O O ?_ ?_ ?_ ?_ ?_ fun a3 A3=> ?_;·exact EoS
 ·exact fun ev h=>by unfold Ig;simp[go_sem,h,x2]
 ·exact EoS
 ·exact fun ev h=>by unfold Ig;simp[go_sem,h,y2]
 ·exact EqQ
 refine mF (N:=75) (k:=32) (d:=33) (i0:=22) (px:=V (D ⟨gx,0,Z⟩)) (py:=V (D ⟨gy,0,Z⟩)) (p1:=V (D ⟨gx,3,Z⟩)) (p2:=V (D ⟨gy,3,Z⟩)) (v1:=E I (x.h 3)) (v2:=E I (y.h 3)) (s:=(x.h 3==y.h 3)) A3 EU EU EU O O O O O O O O O O O O O O O O O ?_ ?_ ?_ ?_ ?_ fun a4 A4=> ?_;·exact EoS
 ·exact fun ev h=>by unfold Ig;simp[go_sem,h,x3]
 ·exact EoS
 ·exact fun ev h=>by unfold Ig;simp[go_sem,h,y3]
 ·exact EqQ
 refine mF (N:=75) (k:=39) (d:=40) (i0:=29) (px:=V (D ⟨gx,0,Z⟩)) (py:=V (D ⟨gy,0,Z⟩)) (p1:=V (D ⟨gx,4,Z⟩)) (p2:=V (D ⟨gy,4,Z⟩)) (v1:=Ea #[E I (x.h 4),E I (x.h 5),E I (x.h 6)]) (v2:=Ea #[E I (y.h 4),E I (y.h 5),E I (y.h 6)]) (s:=r4) A4 EU EU EU O O O O O O O O O O O O O O O O O ?_ ?_ ?_ ?_ ?_ fun a5 A5=> ?_;·exact EoS
 ·exact fun ev h=>oR EJX O KX.out O kU ev h
 ·exact EoS
 ·exact fun ev h=>oR EJX O KY.out O kX ev h
 ·exact fun ev h1 h2=>yY O Ef q4 ev h1 h2
 refine mF (N:=75) (k:=46) (d:=47) (i0:=36) (px:=V (D ⟨gx,0,Z⟩)) (py:=V (D ⟨gy,0,Z⟩)) (p1:=V (D ⟨gx,7,Z⟩)) (p2:=V (D ⟨gy,7,Z⟩)) (v1:=Ea #[E I (x.h 7),E I (x.h 8),E I (x.h 9),E I (x.h 10),E I (x.h 11),E I (x.h 12),E I (x.h 13),E I (x.h 14),E I (x.h 15),E I (x.h 16),E I (x.h 17),E I (x.h 18)]) (v2:=Ea #[E I (y.h 7),E I (y.h 8),E I (y.h 9),E I (y.h 10),E I (y.h 11),E I (y.h 12),E I (y.h 13),E I (y.h 14),E I (y.h 15),E I (y.h 16),E I (y.h 17),E I (y.h 18)]) (s:=r7) A5 EU EU EU O O O O O O O O O O O O O O O O O ?_ ?_ ?_ ?_ ?_ fun a6 A6=> ?_;·exact EoS
 ·exact fun ev h=>oR EJZ O KX.out O kU ev h
 ·exact EoS
 ·exact fun ev h=>oR EJZ O KY.out O kX ev h
 ·exact fun ev h1 h2=>yY O Ef q7 ev h1 h2
 refine mF (N:=75) (k:=53) (d:=54) (i0:=43) (px:=V (D ⟨gx,0,Z⟩)) (py:=V (D ⟨gy,0,Z⟩)) (p1:=V (D ⟨gx,20,Z⟩)) (p2:=V (D ⟨gy,20,Z⟩)) (v1:=Ea #[Ec (x.o 0),Ec (x.o 1),Ec (x.o 2),Ec (x.o 3),Ec (x.o 4)]) (v2:=Ea #[Ec (y.o 0),Ec (y.o 1),Ec (y.o 2),Ec (y.o 3),Ec (y.o 4)]) (s:=zE) A6 EU EU EU O O O O O O O O O O O O O O O O O ?_ ?_ ?_ ?_ ?_ fun a7 A7=> ?_;·exact EoS
 ·exact fun ev h=>oR EJa O KX.out O kU ev h
 ·exact EoS
 ·exact fun ev h=>oR EJa O KY.out O kX ev h
 ·exact fun ev h1 h2=>yY O Ef q20 ev h1 h2
 refine mF (N:=75) (k:=60) (d:=61) (i0:=50) (px:=V (D ⟨gx,0,Z⟩)) (py:=V (D ⟨gy,0,Z⟩)) (p1:=V (D ⟨gx,25,Z⟩)) (p2:=V (D ⟨gy,25,Z⟩)) (v1:=Ea #[E I (x.r 0),E I (x.r 1),E I (x.r 2),E I (x.r 3),E I (x.r 4)]) (v2:=Ea #[E I (y.r 0),E I (y.r 1),E I (y.r 2),E I (y.r 3),E I (y.r 4)]) (s:=zI) A7 EU EU EU O O O O O O O O O O O O O O O O O ?_ ?_ ?_ ?_ ?_ fun a8 A8=> ?_;·exact EoS
 ·exact fun ev h=>oR EJb O KX.out O kU ev h
 ·exact EoS
 ·exact fun ev h=>oR EJb O KY.out O kX ev h
 ·exact fun ev h1 h2=>yY O Ef q25 ev h1 h2
 refine mF (N:=75) (k:=67) (d:=68) (i0:=57) (px:=V (D ⟨gx,0,Z⟩)) (py:=V (D ⟨gy,0,Z⟩)) (p1:=V (D ⟨gx,30,Z⟩)) (p2:=V (D ⟨gy,30,Z⟩)) (v1:=Ec x.b) (v2:=Ec y.b) (s:=(x.b==y.b)) A8 EU EU EU O O O O O O O O O O O O O O O O O ?_ ?_ ?_ ?_ ?_ fun a9 A9=> ?_;·exact EoS
 ·exact fun ev h=>by unfold Ig;simp[go_sem,h,x30]
 ·exact EoS
 ·exact fun ev h=>by unfold Ig;simp[go_sem,h,y30]
 ·exact EqQ
 have ev9:=jf A9.tk;refine Jo (v:=Ec (((((((((r0&&(x.h 0==y.h 0))&&(x.h 1==y.h 1))&&(x.h 2==y.h 2))&&(x.h 3==y.h 3))&&r4)&&r7)&&zE)&&zI)&&(x.b==y.b))) (w':=w3) (Eh O) (by unfold Ig;simp only[ev9,Oi]) ?_;refine‹∀(a:E_) (w:M),Code.wp EZ Code.ret _ a w->_› _ _ ?_;refine wp_ret ?_;refine ET (v:=Ec (((((((((r0&&(x.h 0==y.h 0))&&(x.h 1==y.h 1))&&(x.h 2==y.h 2))&&(x.h 3==y.h 3))&&r4)&&r7)&&zE)&&zI)&&(x.b==y.b))) ((results_tmp O _ _ _).trans (by have h9:=mD (a:=a9) (d:=4) (v:=Ec (((((((((r0&&(x.h 0==y.h 0))&&(x.h 1==y.h 1))&&(x.h 2==y.h 2))&&(x.h 3==y.h 3))&&r4)&&r7)&&zE)&&zI)&&(x.b==y.b))) (by rw[A9.sz];decide);rw[Array.getD_eq_getD_getElem?,h9];rfl)) (by rw[Pg,A9.df]) ⟨⟨_,O,fun s e=> ?_⟩,B3.out⟩;obtain⟨h1,h2,h3,h4⟩:=H0.out s;simp[HR.out e,h1,h2,h3,h4,s.h 0 U,s.h 1 U,s.h 2 U,s.h 3 U,s.b]
section
variable{P:Program}{a:Act}{o:Oper}{C:World->Prop}{K:Act->Prop}
theorem Ekx{xs ys:Array Y}{r:Bool}(ho:o.op= .binOp .eql T x y Y3)(hm:P.eqGuardType P.depth T=EI)(hq: ∀W,(X5 .eql T (Ea xs) (Ea ys)).run P W= .ok (Ec r) W)(h1:a.eval x=Ea xs)(h2:a.eval y=Ea ys)(hk:K (a.put o.dst (Ec r))):o.quiet P a C K:=by refine⟨_,fun w hw=> ?_,hk⟩;have:=yY (w:=w) ho hm (hq w) a.eval h1 h2;unfold Oper.quietAt;rw[this];first|exact⟨rfl,rfl⟩|rfl
end
theorem EJd{l:List Int}(hl:l.length=12)(W:M):(X5 .eql 38 (Ea (l.map (E .i64)).toArray) (Ea (l.map (E .i64)).toArray)).run EZ W= .ok (Ec EJ) W:=by
 match l,hl with
 |[x0,x1,x2,x3,x4,x5,x6,x7,x8,x9,gA,iY],_=> obtain⟨r,h1,h2⟩:=Ekm x0 x1 x2 x3 x4 x5 x6 x7 x8 x9 gA iY x0 x1 x2 x3 x4 x5 x6 x7 x8 x9 gA iY W;rw[h2 ⟨O,O,O,O,O,O,O,O,O,O,O,O⟩] at h1;exact h1
theorem Eky(W:M):(X5 .eql 38 (Ea aY.toArray) (Ea aY.toArray)).run EZ W= .ok (Ec EJ) W:=EJd (l:=[4,1,0,0,0,0,2,4,0,2,4,0]) O W
def zO:JX:=⟨3,0,[],EI,0,0,0,0,EI,EI⟩
theorem Ekz:Tryz.prog.built 28 []=D hH:=Ef
theorem EkA:Tryz.prog.built 48 [(0,E I 3)]=D (zO.cells Z 0).toArray:=Ef
theorem EkB{o:EP}{K:E_->Prop}{g:Nat}{cs:List Y}(hT:IL P T n)(x:J5)(ho:o.op= .load T x)(hx:a.eval x=V (D ⟨g,off,Z⟩))(hg:Ed (W.rangeAt g off cs))(hn:cs.length=n) (hk:K (a.put o.dst (Ea cs.toArray))):o.quiet P a (fun w'=> ∃x,w'=EC W x) K:=by
 obtain⟨⟨d,hu,hd⟩,hi⟩:=hT;refine⟨_,fun w hw=> ?_,hk⟩;obtain⟨y,rfl⟩:=hw;have hr:(EC W y).rangeAt g off cs:=fun j v hj=>by have h:=hg.out j v hj;rw[(EQ y).cell (Xv _ _ h)];exact h
 have hrun:=run_loadVar_mid (EC W y) g off T cs d hr hu nX iO;unfold Oper.quietAt Ig;exact Ep0
theorem EkC(Jx:List (Array Y)): ∀(i j:Nat),(∀tv∈Jx,tv.size=46)->j<46-> ∀tv,Jx[i]?=D tv->(h_ Jx)[i*46+j]?=tv[j]?:=by
 induction Jx with
 |nil=>intro i j _ _ x h;simp at h
 |cons y t ih=>
  intro i j hs hj x h;have hy:y.toList.length=46:=by rw[Array.length_toList];exact hs y (dq ..)
  rw[h_,kG];match i,h with
  |0,h=> simp only[kS,nF] at h;subst h;rw[Z_ (by rw[hy];omega),Nat.zero_mul,Ox,Array.getElem?_toList]
  |i+1,h=> rw[aE (by rw[hy];omega),hy,show(i+1)*46+j-46=i*46+j from U];exact ih i j (fun tv ht=>hs tv (XU _ ht)) hj x Ov
theorem EkD{b c:Nat}{Jx:List (Array Y)}(h:w.ownsRow b 43 46 (G A n c) n (h_ Jx))(hl:Jx.length=n)(hs: ∀tv∈Jx,tv.size=46)(hi:i<n): ∃g tv,A=D ⟨g,0,Z⟩/\tv∈Jx/\ ∀j,j<46->w.cell? ⟨g,i*46+j,Z⟩=tv[j]?:=by
 obtain⟨tv,hx⟩: ∃tv,Jx[i]?=D tv:=⟨_,JV U⟩;rcases h.2 with⟨-,h0⟩|⟨g,cap,cur,hv,-,hh,hc,hrest⟩;·omega
 ·injection hv with e1 e2 e3;subst e1 e3;exact⟨g,tv,O,aD hx,fun j hj=>by rw[h.cellAt (i*46+j) U,EkC Jx i j hs hj tv hx]⟩
theorem EkF(w:M)(hR:Ju w)(hC:Xs w)(h2:2<=w.heap.size): Eg EZ 8 #[] w fun e w'=>e=Ei (Ec EJ)/\Ij w.heap.size w w':=by
 have F3:=J (show∃ie z,Tryz.prog.info? 48=D ie/\ie.zero=D z/\ie.size=10 from EI4);obtain⟨ev,hev⟩:=Eo ((zO.cells Z 0).toArray);obtain⟨pz,hpz⟩:=Eo hH;have BP:=J Ekz;have BE:=J EkA;rw[<-hev] at BE;rw[<-hpz] at BP;have ES:Ed (ev.size=10):=J (by rw[hev];rfl);have b1:=Er w (Eb ev 48)
 have hE:O9 0 (w.alloc (Eb ev 48)) (D ⟨w.heap.size,0,Z⟩) 1 1 [(zO,Z,0)]:=⟨by
  have:=nm (base:=0) (e:=48) (size:=10) w ev 1 (aO _) J8 (by rw[ES.out]);rw[hev] at this⊢;exact this,O,fun x hx=>by
  rw[mX.1 hx];exact⟨⟨GU,GU,GU,GU⟩,by simp[zO],XL _ _⟩⟩
 have RA:=J<|Ekk (fun i=>if 5<=i/\i<=8 then .slice Z 0 0 else E I 0) (fun _=>0) (fun _=>0) 0 _ 1 1 _ _ EU ⟨fun i h1 h2=>⟨if_neg U,oO⟩,fun i h1 h2=>⟨Z,0,if_pos ⟨h1,h2⟩⟩,.inl EU⟩ (fun i h1 h2=>⟨Z,0,[],if_pos ⟨h1,h2⟩,O,mQ _ _⟩) (hR.B b1) (hC.B b1) (Ew h2 b1.size) U hE;have u:=J b1;rw[show EL 56 (fun i=>if 5<=i/\i<=8 then G Z 0 0 else E I 0)=pz by rw[hpz];rfl] at RA;have CH:XO (fun _=>0) (fun _=>0)=40:=EU;clear hE hR hC h2 b1 hpz hev;go_enter Tryz.func8,Tryz.ntmps8;go_wp2_with (first|((with_reducible refine Io 5 ?_);refine I4 rfl 28 _ rfl pz BP.out ?_)|((with_reducible refine Io 6 ?_);refine I4 rfl 48 _ rfl ev BE.out ?_)|((with_reducible refine Io 7 ?_);(refine N_ rfl 29 48 _ 10 ev rfl rfl ES.out Tryz.underlying29 F3.out U U ?_)));refine RA.out.mono ?_;rintro e w3 ⟨⟨A,c,Jx,sv,code,rfl,own,tl,Pm,sz,ps⟩,b3⟩
 obtain⟨rfl,rfl⟩:code=40/\sv=ZJ:=by
  rcases ps with⟨_,h1,h2⟩|⟨h1,_⟩;·exact⟨by rw[h1,CH],h2⟩
  ·rw[CH] at h1;cases h1
 obtain⟨g,tv,rfl,hm,hc⟩:=EkD own tl (fun tv h=>(Pm tv h).2) (i:=0) U;obtain rfl:=(Pm tv hm).1 (by rw[CH];decide)
 have RA0:Ed (w3.rangeAt g 0 aY):=J (by
  intro j v hj
  have hjl:j<12:=by
   rcases JW j 12 with h|h;·exact h
   ·rw[bJ (by simp[aY];omega)] at hj;cases hj
  have h2:=hc j U;rw[Nat.zero_mul] at h2;rw[h2,rL,Jh,J2,Z_ (by simp[aY];omega)];exact hj)
 have B3:=EV u b3;clear own tl Pm sz ps hm hc b3 RA CH F3 u BP BE;obtain⟨zs,hzs⟩:=Eo ZJ;have ZS:Ed (zs.size=31):=J PU;have ZO:Ed (zs.all (·.oneCell')=EJ):=J (by rw[hzs];exact N4);have ZT:Ed (Od EZ 54 zs):=J (by rw[hzs];exact rm);rw[<-hzs];clear hzs;have KS:=J<|H.new w3 zs 54;go_wp2_with (with_reducible first|refine wA ZT.out ?_|refine wS (cs:=zs) fY KS (Ex.mk ?_) (ho:=ZS.out) (hn:=ZS.out) (h1:=ZO.out));apply Es;have B4:=J<|EY (g:=w3.heap.size) (Er w3 (Eb zs 54)) (E3 _) zs;have RA4:Ed (((w3.alloc (Eb zs 54)).setRow w3.heap.size zs).rangeAt g 0 aY):=J fun j v hj=>by have h:=RA0.out j v hj;rw[B4.out.cell (Xv _ _ h)];exact h
 have B5:=EV B3 B4.out;clear RA0 B3 B4 KS;generalize (w3.alloc (Eb zs 54)).setRow w3.heap.size zs=w4 at*;have FL:Ed (aY.length=12):=J O;have FA:=J<|fun W=>EIP W;have FQ:=J Eky;obtain⟨fx,hfx⟩:=Eo aY;rw[<-hfx] at RA4 FL FA FQ;clear hfx;go_wp2_with fail;refine ZQ Ef Ef ?_
 repeat (first
  |go_big_quiet_skip
  |(go_big_quiet_want
    first
     |(refine EkB (T:=38) (g:=g) (off:=0) rz _ rfl rfl RA4 ?_ ?_;(·exact FL.out);go_simp;go_big_quiet_on)
     |(refine Ekx rfl Ef FQ.out rfl rfl ?_;go_simp;go_big_quiet_on)
     |(go_big_quiet_op
       first
        |go_big_quiet_on
        |go_big_quiet_call (with_reducible refine ao (FA.out _)))))
 refine I5 ?_;intro _ hw';obtain⟨y9,rfl⟩:=hw';have En:=EQ y9;generalize EC w4 y9=w5 at*;go_wp2;go_ret;exact⟨O,bt B5.out En⟩
theorem EkG(l:List Rec)(i:Nat)(x:Rec)(h:l[i]?=D x)(j:Nat)(hj:j<6):(UC l)[i*6+j]?=x.v[j]?:=by
 induction l generalizing i with
 |nil=>simp at h
 |cons y r ih=>
  cases i with
  |zero=> obtain rfl:y=x:=Ov;rw[UC,kG,Nat.zero_mul,Ox,Z_ Cz]
  |succ i=> rw[UC,kG,aE Cz];rw[show(i+1)*6+j-y.v.length=i*6+j from Cz];exact ih i Ov
theorem EkH{base c:Nat}{l:List Rec}{x:Rec}(h:W.ownsRow base 58 6 (G A n c) n (UC l))(hx:l[i]?=D x): ∃g,A=D ⟨g,0,Z⟩/\n<=c/\c<=9223372036854775807/\W.cell? ⟨g,i*6,Z⟩=D (E I x.k)/\W.cell? ⟨g,i*6+1,Z⟩=D (E I x.s)/\W.cell? ⟨g,i*6+2,Z⟩=D (E I x.q):=by
 have hi:=(Xx.1 hx).1;have h0:=h;rcases h.2 with⟨hv,h1⟩|⟨g,cap',cur,hv,hg,hh,hl,hm,hs,ht⟩;·have:=h.1;rw[zS,h1] at this;omega
 ·injection hv with h1 h2 h3;subst h1;subst h3;have e:=fun j hj=>EkG l i x hx j hj;have cl: ∀j Y3,(UC l)[j]?=D Y3->W.cell? ⟨g,j,Z⟩=D Y3:=fun j Y3 hu=>by have:=h0.cells (g:=g) O j Y3 hu;rwa [show(⟨g,0,Z⟩:Ep).add j=⟨g,j,Z⟩ from U3] at this
  exact⟨g,O,hl,by unfold maxLen at hm;exact hm,cl (i*6) _ ((e 0 U).trans O),cl (i*6+1) _ ((e 1 U).trans O),cl (i*6+2) _ ((e 2 U).trans O)⟩
theorem EkK(p:α->Bool)(l:List α)(i:Nat)(x:α)(h:l[i]?=D x):(l.take (i+1)).any p=((l.take i).any p||p x):=by rw[nG,h];simp
theorem EJh(h:Xs w):2<=w.heap.size:=Xv _ _ (h 0 U)
theorem sB.B{f:Nat->Y}(h:sB w f)(hb:Ij w.heap.size w w'):sB w' f:=
 ⟨h.int,fun i h1 h2=>by obtain⟨A,xs,cap,e,l1,l2,r,x⟩:=h.key i h1 h2;exact⟨A,xs,cap,e,l1,l2,It r hb,x⟩⟩
theorem ua.B(h:ua w v)(hb:Ij w.heap.size w w'):ua w' v:=by obtain⟨A,l,c,rfl,h⟩:=h;refine⟨A,l,c,O,h.imp id fun⟨b,off,e,h⟩=>⟨b,off,e,fun i hi=> ?_⟩⟩;obtain⟨e,a,d,h1,h2⟩:=h i hi;refine⟨e,a,d,h1.B hb,fun j hj=> ?_⟩;have h3:=h2 j hj;obtain⟨v,hv⟩: ∃v,(e.cells a d)[j]?=D v:=⟨_,JV (by rw[JX.ut];exact hj)⟩;rw[hv] at h3⊢;rw[hb.cell (Xv _ _ h3)];exact h3
theorem O9.rT{c:Nat}(h:O9 b0 W A n c es)(m:Jw lo W.heap.size W W'):O9 b0 W' A n c es:=
 h.keep fun S hS k cs hk=>m.Ek k cs S hk.lt oQ oQ hk
def ux(c:Ey):List Int:=[c.tok.h,c.tok.e,c.tok.o,c.mode,c.En.r,c.En.s,c.En.q,c.pt.c,c.pt.a0,c.pt.a1,c.pt.a2,c.pt.a3,c.pt.n0,c.pt.n1,c.pt.n2,c.pt.n3,c.pt.b.r,c.pt.b.s,c.pt.b.q]
def zU(c:Ey):y_:=⟨fun i=>(ux c).getD i 0,fun i=>c.T.XN i,fun i=>c.T.cL i,c.tok.bad⟩
theorem EJi(c:Ey)(q:Y):(kE c q).toArray=dl (zU c) q:=rfl
theorem oy.site(h:oy c c'):(zU c).same (zU c'):=by
 have e:ux c'=ux c:=by unfold ux;rw[h.tok,h.mode,h.En,h.pt]
 exact⟨fun i _=>by show(ux c).getD i 0=(ux c').getD i 0;rw[e],fun i _=>(h.on i).symm,fun i _=>(h.role i).symm,by show c.tok.bad=c'.tok.bad;rw[h.tok]⟩
def Z8(b:Nat)(c:Ey)(sv:Array Y)(W:M):Prop:= ∃(A:Option Ep) (d:Nat),sv=(kE c (G A c.q.length d)).toArray/\W.ownsRow b 3 1 (G A c.q.length d) c.q.length (Uz ((Jt c.q).map One.s))
theorem Z8.keep{b:Nat}(h:Z8 b c sv W)(hb: ∀k cs,H W k cs 3->H W' k cs 3):Z8 b c sv W':=by obtain⟨A,d,e,o⟩:=h;exact⟨A,d,e,EG o hb⟩
theorem Z8.B{b:Nat}(h:Z8 b c sv W)(hb:Ij W.heap.size W W'):Z8 b c sv W':=h.keep fun _ _ hk=>hk.B hb
theorem Z8.lower{b b':Nat}(h:Z8 b c sv W)(hb:b'<=b):Z8 b' c sv W:=by obtain⟨A,d,e,o⟩:=h;exact⟨A,d,e,mq o hb⟩
theorem Z8.size{b:Nat}(h:Z8 b c sv W):sv.size=31:=by obtain⟨A,d,e,o⟩:=h;rw[e];exact EIR _ _
theorem Z8.one{b:Nat}(h:Z8 b c sv W):sv.all (·.oneCell')=EJ:=by obtain⟨A,d,e,o⟩:=h;rw[e];exact EIS _ _ _ _
theorem EJj(lo:Nat)(g:Nat->Y)(a:Oh)(c:Ey)(rs:Int->List Int)(w:M)(Y8:I7 lo g a c rs w): Eg EZ 13 #[V (D ⟨a.gm,0,Z⟩)] w fun e w'=>(∃sv,e=Ei (Ea sv)/\Z8 w.heap.size c sv w')/\Ij w.heap.size w w':=
 (EjT lo g a c rs w Y8).mono fun _ _ ⟨⟨A,d,he,ho⟩,hb⟩=>⟨⟨_,he,A,d,O,ho⟩,hb⟩
theorem EkL(b1 b2:Nat)(c c':Ey)(sv fJ:Array Y)(w:M)(h1:Z8 b1 c sv w)(h2:Z8 b2 c' fJ w)(hq:c.q.length<=3): Eg EZ 17 #[Ea sv,Ea fJ] w fun e w'=>(∃r:Bool,e=Ei (Ec r)/\(oy c c'->r=EJ))/\Ij w.heap.size w w':=by obtain⟨A,d,rfl,o1⟩:=h1;obtain⟨Y4,d',rfl,o2⟩:=h2;rw[EJi,EJi];refine(Eks (zU c) (zU c') b1 b2 A Y4 _ _ d d' _ _ w U (by have:=o1.1;simpa[Uz] using this) (by have:=o2.1;simpa[Uz] using this) o1 o2).mono ?_;rintro e w' ⟨⟨r,rfl,h⟩,hb⟩;exact⟨⟨r,O,fun s=>h s.site (by rw[s.q])⟩,hb⟩
def kZ(c:Ey):Array Y:=(OZ c).toArray
theorem EkM(c:Ey):(kZ c).size=12:=rfl
theorem EkN(c:Ey)(W:M):(X5 .eql 38 (Ea (kZ c)) (Ea (kZ c))).run EZ W= .ok (Ec EJ) W:=
 EJd (l:=[c.mode,c.pt.c,c.pt.n0,c.pt.n1,c.pt.n2,c.pt.n3,c.En.r,c.En.s,c.En.q,c.pt.b.r,c.pt.b.s,c.pt.b.q]) O W
theorem EkP{xs ys:Array Y}{r:Bool}(h:(X5 .eql T (Ea xs) (Ea ys)).run P W= .ok (Ec r) W):(X5 .neq T (Ea xs) (Ea ys)).run P W= .ok (Ec !r) W:=by
 simp only[X5,OH,Oi] at h⊢;cases hh:(Op.equal T (Ea xs) (Ea ys)).run P W with
 |ok b w1=> rw[hh] at h;simp only[OM,Result.ok.injEq,Value.bool.injEq] at h⊢;rw[h.1,h.2];exact⟨O,O⟩
 |_=>rw[hh] at h;cases h
theorem EkQ(c:Ey)(sv rv:Y)(hd:List Int):(Jh (OZ c) sv rv hd).toArray.extract 0 12=kZ c:=by unfold Jh kZ OZ;simp[List.extract]
theorem EkR{o:EP}{xs ys:Array Y}{r:Bool}(ho:o.op= .binOp .neq T x y Y3)(hm:P.eqGuardType P.depth T=EI)(hq:(X5 .neq T (Ea xs) (Ea ys)).run P w= .ok (Ec r) w)(ev:J5->Y)(h1:ev x=Ea xs)(h2:ev y=Ea ys):(Ig ev o).run P w= .ok (.value (Ec r)) w:=by exact Eqo
theorem O9.range{n0:Nat}{b c:Nat}{x:JX×Option Ep×Nat}(h:O9 n0 W (D ⟨b,0,Z⟩) n c es)(hi:i<n)(hx:es[i]?=D x):W.rangeAt b (i*10) (x.1.cells x.2.1 x.2.2):=by obtain⟨b',x',e1,e2,-,-,h'⟩:=h.at i hi;(iterate 2 injection e1 with e1);subst e1;rw[hx] at e2;injection e2 with e2;subst e2;exact h'
def GX(nb:Nat)(g2:Nat->Y)(a:Oh)(c c':Ey)(rs:Int->List Int)(sv:Array Y)(b:Nat)(j:Nat)(v:Y)(w:M):Prop:=match j with
 |0=>v=Ea sv
 |1=>v=V (D ⟨a.gm,0,Z⟩)
 |2=> ∃fJ,v=Ea fJ/\Z8 b c' fJ w
 |_=> ∃r:Bool,v=Ec r/\(oy c c'->r=EJ)
theorem EkS(nb:Nat)(g2:Nat->Y)(a:Oh)(c c':Ey)(rs:Int->List Int)(sv:Array Y)(b:Nat): ∀j v w w',j<4->GX nb g2 a c c' rs sv b j v w->J0 w w'->GX nb g2 a c c' rs sv b j v w':=by
 intro j v w w' hi h hb;unfold GX at*;split at h;case h_3=>obtain⟨fJ,e,o⟩:=h;exact⟨fJ,e,o.B hb⟩
 all_goals exact h
theorem EJk(a b:Int)(h1:0<=a)(h2:a<=65535)(h3:0<=b)(h4:b<=65535):Ir .xor .i64 a b=Ir .xor .u16 a b:=by obtain⟨A,rfl⟩:=fm h1;obtain⟨Y4,rfl⟩:=fm h3;have hx:A^^^Y4<2^16:=Nat.xor_lt_two_pow U U;rw[u16_xor_nat A Y4 U U];show IntKind.i64.wrap ((fX 64 (A:Int)^^^fX 64 (Y4:Int)).toNat:Int)=_;rw[BitVec.toNat_xor,BitVec.ofInt_natCast,BitVec.toNat_ofNat,BitVec.ofInt_natCast,BitVec.toNat_ofNat,Nat.mod_eq_of_lt U,Nat.mod_eq_of_lt U];exact IntWalk.i64_in _ U
theorem EkT(z:Int)(h0:0<=z)(h1:z<=65535):lC z=if 65536<=z*2 then Ir .xor .i64 (z*2-65536) 4129 else z*2:=by
 obtain⟨m,rfl⟩:=fm h0;unfold lC;have hb:m&&&32768=m/32768%2*32768:=nat_bit 15 m;have e:Ir .and .u16 (m:Int) 32768=((m/32768%2*32768:Nat):Int):=by have:=u16_and_nat m 32768 U U;rw[hb] at this;exact this
 rw[e,IntKind.wrap_u16];by_cases h:65536<=(m:Int)*2;·rw[if_pos (by simp only[bne_iff_ne];omega),if_pos h,EJk _ _ U U U U,show(m:Int)*2%65536=m*2-65536 from U]
 ·rw[if_neg (by simp only[bne_iff_ne];omega),if_neg h];omega
theorem EkV(k:Nat)(z:Int)(h:0<=z/\z<=65535):0<=dX k z/\dX k z<=65535:=by
 cases k with
 |zero=>exact h
 |succ k=>exact Vo _
theorem EJl: ∀(xs:List Int) (i:Nat),i<JI xs-> ∃x,xs[i]?=D x/\x≠165
 |[],_,h=>absurd h (by simp[JI])
 |x::r,i,h=>by
  unfold JI at h;split at h;·omega
  ·rename_i hx;cases i with
   |zero=>exact⟨x,rfl,hx⟩
   |succ j=>exact EJl r j U
theorem EJm: ∀(xs:List Int),JI xs<xs.length->xs[JI xs]?=D 165
 |[],h=>absurd h Ej
 |x::r,h=>by
  unfold JI at h⊢;split at h;·rename_i hx;subst hx;rfl
  ·rw[if_neg Ad];exact EJm r Ov
theorem EkW(s c:Int)(w:M)(h1:0<=s/\s<=65535)(h2:0<=c/\c<=255): Eg EZ 77 #[.int .u16 s,E Ix c] w fun e w'=>e=Ei (.int .u16 (jG s c))/\w=w':=by
 obtain⟨r,hr⟩:=Eo (jG s c);rw[<-hr];obtain⟨z0,hz0⟩: ∃z0,z0=Ir .xor .u16 s (c*256):=⟨_,O⟩;have Z0:Ed (Ir .xor .i64 s (c*256)=z0):=J (by rw[hz0];exact EJk _ _ h1.1 h1.2 U U);have ZB:Ed (0<=z0/\z0<=65535):=J (by rw[hz0];exact Vn _ _ _);replace hr:=J (show r=dX 8 z0 by rw[hr,hz0];rfl);clear hz0;go_enter Tryz.func77,Tryz.ntmps77;go_wp2_with fail;go_loop [5,6] (fun x y=> ∃i:Nat,i<=8/\y=E I i/\x=E I (dX i z0)) (fun _ y=>8-(In y).toNat);case atStart=>exact⟨0,U,O,congrArg _ Z0.out⟩
 case round=>
  obtain⟨i,hi,rfl,rfl⟩:=hrel;obtain⟨hz1,hz2⟩:=EkV i z0 ZB.out;have HZ:Ed (dX (i+1) z0=if 65536<=dX i z0*2 then Ir .xor .i64 (dX i z0*2-65536) 4129 else dX i z0*2):=J<|EkT _ hz1 hz2;by_cases hlt:i<8
  ·have t1:decide ((i:Int)<8)=EJ:=IJ U;generalize dX i z0=z at*;by_cases hb:65536<=z*2;·have t2:decide (65536<=z*2)=EJ:=IJ hb;go_wp2_with fail;exact⟨⟨i+1,U,Ej,by rw[HZ.out,if_pos hb]⟩,Jb⟩
   ·have t2:decide (65536<=z*2)=EI:=IZ hb;go_wp2_with fail;exact⟨⟨i+1,U,Ej,by rw[HZ.out,if_neg hb]⟩,Jb⟩
  ·have t1:decide ((i:Int)<8)=EI:=IZ U;obtain rfl:i=8:=U;rw[<-hr.out] at hz1 hz2⊢;clear HZ;exact Enu
theorem EkY(a:Option Ep)(xs:List Int)(n c:Nat)(w:M)(hn:xs.length=n)(hr:Row w a xs)(hm:n<=1000000): Eg EZ 58 #[G a n c] w fun e w'=>e=Ei (.int .u16 (Ug xs))/\w=w':=by
 obtain⟨hr,hb⟩:=hr;have HR:=J hr;have HB:=J hb;have HN:=J hn;clear hr hb hn;obtain⟨r,hr⟩:=Eo (Ug xs);rw[<-hr];replace hr:=J hr;go_enter Tryz.func58,Tryz.ntmps58;go_wp2_with fail;go_loop [3,4] (fun x y=> ∃i:Nat,i<=n/\y=E I i/\x= .int .u16 (Ug (xs.take i))) (fun _ y=>n-(In y).toNat);case atStart=>exact⟨0,U,O,O⟩
 case round=>
  obtain⟨i,hi,rfl,rfl⟩:=hrel;by_cases hlt:i<n
  ·have t1:decide ((i:Int)<(n:Int))=EJ:=IJ U;rcases HR.out with e|⟨b,off,rfl,hc⟩;·have:=HN.out;rw[e] at this;simp at this;omega
   ·have hil:i<xs.length:=kV;have hc:=hc i hil;have hx:=HB.out xs[i] (gh _);have HS:Ed (Ug (xs.take (i+1))=jG (Ug (xs.take i)) xs[i]):=J Vr;have hin:=CY (xs.take i);generalize Ug (xs.take i)=z at*;go_wp2_with fail;refine(EkW z xs[i] _ hin hx).mono ?_;exact EqI
  ·exact Erw
theorem Pn(cd:Int)(w:M): Eg EZ 57 #[E I cd] w fun e w'=>e=Ei (Ea #[E I 3,E I 1,E I cd,G Z 0 0])/\El w w':=by go_enter Tryz.func57,Tryz.ntmps57;go_wp2_with fail;refine ET (v:=Ea #[E I 3,E I 1,E I cd,G Z 0 0]) (by simp[UA,Tryz.results57,go_sem]) O ?_;exact Epq
theorem EJn(A:Option Ep)(c:Nat)(w:M): Eg EZ 38 #[G A 0 c] w fun e w'=>(∃Y3,e=Ei Y3/\fE w' w.heap.size ZI Y3)/\El w w':=by have K0:=J<|H.new w #[E I 0,E I 0,E I 0,G Z 0 0] 101;have HB1:=J<|Er w (Eb #[E I 0,E I 0,E I 0,G Z 0 0] 101);go_enter Tryz.func38,Tryz.ntmps38;obtain⟨tv,E2⟩:=Eo (#[E I 0,E I 0,E I 0,G Z 0 0]:Array Y);have TS:Ed (tv.size=4):=J XG;have TO:Ed (tv.all (·.oneCell')=EJ):=J X1;have BS:Ed (Tryz.prog.built 101 []=D tv):=J mn;replace E2:=J E2;go_wp2_with (first|((with_reducible refine Io 9 ?_);refine I4 rfl 101 _ rfl tv BS.out ?_)|((with_reducible refine I3 101 ?_);(with_reducible refine OQ (g:=w.heap.size) (cs:=tv) I2 ?_ ?_ K0 ?_ ?_ ?_ ?_);(·exact Eh rfl);(·exact⟨rfl,rfl,rfl⟩);(·rfl);(·exact TS.out);(·exact TO.out)));exact EnY
theorem Ek0(b off:Nat)(a:Int)(r:List Int)(n c:Nat)(w:M)(h5:a≠165)(hn:(a::r).length=n)(hr:Row w (D ⟨b,off,Z⟩) (a::r))(hm:n<=1000000): Eg EZ 38 #[G (D ⟨b,off,Z⟩) n c] w fun e w'=>(∃Y3,e=Ei Y3/\fE w' w.heap.size (nx (a::r)) Y3)/\El w w':=by
 rw[dh,if_pos h5];have h1:1<=n:=by rw[<-hn];simp
 have t0:((n:Int)==0)=EI:=I8;have q5:(a !=165)=EJ:=uf;have K0:=J<|H.new w #[E I 0,E I 0,E I 0,G Z 0 0] 101;have HB1:=J<|Er w (Eb #[E I 0,E I 0,E I 0,G Z 0 0] 101);have HR:=J<|It hr HB1.out;have c0:(w.alloc (Eb #[E I 0,E I 0,E I 0,G Z 0 0] 101)).cell? ⟨b,off,Z⟩=D (E Ix a):=Zi HR.out 0 rfl;have HLE:=J (show JI (a::r)<=n by rw[<-hn];exact uO _);have tV:=J<|EJl (a::r);have HEQ:=J<|EJm (a::r);have HN:=J hn;generalize a::r=xs at*;clear hn hr;generalize hz:JI xs=z at*;clear hz;go_enter Tryz.func38,Tryz.ntmps38;go_wp2_with fail;generalize (w.alloc (Eb #[E I 0,E I 0,E I 0,G Z 0 0] 101))=w1 at*;clear c0;go_loop [3] (fun x=> ∃i:Nat,i<=z/\x=E I i) (fun x=>z-(In x).toNat);case atStart=>exact⟨0,U,O⟩
 case round=>
  obtain⟨i,hi,rfl⟩:=hrel;have hle:=HLE.out;by_cases hlt:i<z
  ·obtain⟨x,hx,hne⟩:=tV.out i hlt;have cx:=Zi HR.out i hx;have t1:decide ((i:Int)<(n:Int))=EJ:=IJ U;have q6:(x !=165)=EJ:=by simp[hne]
   clear hx hne;go_wp2_with fail;exact⟨⟨i+1,U,Ej⟩,Jb⟩
  ·obtain rfl:i=z:=U;by_cases hin:i<n;·have cx:=Zi HR.out i (HEQ.out Bu);have t1:decide ((i:Int)<(n:Int))=EJ:=IJ U;obtain⟨tv,E2⟩:=Eo (#[E I 1,E I (i:Int),E I 0,G Z 0 0]:Array Y);have TS:Ed (tv.size=4):=J XG;have TO:Ed (tv.all (·.oneCell')=EJ):=J X1;have BS:Ed (Tryz.prog.built 101 [(0,E I 1),(1,E I (i:Int))]=D tv):=J mn;replace E2:=J E2;go_wp2_with (first|((with_reducible refine Io 28 ?_);refine I4 rfl 101 _ rfl tv BS.out ?_)|((with_reducible refine I3 101 ?_);(with_reducible refine OQ (g:=w.heap.size) (cs:=tv) I2 ?_ ?_ K0 ?_ ?_ ?_ ?_);(·exact Eh rfl);(·exact⟨rfl,rfl,rfl⟩);(·rfl);(·exact TS.out);(·exact TO.out)));refine ET (Jd I2 O _ _ w.heap.size tv O (K0.out.setRow tv) TS.out) O ?_;rw[E2.out];exact⟨⟨_,O,dj _ _ (dg i) O⟩,EY HB1.out (E3 _) _⟩
   ·have t1:decide ((i:Int)<(n:Int))=EI:=IZ U;obtain⟨tv,E2⟩:=Eo (#[E I 1,E I (i:Int),E I 0,G Z 0 0]:Array Y);have TS:Ed (tv.size=4):=J XG;have TO:Ed (tv.all (·.oneCell')=EJ):=J X1;have BS:Ed (Tryz.prog.built 101 [(0,E I 1),(1,E I (i:Int))]=D tv):=J mn;replace E2:=J E2;go_wp2_with (first|((with_reducible refine Io 28 ?_);refine I4 rfl 101 _ rfl tv BS.out ?_)|((with_reducible refine I3 101 ?_);(with_reducible refine OQ (g:=w.heap.size) (cs:=tv) I2 ?_ ?_ K0 ?_ ?_ ?_ ?_);(·exact Eh rfl);(·exact⟨rfl,rfl,rfl⟩);(·rfl);(·exact TS.out);(·exact TO.out)));refine ET (Jd I2 O _ _ w.heap.size tv O (K0.out.setRow tv) TS.out) O ?_;rw[E2.out];exact⟨⟨_,O,dj _ _ (dg i) O⟩,EY HB1.out (E3 _) _⟩
theorem Ek3(b off:Nat)(n c:Nat)(w:M)(hn:([165]).length=n)(hr:Row w (D ⟨b,off,Z⟩) ([165]))(hc:n<=c)(hm:c<=9223372036854775807)(hs:n<=1000000): Eg EZ 38 #[G (D ⟨b,off,Z⟩) n c] w fun e w'=>(∃Y3,e=Ei Y3/\fE w' w.heap.size (ZI) Y3)/\El w w':=by have K0:=J<|H.new w #[E I 0,E I 0,E I 0,G Z 0 0] 101;have HB1:=J<|Er w (Eb #[E I 0,E I 0,E I 0,G Z 0 0] 101);have HR:=J<|It hr HB1.out;obtain rfl:n=1:=hn.symm;clear hr hn;have c0:(w.alloc (Eb #[E I 0,E I 0,E I 0,G Z 0 0] 101)).cell? ⟨b,off,Z⟩=D (E Ix 165):=Zi HR.out 0 rfl;go_enter Tryz.func38,Tryz.ntmps38;obtain⟨tv,E2⟩:=Eo (#[E I 0,E I 0,E I 0,G Z 0 0]:Array Y);have TS:Ed (tv.size=4):=J XG;have TO:Ed (tv.all (·.oneCell')=EJ):=J X1;have BS:Ed (Tryz.prog.built 101 []=D tv):=J mn;replace E2:=J E2;go_wp2_with (first|((with_reducible refine Io 32 ?_);refine I4 rfl 101 _ rfl tv BS.out ?_)|((with_reducible refine I3 101 ?_);(with_reducible refine OQ (g:=w.heap.size) (cs:=tv) I2 ?_ ?_ K0 ?_ ?_ ?_ ?_);(·exact Eh rfl);(·exact⟨rfl,rfl,rfl⟩);(·rfl);(·exact TS.out);(·exact TO.out)));exact EnY
theorem Ek4(b off:Nat)(v:Int)(r:List Int)(n c:Nat)(w:M)(h:v≠1)(hn:(165::v::r).length=n)(hr:Row w (D ⟨b,off,Z⟩) (165::v::r))(hc:n<=c)(hm:c<=9223372036854775807)(hs:n<=1000000): Eg EZ 38 #[G (D ⟨b,off,Z⟩) n c] w fun e w'=>(∃Y3,e=Ei Y3/\fE w' w.heap.size (bQ 10) Y3)/\El w w':=by
 have K0:=J<|H.new w #[E I 0,E I 0,E I 0,G Z 0 0] 101;have HB1:=J<|Er w (Eb #[E I 0,E I 0,E I 0,G Z 0 0] 101);have HR:=J<|It hr HB1.out;have q1:(v !=1)=EJ:=xc;have h2:2<=n:=by rw[<-hn];simp
 have t0:((n:Int)==0)=EI:=I8;have t1:((n:Int)==1)=EI:=I8;clear hr hn;have c0:(w.alloc (Eb #[E I 0,E I 0,E I 0,G Z 0 0] 101)).cell? ⟨b,off,Z⟩=D (E Ix 165):=Zi HR.out 0 rfl;have c1:(w.alloc (Eb #[E I 0,E I 0,E I 0,G Z 0 0] 101)).cell? ⟨b,off+1,Z⟩=D (E Ix v):=Zi HR.out 1 rfl;go_enter Tryz.func38,Tryz.ntmps38;go_wp2_with fail;refine(Pn 10 _).mono ?_;rintro e w2 ⟨rfl,b2⟩;replace K0:=EH K0 b2;replace HB1:=EV HB1 b2;obtain⟨tv,E2⟩:=Eo (#[E I 3,E I 1,E I 10,G Z 0 0]:Array Y);have TS:Ed (tv.size=4):=J XG;have TO:Ed (tv.all (·.oneCell')=EJ):=J X1;rw[<-E2];replace E2:=J E2;go_wp2_with ((with_reducible refine I3 101 ?_);(with_reducible refine OQ (g:=w.heap.size) (cs:=tv) I2 ?_ ?_ K0 ?_ ?_ ?_ ?_);(·exact Eh O);(·exact⟨O,O,O⟩);(·rfl);(·exact TS.out);(·exact TO.out));refine ET (Jd I2 O _ _ w.heap.size tv O (K0.out.setRow tv) TS.out) O ?_;rw[E2.out];exact⟨⟨_,O,dj _ _ (bQ 10) O⟩,EY HB1.out (E3 _) _⟩
theorem Ek5(b off:Nat)(n c:Nat)(w:M)(hn:([165,1]).length=n)(hr:Row w (D ⟨b,off,Z⟩) ([165,1]))(hc:n<=c)(hm:c<=9223372036854775807)(hs:n<=1000000): Eg EZ 38 #[G (D ⟨b,off,Z⟩) n c] w fun e w'=>(∃Y3,e=Ei Y3/\fE w' w.heap.size (ZI) Y3)/\El w w':=by have K0:=J<|H.new w #[E I 0,E I 0,E I 0,G Z 0 0] 101;have HB1:=J<|Er w (Eb #[E I 0,E I 0,E I 0,G Z 0 0] 101);have HR:=J<|It hr HB1.out;obtain rfl:n=2:=hn.symm;clear hr hn;have c0:(w.alloc (Eb #[E I 0,E I 0,E I 0,G Z 0 0] 101)).cell? ⟨b,off,Z⟩=D (E Ix 165):=Zi HR.out 0 rfl;have c1:(w.alloc (Eb #[E I 0,E I 0,E I 0,G Z 0 0] 101)).cell? ⟨b,off+1,Z⟩=D (E Ix 1):=Zi HR.out 1 rfl;go_enter Tryz.func38,Tryz.ntmps38;obtain⟨tv,E2⟩:=Eo (#[E I 0,E I 0,E I 0,G Z 0 0]:Array Y);have TS:Ed (tv.size=4):=J XG;have TO:Ed (tv.all (·.oneCell')=EJ):=J X1;have BS:Ed (Tryz.prog.built 101 []=D tv):=J mn;replace E2:=J E2;go_wp2_with (first|((with_reducible refine Io 41 ?_);refine I4 rfl 101 _ rfl tv BS.out ?_)|((with_reducible refine I3 101 ?_);(with_reducible refine OQ (g:=w.heap.size) (cs:=tv) I2 ?_ ?_ K0 ?_ ?_ ?_ ?_);(·exact Eh rfl);(·exact⟨rfl,rfl,rfl⟩);(·rfl);(·exact TS.out);(·exact TO.out)));exact EnY
theorem Ek6(b off:Nat)(k:Nat)(r:List Int)(n c:Nat)(w:M)(hn:(165::1::(k:Int)::r).length=n)(hr:Row w (D ⟨b,off,Z⟩) (165::1::(k:Int)::r))(hc:n<=c)(hm:c<=9223372036854775807)(hs:n<=1000000): Eg EZ 38 #[G (D ⟨b,off,Z⟩) n c] w fun e w'=>(∃Y3,e=Ei Y3/\fE w' w.heap.size (Z6 1 k r) Y3)/\El w w':=by
 have K0:=J<|H.new w #[E I 0,E I 0,E I 0,G Z 0 0] 101;have HB1:=J<|Er w (Eb #[E I 0,E I 0,E I 0,G Z 0 0] 101);have HR:=J<|It hr HB1.out;have hk:k<=255:=by have:=hr.2 k Ej;omega
 have hl:r.length+3=n:=AZ;have t0:((n:Int)==0)=EI:=I8;have t1:((n:Int)==1)=EI:=I8;have t9:((n:Int)==2)=EI:=I8;have i1:1<n:=U;have i2:2<n:=U;have HN:=J hl;clear hr hn;have c0:(w.alloc (Eb #[E I 0,E I 0,E I 0,G Z 0 0] 101)).cell? ⟨b,off,Z⟩=D (E Ix 165):=Zi HR.out 0 rfl;have c1:(w.alloc (Eb #[E I 0,E I 0,E I 0,G Z 0 0] 101)).cell? ⟨b,off+1,Z⟩=D (E Ix 1):=Zi HR.out 1 rfl;have c2:(w.alloc (Eb #[E I 0,E I 0,E I 0,G Z 0 0] 101)).cell? ⟨b,off+2,Z⟩=D (E Ix (k:Int)):=Zi HR.out 2 rfl;unfold Z6;by_cases h32:(32:Int)<k;·rw[if_pos h32];have t2:decide ((32:Int)<(k:Int))=EJ:=IJ h32;clear hl;go_enter Tryz.func38,Tryz.ntmps38;go_wp2_with fail;refine(Pn 11 _).mono ?_;rintro e w2 ⟨rfl,b2⟩;replace K0:=EH K0 b2;replace HB1:=EV HB1 b2;obtain⟨tv,E2⟩:=Eo (#[E I 3,E I 1,E I 11,G Z 0 0]:Array Y);have TS:Ed (tv.size=4):=J XG;have TO:Ed (tv.all (·.oneCell')=EJ):=J X1;rw[<-E2];replace E2:=J E2;go_wp2_with ((with_reducible refine I3 101 ?_);(with_reducible refine OQ (g:=w.heap.size) (cs:=tv) I2 ?_ ?_ K0 ?_ ?_ ?_ ?_);(·exact Eh O);(·exact⟨O,O,O⟩);(·rfl);(·exact TS.out);(·exact TO.out));exact EpI
 rw[if_neg h32];have t2:decide ((32:Int)<(k:Int))=EI:=IZ h32;by_cases hw:(r.length:Int)<(k:Int)+2;·rw[if_pos hw];have t3:decide ((n:Int)<(k:Int)+5)=EJ:=IJ U;clear hl;go_enter Tryz.func38,Tryz.ntmps38;obtain⟨tv,E2⟩:=Eo (#[E I 0,E I 0,E I 0,G Z 0 0]:Array Y);have TS:Ed (tv.size=4):=J XG;have TO:Ed (tv.all (·.oneCell')=EJ):=J X1;have BS:Ed (Tryz.prog.built 101 []=D tv):=J mn;replace E2:=J E2;go_wp2_with (first|((with_reducible refine Io 54 ?_);refine I4 rfl 101 _ rfl tv BS.out ?_)|((with_reducible refine I3 101 ?_);(with_reducible refine OQ (g:=w.heap.size) (cs:=tv) I2 ?_ ?_ K0 ?_ ?_ ?_ ?_);(·exact Eh rfl);(·exact⟨rfl,rfl,rfl⟩);(·rfl);(·exact TS.out);(·exact TO.out)));exact EnY
 rw[if_neg hw];have t3:decide ((n:Int)<(k:Int)+5)=EI:=IZ U;obtain⟨f,hf⟩: ∃f,f=if Ug (1::(k:Int)::r.take (k:Int).toNat)≠256*r.getD (k:Int).toNat 0+r.getD ((k:Int).toNat+1) 0 then bQ 12 else j7 (r.take (k:Int).toNat):=⟨_,O⟩
 rw[<-hf];rw[kn] at hf;obtain⟨x,hx⟩: ∃x,r[k]?=D x:=⟨r[k]' U,JV _⟩;obtain⟨z,hz⟩: ∃z,r[k+1]?=D z:=⟨r[k+1]' U,JV _⟩;rw[OE,OE,hx,hz] at hf;simp only[Option.getD_some] at hf;have xb:0<=x/\x<=255:=HR.out.2 x (XU _ (XU _ (XU _ (aD hx))));have zb:0<=z/\z<=255:=HR.out.2 z (XU _ (XU _ (XU _ (aD hz))));have RC:Ed (Row (w.alloc (Eb #[E I 0,E I 0,E I 0,G Z 0 0] 101)) (D ⟨b,off+1,Z⟩) (1::(k:Int)::r.take k)):=J EEN;have LC:Ed ((1::(k:Int)::r.take k).length=k+2):=J I8;have tV:Ed ((r.take k).length=k):=J mR;obtain⟨cr,hcr⟩:=Eo (Ug (1::(k:Int)::r.take k));have hcb:=CY (1::(k:Int)::r.take k);have CS:Ed (∀(W:M) (cc:Nat),Row W (D ⟨b,off+1,Z⟩) (1::(k:Int)::r.take k)->Eg EZ 58 #[G (D ⟨b,off+1,Z⟩) (k+2) cc] W fun e w'=>e=Ei (.int .u16 cr)/\W=w'):=J (fun W cc hr=>by rw[hcr];exact EkY _ _ _ _ _ LC.out hr U);rw[<-hcr] at hf hcb;have HF:=J hf;have yx: ∀y:Ext (w.alloc (Eb #[E I 0,E I 0,E I 0,G Z 0 0] 101)),(EC (w.alloc (Eb #[E I 0,E I 0,E I 0,G Z 0 0] 101)) y).cell? ⟨b,off+(k+3),Z⟩=D (E Ix x):=fun y=>Zi (It HR.out (EQ y)) (k+3) hx;have yz: ∀y:Ext (w.alloc (Eb #[E I 0,E I 0,E I 0,G Z 0 0] 101)),(EC (w.alloc (Eb #[E I 0,E I 0,E I 0,G Z 0 0] 101)) y).cell? ⟨b,off+(k+4),Z⟩=D (E Ix z):=fun y=>Zi (It HR.out (EQ y)) (k+4) hz;have i3:k+3<n:=U;have i4:k+4<n:=U;have i5:k+3<=c:=U;clear hf hx hz hl hcr;go_enter Tryz.func38,Tryz.ntmps38;go_wp2_with fail;refine(CS.out _ _ RC.out).mono ?_;rintro e w2 ⟨rfl,rfl⟩;generalize (w.alloc (Eb #[E I 0,E I 0,E I 0,G Z 0 0] 101))=w1 at*;clear CS RC LC c0 c1 c2;go_wp2_with fail;refine ZQ Ef Ef ?_;repeat (go_big_quiet_step (fail))
 refine I5 ?_;intro _ hw';obtain⟨y9,rfl⟩:=hw';have En:=EQ y9;replace K0:=EH K0 En;replace HB1:=EV HB1 En;replace HR:=J<|It HR.out En;have HQ:(cr !=256*x+z)=decide (cr≠256*x+z):=by by_cases h:cr=256*x+z<;>simp[h]
 clear En yx yz;generalize EC w1 y9=w2 at*;clear y9 w1;by_cases hq:cr=256*x+z
 ·have tq:(cr !=256*x+z)=EI:=by rw[hq];simp
  have hf:f=j7 (r.take k):=by rw[HF.out,if_neg (by simp[hq])]
  clear HF;subst hf;have RD:Ed (Row w2 (D ⟨b,off+3,Z⟩) (r.take k)):=J EEQ;have O1:=J<|NI w2 w.heap.size HB1.out.size;have b3:=J<|Er w2 (Eb #[] 5);obtain⟨A7,c7,w7,hrun,hown,hbel,hap⟩:=sx (w2.alloc (Eb #[] 5)) w.heap.size (D ⟨w2.heap.size,0,Z⟩) 0 [] O1.out (D ⟨b,off+3,Z⟩) (c-3) (r.take k) (It RD.out b3.out) I8 (Ew HB1.out.size b3.out.size) 23;rw[jP,Ox,tV.out] at hrun;rw[ZZ] at hown;have OW:=J hown;have K7:=J<|show H w7 w.heap.size #[E I 0,E I 0,E I 0,G Z 0 0] 101 from(hap _ (gX K0.out.lt b3.out.size) (fun q h=>by cases h;exact Nat.ne_of_gt K0.out.lt)).1.trans (K0.out.B b3.out);have qJ:=J<|(bt HB1.out b3.out).trans hbel;clear hown hbel hap O1 b3 K0;go_wp2_with ((with_reducible refine Io 85 ?_);(refine Jo (Eh O) (Ol O O O hrun) ?_);refine Ex.mk ?_);apply Es;clear hrun;rw[show((k:Int)+5)=((k+5:Nat):Int) from U];obtain⟨tv,E2⟩:=Eo (#[E I 2,E I ((k+5:Nat):Int),E I 0,G A7 k c7]:Array Y);have TS:Ed (tv.size=4):=J XG;have TO:Ed (tv.all (·.oneCell')=EJ):=J X1;have BS:Ed (Tryz.prog.built 101 [(0,E I 2),(1,E I ((k+5:Nat):Int)),(3,G A7 k c7)]=D tv):=J mn;replace E2:=J E2;go_wp2_with (first|((with_reducible refine Io 86 ?_);refine I4 rfl 101 _ rfl tv BS.out ?_)|((with_reducible refine I3 101 ?_);(with_reducible refine OQ (g:=w.heap.size) (cs:=tv) I2 ?_ ?_ K7 ?_ ?_ ?_ ?_);(·exact Eh rfl);(·exact⟨rfl,rfl,rfl⟩);(·rfl);(·exact TS.out);(·exact TO.out)));refine ET (Jd I2 O _ _ w.heap.size tv O (K7.out.setRow tv) TS.out) O ?_;rw[E2.out];exact⟨⟨_,O,⟨A7,c7,by simp only[j7,tV.out],Zh OW.out K7.out _⟩⟩,EY qJ.out (E3 _) _⟩
 ·have tq:(cr !=256*x+z)=EJ:=kH;have hf:f=bQ 12:=by rw[HF.out,if_pos kH]
  clear HF;subst hf;clear HQ hq i3 i4 i5 i2;go_wp2_with fail;refine(Pn 12 _).mono ?_;rintro e w2 ⟨rfl,b2⟩;replace K0:=EH K0 b2;replace HB1:=EV HB1 b2;obtain⟨tv,E2⟩:=Eo (#[E I 3,E I 1,E I 12,G Z 0 0]:Array Y);have TS:Ed (tv.size=4):=J XG;have TO:Ed (tv.all (·.oneCell')=EJ):=J X1;rw[<-E2];replace E2:=J E2;go_wp2_with ((with_reducible refine I3 101 ?_);(with_reducible refine OQ (g:=w.heap.size) (cs:=tv) I2 ?_ ?_ K0 ?_ ?_ ?_ ?_);(·exact Eh O);(·exact⟨O,O,O⟩);(·rfl);(·exact TS.out);(·exact TO.out));exact EpE
def mG(f:bP)(A:Option Ep)(c:Nat):Array Y:= #[E I f.kd,E I f.sz,E I f.cd,G A f.b.length c]
theorem GZ(A:Option Ep)(xs:List Int)(n c:Nat)(w:M)(hn:xs.length=n)(hr:Row w A xs)(hc:n<=c)(hm:c<=9223372036854775807)(hs:n<=1000000): Eg EZ 38 #[G A n c] w fun e w'=>(∃A' c',e=Ei (Ea (mG (nx xs) A' c'))/\Own w' w.heap.size A' c' (nx xs).b)/\El w w':=by
 suffices h:Eg EZ 38 #[G A n c] w fun e w'=>(∃Y3,e=Ei Y3/\fE w' w.heap.size (nx xs) Y3)/\El w w' by refine h.mono ?_;rintro e w' ⟨⟨Y3,rfl,A',c',rfl,ow⟩,b⟩;exact⟨⟨A',c',O,ow⟩,b⟩
 rcases hr.1 with h|⟨b,off,h,-⟩;·subst h;obtain rfl:n=0:=hn.symm;exact EJn A c w
 ·subst h;match xs,hn,hr with
  |[],hn,_=> obtain rfl:n=0:=hn.symm;exact EJn _ c w
  |a::r,hn,hr=>
   by_cases h5:a=165
   ·subst h5;rw[dh,if_neg EU];match r,hn,hr with
    |[],hn,hr=>exact Ek3 b off n c w hn hr hc hm hs
    |v::r2,hn,hr=>
     by_cases h1:v=1
     ·subst h1;rw[j9,if_neg EU];match r2,hn,hr with
      |[],hn,hr=>exact Ek5 b off n c w hn hr hc hm hs
      |k::r3,hn,hr=> have hk:=hr.2 k Ej;obtain⟨K,rfl⟩: ∃K:Nat,k=K:=⟨k.toNat,U⟩;exact Ek6 b off K r3 n c w hn hr hc hm hs
     ·rw[j9,if_pos h1];exact Ek4 b off v r2 n c w h1 hn hr hc hm hs
   ·exact Ek0 b off a r n c w h5 hn hr hs
def Ek7(xs:List Int)(w:M)(e:Ud)(w':M):Prop:= ∃(its:List (Int×List Int)) (r:List Int) (v:Y) (vals:List Y),e=Ei (Eu #[v,E I r.length])/\JR xs its r/\w'.ownsRow w.heap.size 74 2 v its.length vals/\Ou w' w.heap.size its vals/\El w w'
theorem rowAt{b:Nat}(hr:Row w (D ⟨b,off,Z⟩) xs)(hn:xs.length=n)(hb:El w W)(o:Nat)(ho:k<n->o=off+k):Row W (D ⟨b,o,Z⟩) (xs.drop k):=by
 by_cases hkn:k<n;·rw[ho hkn];exact lf (It hr hb) k
 ·rw[pT U];exact mQ _ _
theorem EJo(A:Option Ep)(xs:List Int)(n c:Nat)(w:M)(hn:xs.length=n)(hr:Row w A xs)(hc:n<=c)(hm:c<=9223372036854775807)(hs:n<=1000000): Eg EZ 19 #[G A n c] w (Ek7 xs w):=by
 have HR:=J hr;have HN:=J hn;have II:=J EES;have ma:Ed (Og xs):=J hr.2;have u:=J<|Er w (Eb #[] 74);have OI:Ed ((w.alloc (Eb #[] 74)).ownsRow w.heap.size 74 2 (G (D ⟨w.heap.size,0,Z⟩) 0 0) 0 []):=J<|nm (base:=w.heap.size) (size:=2) (e:=74) w #[] 0 (E3 _) J8 O;clear hr hn;go_enter Tryz.func19,Tryz.ntmps19;go_wp2_with fail;generalize w.alloc (Eb #[] 74)=w0 at*;refine(GZ A xs n c _ HN.out (It HR.out u.out) hc hm hs).mono ?_;rintro e w1 ⟨⟨A9,c9,rfl,ow⟩,b2⟩;have OW:=J<|X8 ow (show w.heap.size<=w0.heap.size from u.out.size);replace OI:=J<|EG OI.out fun _ _ h=>H.B h b2;replace u:=EV u b2;clear ow b2;obtain⟨tv,E2⟩:=Eo (mG (nx xs) A9 c9);rw[<-E2];have TS:Ed (tv.size=4):=J XG;have TO:Ed (tv.all (·.oneCell')=EJ):=J (by rw[E2];simp[mG,Oc]);replace E2:=J E2;have K0:=J<|H.new w1 #[E I 0,E I 0,E I 0,G Z 0 0] 101;have b2:=Er w1 (Eb #[E I 0,E I 0,E I 0,G Z 0 0] 101);go_wp2_with (first|((with_reducible show Ib _ _ _ (⟨_,.alloc 101,_,_,_,Z⟩::_) _ _);(with_reducible refine ph EER ?_ ?_ ?_);(·exact Eh rfl);(·rfl))|((with_reducible refine I3 101 ?_);(with_reducible refine OQ (g:=w1.heap.size) (cs:=tv) I2 ?_ ?_ K0 ?_ ?_ ?_ ?_);(·exact Eh rfl);(·exact⟨rfl,rfl,rfl⟩);(·rfl);(·exact TS.out);(·exact TO.out);refine Ex.mk ?_));apply Es;have Ga:=J<|show w.heap.size<=w1.heap.size from u.out.size;obtain⟨gf,hgf⟩:=Eo w1.heap.size;rw[<-hgf] at K0 Ga⊢;generalize w1.alloc (Eb #[E I 0,E I 0,E I 0,G Z 0 0] 101)=UH at*;have KF:=J<|K0.out.setRow tv;have b3:=EY (g:=gf) b2 (OC hgf.symm) tv;generalize UH.setRow gf tv=wf at*;replace OI:=J<|EG OI.out fun _ _ h=>H.B h b3;replace OW:=J<|XM OW.out b3;replace u:=EV u b3;rw[E2.out] at KF;clear K0 b2 hgf b3 TO;go_wp2_with fail;go_loopw[4,5] (fun y x wr=> ∃(k i:Nat) (its:List (Int×List Int)) (A2:Option Ep) (c2:Nat) (vals:List Y) (A9:Option Ep) (c9:Nat),k<=n/\i<=k/\x=E I k/\y=G A2 i c2/\its.length=i/\At xs k its/\wr.ownsRow w.heap.size 74 2 (G A2 i c2) i vals/\Ou wr w.heap.size its vals/\Own wr w.heap.size A9 c9 (nx (xs.drop k)).b/\H wr gf (mG (nx (xs.drop k)) A9 c9) 101/\El w wr) (fun _ x _=>n-(In x).toNat);case atStart=>exact⟨0,0,[],_,_,[],A9,c9,U,U,O,O,O,At.zero _,OI.out,O,OW.out,KF.out,u.out⟩
 case round=>
  clear OI OW KF u TS E2;obtain⟨k,i,its,A2,c2,vals,A9,c9,hk,hik,rfl,rfl,nK,hat,oi,iv,ow,kf,bb⟩:=hrel;have OI:=J oi;have IV:=J iv;have OW:=J ow;have u:=J bb;have dI:=J nK;have HAT:=J hat;have KF:=J kf;have ug:=J<|EET (ma.out.dr k);have oC:Ed ((nx (xs.drop k)).kd≠0->1<=(nx (xs.drop k)).sz/\(nx (xs.drop k)).sz<=n-k):=J (fun h=>by have:=xN (ma.out.dr k) h;rw[il,HN.out] at this;exact this);have HST:=J<|fun h=>HAT.out.step h;have HIT:Ed ((nx (xs.drop k)).item=if(nx (xs.drop k)).kd=2 then [(0,(nx (xs.drop k)).b)] else if(nx (xs.drop k)).kd=3 then [((nx (xs.drop k)).cd,[])] else []):=J O;have HW:Ed ((nx (xs.drop k)).kd=0->JR (xs.drop k) [] (xs.drop k)):=J<|fun h=> .wait h;clear oi iv ow bb nK hat kf;generalize nx (xs.drop k)=f at*;obtain⟨kd,sz,cd,bd⟩:=f;simp only at ug oC HST HIT HW OW;have rp:wr.cell? ⟨gf,0,Z⟩=D (E I kd):=(H.cell KF.out 0).trans O;have mo:wr.cell? ⟨gf,1,Z⟩=D (E I sz):=(H.cell KF.out 1).trans O;have yi:wr.cell? ⟨gf,2,Z⟩=D (E I cd):=(H.cell KF.out 2).trans O;have yj:wr.cell? ⟨gf,3,Z⟩=D (G A9 bd.length c9):=(H.cell KF.out 3).trans O;have TS:Ed ((mG ⟨kd,sz,cd,bd⟩ A9 c9).size=4):=J O;by_cases h0:kd=0;·have HP:=J<|HAT.out _ _ (HW.out h0);have rq:Ed ((n:Int)-(k:Int)=((xs.drop k).length:Int)):=J (by rw[il,HN.out];omega);subst h0;go_wp2;go_ret2;refine⟨its,xs.drop k,_,vals,by rw[<-rq.out];rfl,?_,by rw[dI.out];exact OI.out,IV.out,u.out⟩;have:=HP.out;rwa [dy] at this
  ·have hsz:=oC.out h0
   obtain⟨b,off,rfl⟩: ∃b off,A=D ⟨b,off,Z⟩:=by
    rcases HR.out.1 with h|⟨b,off,h,-⟩;·have:=HN.out;rw[h] at this;simp at this;omega
    ·exact⟨b,off,h⟩
   have e0:(kd !=0)=EJ:=rX;replace HAT:=J<|HST.out h0;rw[HIT.out] at HAT;obtain⟨k2,hk2⟩:=Eo (k+sz);have hsum:(k:Int)+(sz:Int)=(k2:Int):=U;have nA:=J hk2.symm;have hb2:k2<=n:=U;have hb3:k<k2:=U;have HL2:Ed ((xs.drop k2).length=n-k2):=J (by rw[il,HN.out]);clear HST HW oC hk2 hsz;by_cases hck:k2=c;rotate_left;have EmV: ¬c=k2:=fun h=>hck h.symm;clear hck;rotate_left;subst hck
   all_goals
    by_cases h2:kd=2
    ·subst h2;simp only[if_pos] at HAT;go_wp2_with (with_reducible refine JE 21 ?_);apply Es;have KI:=J<|H.new wr #[E I 0,G A9 bd.length c9] 74;have b4:=J<|Er wr (Eb #[E I 0,G A9 bd.length c9] 74);replace u:=EV u b4.out;replace OI:=J<|EG OI.out fun _ _ h=>H.B h b4.out;replace IV:=J<|IV.out.keep fun _ _ h=>H.B h b4.out;replace OW:=J<|XM OW.out b4.out;replace KF:=EH KF b4.out;clear rp mo yi yj;clear b4;generalize wr.alloc (Eb #[E I 0,G A9 bd.length c9] 74)=aP at*;generalize wr.heap.size=gb at*;obtain⟨qA,qc,qw,O4,U0,Js,-,-⟩:=aw (P:=EZ) aP w.heap.size w.heap.size 70 70 74 II.out.choose _ 2 32 Tryz.underlying70 II.out.choose_spec.1 II.out.choose_spec.2.1 II.out.choose_spec.2.2.1 II.out.choose_spec.2.2.2 rfl A2 c2 i vals OI.out ⟨gb,0,Z⟩ 1 1 [E I 0,G A9 bd.length c9] O (fun j Y3 hu=>by rw[show(⟨gb,0,Z⟩:Ep).add j=⟨gb,j,Z⟩ from U3];rw[H.cell KI.out,J2];exact hu) bB (fun _=>U) J8 U u.out.size (E3 _);go_wp2_with ((with_reducible refine Io 21 ?_);(refine Jo (Eh O) (Ol O O O O4) ?_);refine Ex.mk ?_);apply Es;replace OI:=J U0;replace IV:=J<|yh (cd:=0) (b:=bd) (IV.out.keep fun _ _ h=>Uw Js h EU) (aj OW.out fun _ _ h=>Uw Js h EU);replace KF:=J<|Uw Js KF.out EU;replace u:=J<|u.out.trans (Js.2.1 u.out.size);clear U0 Js O4 KI;have rp:qw.cell? ⟨gf,0,Z⟩=D (E I 2):=(H.cell KF.out 0).trans O;have mo:qw.cell? ⟨gf,1,Z⟩=D (E I sz):=(H.cell KF.out 1).trans O;have zX:Ed (∀o:Nat,(k2<n->o=off+k2)->Row qw (D ⟨b,o,Z⟩) (xs.drop k2)):=J<|rowAt HR.out HN.out u.out;go_wp2_with fail;(with_reducible refine Calls.mono (GZ _ (xs.drop k2) _ _ _ ?hl ?hr ?h1 ?h2 ?h3) ?_);case hl=>first|exact HL2.out|(rw[HL2.out];omega)
     case hr=>exact zX.out _ (fun h=>U)
     case h1=>omega
     case h2=>omega
     case h3=>omega
     rintro e w2 ⟨⟨A8,c8,rfl,ow⟩,b2⟩;have jg:=J<|X8 ow (show w.heap.size<=qw.heap.size from u.out.size);replace OI:=J<|EG OI.out fun _ _ h=>H.B h b2;replace IV:=J<|IV.out.keep fun _ _ h=>H.B h b2;replace KF:=EH KF b2;replace u:=EV u b2;clear ow b2;obtain⟨Iy,ZM⟩:=Eo (mG (nx (xs.drop k2)) A8 c8);rw[<-ZM];have zZ:Ed (Iy.size=4):=J (by rw[ZM];rfl);have za:Ed (Iy.all (·.oneCell')=EJ):=J Po;replace ZM:=J ZM;go_wp2_with ((with_reducible refine I3 101 ?_);(with_reducible refine OQ (g:=gf) (cs:=Iy) I2 ?_ ?_ KF ?_ ?_ ?_ ?_);(·exact Eh O);(·exact⟨O,O,O⟩);(·exact TS.out);(·exact zZ.out);(·exact za.out);refine Ex.mk ?_);apply Es;replace jg:=J<|Zh jg.out KF.out Iy;replace OI:=J<|EG OI.out fun _ _ h=>(J9 Iy).Ek h (E6 h KF.out EU);replace IV:=J<|IV.out.keep fun _ _ h=>(J9 Iy).Ek h (E6 h KF.out EU);replace u:=J<|EY u.out Ga.out Iy;replace KF:=J<|KF.out.setRow Iy;rw[ZM.out] at KF;go_wp2_with fail;exact⟨⟨k2,i+1,its++[(0,bd)],_,_,_,A8,c8,U,U,O,O,by simp[dI.out],nA.out▸HAT.out,OI.out,IV.out,jg.out,Pp,u.out⟩,Jb⟩
    ·by_cases h3:kd=3
     ·subst h3;simp only[if_pos,if_neg (show¬((3:Int)=2) from EU)] at HAT;go_wp2_with (with_reducible refine JE 30 ?_);apply Es;have KI:=J<|H.new wr #[E I cd,G Z 0 0] 74;have b4:=J<|Er wr (Eb #[E I cd,G Z 0 0] 74);replace u:=EV u b4.out;replace OI:=J<|EG OI.out fun _ _ h=>H.B h b4.out;replace IV:=J<|IV.out.keep fun _ _ h=>H.B h b4.out;replace KF:=EH KF b4.out;clear rp mo yi yj;clear b4;generalize wr.alloc (Eb #[E I cd,G Z 0 0] 74)=aP at*;generalize wr.heap.size=gb at*;obtain⟨qA,qc,qw,O4,U0,Js,-,-⟩:=aw (P:=EZ) aP w.heap.size w.heap.size 70 70 74 II.out.choose _ 2 32 Tryz.underlying70 II.out.choose_spec.1 II.out.choose_spec.2.1 II.out.choose_spec.2.2.1 II.out.choose_spec.2.2.2 rfl A2 c2 i vals OI.out ⟨gb,0,Z⟩ 1 1 [E I cd,G Z 0 0] O (fun j Y3 hu=>by rw[show(⟨gb,0,Z⟩:Ep).add j=⟨gb,j,Z⟩ from U3];rw[H.cell KI.out,J2];exact hu) bB (fun _=>U) J8 U u.out.size (E3 _);go_wp2_with ((with_reducible refine Io 30 ?_);(refine Jo (Eh O) (Ol O O O O4) ?_);refine Ex.mk ?_);apply Es;replace OI:=J U0;replace IV:=J<|yh (cd:=cd) (b:=[]) (IV.out.keep fun _ _ h=>Uw Js h EU) (XL _ _);replace KF:=J<|Uw Js KF.out EU;replace u:=J<|u.out.trans (Js.2.1 u.out.size);clear U0 Js O4 KI;have rp:qw.cell? ⟨gf,0,Z⟩=D (E I 3):=(H.cell KF.out 0).trans O;have mo:qw.cell? ⟨gf,1,Z⟩=D (E I sz):=(H.cell KF.out 1).trans O;have zX:Ed (∀o:Nat,(k2<n->o=off+k2)->Row qw (D ⟨b,o,Z⟩) (xs.drop k2)):=J<|rowAt HR.out HN.out u.out;go_wp2_with fail;(with_reducible refine Calls.mono (GZ _ (xs.drop k2) _ _ _ ?hl ?hr ?h1 ?h2 ?h3) ?_);case hl=>first|exact HL2.out|(rw[HL2.out];omega)
      case hr=>exact zX.out _ (fun h=>U)
      case h1=>omega
      case h2=>omega
      case h3=>omega
      rintro e w2 ⟨⟨A8,c8,rfl,ow⟩,b2⟩;have jg:=J<|X8 ow (show w.heap.size<=qw.heap.size from u.out.size);replace OI:=J<|EG OI.out fun _ _ h=>H.B h b2;replace IV:=J<|IV.out.keep fun _ _ h=>H.B h b2;replace KF:=EH KF b2;replace u:=EV u b2;clear ow b2;obtain⟨Iy,ZM⟩:=Eo (mG (nx (xs.drop k2)) A8 c8);rw[<-ZM];have zZ:Ed (Iy.size=4):=J (by rw[ZM];rfl);have za:Ed (Iy.all (·.oneCell')=EJ):=J Po;replace ZM:=J ZM;go_wp2_with ((with_reducible refine I3 101 ?_);(with_reducible refine OQ (g:=gf) (cs:=Iy) I2 ?_ ?_ KF ?_ ?_ ?_ ?_);(·exact Eh O);(·exact⟨O,O,O⟩);(·exact TS.out);(·exact zZ.out);(·exact za.out);refine Ex.mk ?_);apply Es;replace jg:=J<|Zh jg.out KF.out Iy;replace OI:=J<|EG OI.out fun _ _ h=>(J9 Iy).Ek h (E6 h KF.out EU);replace IV:=J<|IV.out.keep fun _ _ h=>(J9 Iy).Ek h (E6 h KF.out EU);replace u:=J<|EY u.out Ga.out Iy;replace KF:=J<|KF.out.setRow Iy;rw[ZM.out] at KF;go_wp2_with fail;exact⟨⟨k2,i+1,its++[(cd,[])],_,_,_,A8,c8,U,U,O,O,by simp[dI.out],nA.out▸HAT.out,OI.out,IV.out,jg.out,Pp,u.out⟩,Jb⟩
     ·have e1:kd=1:=by have:=ug.out;omega
      subst e1;simp only[if_neg (show¬((1:Int)=2) from EU),if_neg (show¬((1:Int)=3) from EU),dy] at HAT;have zX:Ed (∀o:Nat,(k2<n->o=off+k2)->Row wr (D ⟨b,o,Z⟩) (xs.drop k2)):=J<|rowAt HR.out HN.out u.out;go_wp2_with fail;(with_reducible refine Calls.mono (GZ _ (xs.drop k2) _ _ _ ?hl ?hr ?h1 ?h2 ?h3) ?_);case hl=>first|exact HL2.out|(rw[HL2.out];omega)
      case hr=>exact zX.out _ (fun h=>U)
      case h1=>omega
      case h2=>omega
      case h3=>omega
      rintro e w2 ⟨⟨A8,c8,rfl,ow⟩,b2⟩;have jg:=J<|X8 ow (show w.heap.size<=wr.heap.size from u.out.size);replace OI:=J<|EG OI.out fun _ _ h=>H.B h b2;replace IV:=J<|IV.out.keep fun _ _ h=>H.B h b2;replace KF:=EH KF b2;replace u:=EV u b2;clear ow b2;obtain⟨Iy,ZM⟩:=Eo (mG (nx (xs.drop k2)) A8 c8);rw[<-ZM];have zZ:Ed (Iy.size=4):=J (by rw[ZM];rfl);have za:Ed (Iy.all (·.oneCell')=EJ):=J Po;replace ZM:=J ZM;go_wp2_with ((with_reducible refine I3 101 ?_);(with_reducible refine OQ (g:=gf) (cs:=Iy) I2 ?_ ?_ KF ?_ ?_ ?_ ?_);(·exact Eh O);(·exact⟨O,O,O⟩);(·exact TS.out);(·exact zZ.out);(·exact za.out);refine Ex.mk ?_);apply Es;replace jg:=J<|Zh jg.out KF.out Iy;replace OI:=J<|EG OI.out fun _ _ h=>(J9 Iy).Ek h (E6 h KF.out EU);replace IV:=J<|IV.out.keep fun _ _ h=>(J9 Iy).Ek h (E6 h KF.out EU);replace u:=J<|EY u.out Ga.out Iy;replace KF:=J<|KF.out.setRow Iy;rw[ZM.out] at KF;go_wp2_with fail;exact⟨⟨k2,i,its,_,_,_,A8,c8,U,U,O,O,by simp[dI.out],nA.out▸HAT.out,OI.out,IV.out,jg.out,Pp,u.out⟩,Jb⟩
def Gb(g:Nat->Y)(k:Nat):Prop:= ∀i,5<=i->i<=8-> ∀A n c,g i=G A n c-> ∀p,A=D p->p.block<k
theorem I7.Ek8{a:Oh}(h:I7 lo g a c rs W):Gb g W.heap.size:=fun i h1 h2 A n c e p hp=>by obtain⟨gk,n',cap,cur,ys,e1,-,-,-,-,-,-,hb,-⟩:=h.core.keys i h1 h2;rw[e1] at e;injection e with e2 e3 e4;rw[hp] at e2;injection e2 with e2;rw[<-e2];exact H.lt hb
theorem Ek9{b:Nat}{c:Nat}(h:Own W b A c xs){p:Ep}(hp:A=D p): ∃cur,H W p.block cur 5:=by
 subst hp;rcases h.1.2 with⟨hv,hn⟩|⟨g,cap',cur,hv,hg,hh,hl⟩;·simp at hv
 ·injection hv with h1 h2 h3;injection h1 with h1;subst h1;exact⟨cur,hh⟩
def oS(a:Oh)(A:Option Ep)(W:M):Prop:= ∀gs,gs=a.s1\/gs=a.s2\/gs=a.s3-> ∀Y4 n c,H W gs #[G Y4 n c] 122-> ∀p,A=D p->bj Y4 p.block
theorem I7.strOf{a:Oh}(h:I7 lo g a c rs W)(hg:gs=a.s1\/gs=a.s2\/gs=a.s3): ∃Y4 c xs,H W gs #[G Y4 xs.length c] 122/\Own W lo Y4 c xs:=by
 rcases hg with rfl|rfl|rfl;·obtain⟨A,c,k,o⟩:=h.st1;exact⟨_,_,_,k,o⟩
 ·obtain⟨A,c,k,o⟩:=h.st2;exact⟨_,_,_,k,o⟩
 ·obtain⟨A,c,k,o⟩:=h.mr;exact⟨_,_,_,k,o⟩
theorem Pq{c n' c':Nat}{B':Option Ep}(h:H W gs #[G Y4 n c] 122)(k:H W gs #[G B' n' c'] 122):Y4=B':=by have e:=(show D (Eb #[G Y4 n c] 122 (0,0))=D (Eb #[G B' n' c'] 122 (0,0)) from h.symm.trans k);simp at e;exact e.1
theorem oS.keep{a:Oh}(h:oS a A W)(Y8:I7 lo g a c rs W)(hk: ∀k cs,H W k cs 122->H W' k cs 122):oS a A W':=fun gs hg Y4 n c hb=>by obtain⟨B0,c0,x0,k0,-⟩:=Y8.strOf hg;have e:=Pq hb (hk _ _ k0);subst e;exact h gs hg _ _ _ k0
theorem oS.rT{a:Oh}(h:oS a A W)(Y8:I7 lo g a c rs W)(hA: ∀p,A=D p->p.block<W.heap.size)(m:Jw lo W.heap.size W W'):oS a A W':=fun gs hg Y4 n c hb p hp=>by obtain⟨B0,c0,x0,k0,-⟩:=Y8.strOf hg;obtain⟨B1,n1,c1,k1,f⟩:=m.strm gs B0 _ c0 (H.lt k0) k0;have e:=Pq hb k1;subst e;exact f p.block (hA p hp) (h gs hg _ _ _ k0 p hp)
def Grown(nk:Nat)(A:Option Ep)(W:M)(A1:Option Ep)(W':M):Prop:=Ij nk W W'/\ ∀k,k<W.heap.size->bj A k->W'.heap[k]?=W.heap[k]?/\bj A1 k
section
variable{nk b c cp:Nat}{A A1:Option Addr}{xs:List Int}{W W':World}
theorem Grown.Ek(h:Grown nk A W A1 W')(o:Own W b A cp xs){k:Nat}{cs:Array Y}{S:EB}(hS:S≠5)(hb:H W k cs S):H W' k cs S:=
 (h.2 k (H.lt hb) (fun p hp e=>by obtain⟨cur,hc⟩:=Ek9 o hp;rw[e] at hc;exact E6 hb hc hS O)).1.trans hb
theorem Grown.Ek_(h:Grown nk A W A1 W')(o:Own W b A cp xs){d:Nat}{Y4:Option Ep}{c:Nat}{ys:List Int}(hd: ∀p,A=D p->p.block<d)(k:Own W d Y4 c ys):Own W' d Y4 c ys:=
 sw k (fun q hq p hp e=>by have:=hd p hp;have:=(fk k q hq).1;omega) fun j hj ha=>(h.2 j hj ha).1
theorem Grown.ElE(h:Grown nk A W A1 W')(o:Own W nk A cp xs){d:Nat}{Y4:Option Ep}{c:Nat}{ys:List Int}(hd: ∀p,Y4=D p->p.block<nk)(k:Own W d Y4 c ys):Own W' d Y4 c ys:=
 sw k (fun q hq p hp e=>by have:=hd q hq;have:=(fk o p hp).1;omega) fun j hj ha=>(h.2 j hj ha).1
theorem I7.app{a:Oh}{c:Ey}(h:I7 lo g a c rs W)(o:Own W nk A cp xs)(hk:Gb g nk)(hr:oS a A W)(hl:lo<=nk)(hg:Grown nk A W A1 W'):I7 lo g a c rs W':=by
 have nb: ∀k cs S,S≠5->H W k cs S->H W' k cs S:=fun _ _ _ hS hb=>hg.Ek o hS hb;have hlo:Ij lo W W':=hg.1.mono hl;have str: ∀gs r,(gs=a.s1\/gs=a.s2\/gs=a.s3)->aV lo gs r W->aV lo gs r W':=fun gs r hs ⟨Y4,c,kb,ob⟩=>⟨Y4,c,nb _ _ _ EU kb,sw ob (fun q hq p hp=>(hr gs hs Y4 _ c kb p hp q hq).symm) fun j hj ha=>(hg.2 j hj ha).1⟩;obtain⟨d0,d1,d2,hd,k,r⟩:=h.core.Ek;obtain⟨v,came,k2,r2,r3⟩:=h.core.ZC
 refine⟨⟨h.core.lo2,h.core.XV,h.core.ok,h.core.lc,h.core.lq,h.core.lt,⟨d0,d1,d2,hd,nb _ _ _ EU k,r⟩,nb _ _ _ EU h.core.tab,⟨v,came,nb _ _ _ EU k2,r2,EG r3 fun _ _ hk=>nb _ _ _ EU hk⟩,fun i h1 h2=> ?_,fun i hi=> ?_,fun i hi=> ?_⟩,
  nb _ _ _ EU h.Ek,h.lm,h.l1,h.l2,h.l3,h.n12,h.n13,h.n23,str _ _ (.inl O) h.st1,str _ _ (.inr (.inl O)) h.st2,str _ _ (.inr (.inr O)) h.mr,h.oD⟩
 ·obtain⟨gk,n,cap,cur,ys,e1,e2,e3,e4,e5,e6,e7,hb,e8⟩:=h.core.keys i h1 h2;refine⟨gk,n,cap,cur,ys,e1,e2,e3,e4,e5,e6,e7,(hg.2 gk (H.lt hb) (fun p hp e=> ?_)).1.trans hb,e8⟩;have h3:=(fk o p hp).1;have h4:=hk i h1 h2 _ _ _ e1 _ O;simp at h4;omega
 ·rw[hlo.cell (p:=⟨0,i,Z⟩) (by have:=h.core.lo2;simp;omega)];exact h.core.roots i hi
 ·rw[hlo.cell (p:=⟨1,i,Z⟩) (by have:=h.core.lo2;simp;omega)];exact h.core.cmds i hi
end
theorem Ou.own{d:Nat}{W W':M}(h: ∀Y4 c ys,Own W d Y4 c ys->Own W' d Y4 c ys): ∀{its:List (Int×List Int)} {vs:List Y},Ou W d its vs->Ou W' d its vs
 |[],_,k=>k
 |_::_,_,⟨A,c,vs',e,k,t⟩=>⟨A,c,vs',e,h _ _ _ k,Ou.own h t⟩
theorem EJp{A1:Option Ep}{al:Array Y}{w1 W2:M}(hg:Grown nk A W A1 w1)(o:Own W nk A cp xs)(kb:H W ga al 69)(hb:Ij (w1.setCell ⟨ga,s,Z⟩ v).heap.size (w1.setCell ⟨ga,s,Z⟩ v) W2): (∀k cs S,S≠5->S≠69->H W k cs S->H W2 k cs S)/\(∀d Y4 c ys,((∀p,A=D p->p.block<d)\/(∀p,Y4=D p->p.block<nk))->Own W d Y4 c ys->Own W2 d Y4 c ys)/\(∀lo,lo<=ga->lo<=nk->lo<=W.heap.size->Ij lo W W2)/\W.heap.size<=W2.heap.size:=by have k1:=hg.Ek o EU kb;have on:E7 ga w1 (w1.setCell ⟨ga,s,Z⟩ v):=JS s _;have sz:(w1.setCell ⟨ga,s,Z⟩ v).heap.size=w1.heap.size:=Ej;refine⟨fun k cs S h1 h2 hk=>H.B (on.Ek (hg.Ek o h1 hk) (E6 (hg.Ek o h1 hk) k1 h2)) hb,fun d Y4 c ys hd k=>XM (aj (hd.elim (fun h=>hg.Ek_ o h k) (fun h=>hg.ElE o h k)) fun _ _ hk=>on.Ek hk (E6 hk k1 EU)) hb,fun lo h1 h2 h3=>((hg.1.mono h2).trans (on.bel lo h1 (Ew h3 hg.1.size))).trans (hb.mono (by rw[sz];exact Ew h3 hg.1.size)),Ew hg.1.size (Ew (OC sz.symm) hb.size)⟩
def bV{α:Type}(f:Nat->α)(s:Nat)(v:α):Nat->α:=fun t=>if t=s then v else f t
theorem mH(f:Nat->α)(s:Nat)(v:α):bV f s v s=v:=if_pos O
theorem mK(f:Nat->α){t:Nat}(v:α)(h:t≠s):bV f s v t=f t:=if_neg h
def zc(A:Nat->Option Ep)(C:Nat->Nat)(X:Nat->List Int):Array Y:= #[G Z 0 0,.slice (A 1) (X 1).length (C 1),.slice (A 2) (X 2).length (C 2),.slice (A 3) (X 3).length (C 3)]
theorem zd(A:Nat->Option Ep)(C:Nat->Nat)(X:Nat->List Int){s:Nat}(h1:1<=s)(h3:s<=3):(zc A C X)[s]?=D (.slice (A s) (X s).length (C s)):=by have:s=1\/s=2\/s=3:=U;exact EqJ
theorem ElI(A:Nat->Option Ep)(C:Nat->Nat)(X:Nat->List Int){s:Nat}(h1:1<=s)(h3:s<=3)(A1:Option Ep)(c1:Nat)(xs:List Int):(zc A C X).setIfInBounds s (G A1 xs.length c1)=zc (bV A s A1) (bV C s c1) (bV X s xs):=by have:s=1\/s=2\/s=3:=U;exact EqJ
structure fU(nk ga L:Nat)(a:Oh)(A:Nat->Option Ep)(C:Nat->Nat)(X:Nat->List Int)(W:M):Prop where
 Ek:H W ga (zc A C X) 69
 own: ∀s,1<=s->s<=3->Own W nk (A s) (C s) (X s)
 len: ∀s,1<=s->s<=3->(X s).length<=L
 ap: ∀s t,1<=s->s<=3->1<=t->t<=3->s≠t-> ∀p,A t=D p->bj (A s) p.block
 rest: ∀s,1<=s->s<=3->oS a (A s) W
section
variable{nk ga L L' lo:Nat}{a:Oh}{A:Nat->Option Addr}{C:Nat->Nat}{X:Nat->List Int}{g:Nat->Value}{c:Ey}{rs:Int->List Int}{W W':World}
theorem fU.more(h:fU nk ga L a A C X W)(hl:L<=L'):fU nk ga L' a A C X W:=⟨h.Ek,h.own,fun s h1 h2=>Ew (h.len s h1 h2) hl,h.ap,h.rest⟩
theorem fU.rT(h:fU nk ga L a A C X W)(Y8:I7 lo g a c rs W)(m:Jw lo W.heap.size W W'):fU nk ga L a A C X W':=
 ⟨m.Ek _ _ _ (H.lt h.Ek) EU EU h.Ek,fun s h1 h2=>aj (h.own s h1 h2) fun _ _ hk=>m.Ek _ _ _ (H.lt hk) EU EU hk,h.len,h.ap,fun s h1 h2=>(h.rest s h1 h2).rT Y8 (fun p hp=>(fk (h.own s h1 h2) p hp).2) m⟩
theorem fU.B(h:fU nk ga L a A C X W)(Y8:I7 lo g a c rs W)(hb:El W W'):fU nk ga L a A C X W':=
 ⟨H.B h.Ek hb,fun s h1 h2=>XM (h.own s h1 h2) hb,h.len,h.ap,fun s h1 h2=>(h.rest s h1 h2).keep Y8 fun _ _ hk=>H.B hk hb⟩
theorem fU.grow(h:fU nk ga L a A C X W)(Y8:I7 lo g a c rs W)(hK:Gb g nk){s:Nat}(h1:1<=s)(h3:s<=3){A1:Option Ep}{c1:Nat}{b:List Int}{w1:M}(ho:Own w1 nk A1 c1 (X s++b))(hg:Grown nk (A s) W A1 w1)(hl:lo<=nk)(hlg:lo<=ga)(hb:b.length<=120): I7 lo g a c rs (w1.setCell ⟨ga,s,Z⟩ (.slice A1 (X s++b).length c1))/\fU nk ga (L+120) a (bV A s A1) (bV C s c1) (bV X s (X s++b)) (w1.setCell ⟨ga,s,Z⟩ (.slice A1 (X s++b).length c1)):=by
 have o:=h.own s h1 h3;have M1:=Y8.app o hK (h.rest s h1 h3) hl hg;have k1:=hg.Ek o EU h.Ek;have on:E7 ga w1 (w1.setCell ⟨ga,s,Z⟩ (.slice A1 (X s++b).length c1)):=JS s _;have nb: ∀k cs S,S≠69->H w1 k cs S->H (w1.setCell ⟨ga,s,Z⟩ (.slice A1 (X s++b).length c1)) k cs S:=fun k cs S hS hk=>on.Ek hk (E6 hk k1 hS);refine⟨M1.only on k1 EU hlg,by rw[<-ElI A C X h1 h3 A1 c1 (X s++b)];exact k1.set s _,fun t t1 t3=> ?_,fun t t1 t3=> ?_,fun Y3 t u1 u3 t1 t3 hne p hp=> ?_,fun t t1 t3=> ?_⟩
 ·by_cases e:t=s;·subst e;rw[mH,mH,mH];exact aj ho fun _ _=>nb _ _ _ EU
  ·rw[mK _ _ e,mK _ _ e,mK _ _ e];exact aj (sw (h.own t t1 t3) (fun q hq=>h.ap s t h1 h3 t1 t3 (XA e) q hq) fun j hj ha=>(hg.2 j hj ha).1) fun _ _=>nb _ _ _ EU
 ·by_cases e:t=s;·subst e;rw[mH,IY];have:=h.len t t1 t3;omega
  ·rw[mK _ _ e];exact Ew (h.len t t1 t3) U
 ·by_cases e:Y3=s;·subst e;rw[mH];rw[mK _ _ (XA hne)] at hp;exact(hg.2 p.block (fk (h.own t t1 t3) p hp).2 (h.ap Y3 t u1 u3 t1 t3 hne p hp)).2
  ·rw[mK _ _ e];by_cases e2:t=s;·subst e2;rw[mH] at hp;intro q hq e3;exact(hg.2 q.block (fk (h.own Y3 u1 u3) q hq).2 (h.ap t Y3 t1 t3 u1 u3 (XA hne) q hq)).2 p hp e3.symm
   ·rw[mK _ _ e2] at hp;exact h.ap Y3 t u1 u3 t1 t3 hne p hp
 ·intro gs hgs Y4 n c hb p hp q hq e3;obtain⟨B0,c0,x0,k0,o0⟩:=Y8.strOf hgs;have e:=Pq hb (nb _ _ _ EU (hg.Ek o EU k0));subst e;by_cases e:t=s;·subst e;rw[mH] at hp;exact(hg.2 q.block (fk o0 q hq).2 (fun p2 hp2=>((h.rest t t1 t3) gs hgs _ _ _ k0 p2 hp2 q hq).symm)).2 p hp e3.symm
  ·rw[mK _ _ e] at hp;exact(h.rest t t1 t3) gs hgs _ _ _ k0 p hp q hq e3
end
theorem ElO(w:M)(base:Nat)(A:Option Ep)(cap:Nat)(xs:List Int)(hown:Own w base A cap xs)(Y4:Option Ep)(c:Nat)(ys:List Int)(hr:Row w Y4 ys) (hsmall:xs.length+ys.length<=1000000000) (hbase:base<=w.heap.size) (ty:EB): ∃A' cap' w',(ZX #[23,23] ty #[G A xs.length cap,G Y4 ys.length c]).run EZ w= .ok (G A' (xs.length+ys.length) cap') w'/\ Own w' base A' cap' (xs++ys)/\Ij base w w'/\(∀k,k<w.heap.size->bj A k->w'.heap[k]?=w.heap[k]?/\bj A' k)/\dx base 5 xs.length (ys.map (E .u8)) w w':=by
 obtain⟨A1,c1,w1,hrun,h2,h3,h4⟩:=sx w base A cap xs hown Y4 c ys hr hsmall hbase ty;refine⟨A1,c1,w1,hrun,h2,h3,h4,?_⟩;by_cases hy:0<ys.length;·obtain⟨A2,c2,w2,ElU,-,h5⟩:=EO_ w base base A cap xs hown Y4 c ys hr hy hsmall hbase (E3 _) ty;have e:=hrun.symm.trans ElU;injection e with e1 e2;subst e2;exact h5
 ·have hy0:ys=[]:=ZP U;subst hy0;obtain⟨i0,hi,hz0,hz1,hz2⟩:=au jl;suffices hs:(ZX #[23,23] ty #[G A xs.length cap,.slice Y4 ([]:List Int).length c]).run EZ w= .ok (G A xs.length cap) w by have e:=hrun.symm.trans hs;injection e with e1 e2;subst e2;exact(fl (b0:=base) (T:=5) (N:=xs.length) (ys:=([]:List Int).map (E .u8))).1 _
  rcases hown.1.2 with⟨hv,hn⟩|⟨g,cap',cur,hv,_,_,hnc,_⟩;·rw[hv];cases Y4<;>simp[ZX,go aJ,sizeOf,typeInfo,hi,Builtin.lenOf,Builtin.firstCells,hn,loadCells,loadCellsFrom]
  ·injection hv with h1 h2 h3;subst h1 h3;cases Y4<;>simp[ZX,go aJ,sizeOf,typeInfo,hi,Builtin.lenOf,Builtin.firstCells,hnc,storeCells,loadCells,loadCellsFrom]
def oT(nk:Nat)(A:Option Ep)(N:Nat)(ys:List Int)(w w':M):Prop:=dx nk 5 N (ys.map (E .u8)) w w'/\ ∀k,k<w.heap.size->bj A k->w'.heap[k]?=w.heap[k]?
theorem ZU:Kept (oT nk A N ys):=by obtain⟨h1,h2,h3⟩:=fl (b0:=nk) (T:=5) (N:=N) (ys:=ys.map (E .u8));exact⟨fun w=>⟨h1 w,fun _ _ _=>rfl⟩,fun a b c h k=>⟨h2 a b c h.1 k.1,fun j hj ha=>(k.2 j (gX hj h.1.1) ha).trans (h.2 j hj ha)⟩,fun w=>⟨h3 w,fun _ _ _=>rfl⟩⟩
def FA(nk:Nat)(A:Option Ep)(W:M)(xs ys:List Int)(v:Y)(w:M):Prop:= ∃(A1:Option Ep) (c1:Nat),v=G A1 (xs.length+ys.length) c1/\Grown nk A W A1 w/\Own w nk A1 c1 (xs++ys)
theorem FA.keep(h:FA nk A W xs ys v w)(hn:nk<=W.heap.size)(hr:oT nk A xs.length ys w w'):FA nk A W xs ys v w':=by obtain⟨A1,c1,e,hg,ho⟩:=h;exact⟨A1,c1,e,⟨hg.1.trans (hr.1.2.1 (Ew hn hg.1.size)),fun k hk ha=>⟨(hr.2 k (gX hk hg.1.size) ha).trans (hg.2 k hk ha).1,(hg.2 k hk ha).2⟩⟩,QK hr.1 ho (.inr ⟨xs,O,O⟩)⟩
theorem EJq{c:Nat}(hr:oT nk A xs.length ys W w)(o:Own W nk A cp xs)(hB:Own W 0 Y4 c ys)(hlt: ∀p,Y4=D p->p.block<nk)(hn:nk<=W.heap.size)(hs:xs.length+ys.length<=1000000000)(ty:EB): ∃v w',(ZX #[23,23] ty #[G A xs.length cp,G Y4 ys.length c]).run EZ w= .ok v w'/\oT nk A xs.length ys w w'/\FA nk A W xs ys v w':=by have o1:=QK hr.1 o (.inl (E3 _));have b1:Own w 0 Y4 c ys:=sw hB (fun q hq p hp e=>by have:=hlt q hq;have:=(fk o p hp).1;omega) hr.2;obtain⟨A1,c1,w1,hrun,h2,h3,h4,h5⟩:=ElO w nk A cp xs o1 Y4 c ys b1.row hs (Ew hn hr.1.1) ty;exact⟨_,w1,hrun,⟨h5,fun k hk ha=>(h4 k hk ha).1⟩,A1,c1,O,⟨(hr.1.2.1 hn).trans h3,fun k hk ha=>⟨(h4 k (gX hk hr.1.1) ha).1.trans (hr.2 k hk ha),(h4 k (gX hk hr.1.1) ha).2⟩⟩,h2⟩
def oV(nk ga s be i n ce:Nat)(A:Option Ep)(cp:Nat)(W:M)(xs:List Int)(Y4:Option Ep)(ys:List Int)(c:Nat)(j:Nat)(v:Y)(w:M):Prop:=match j with
 |0=>v=E I (s:Int)
 |1=>v=E I (s:Int)
 |2=>v=V (D ⟨ga,s,Z⟩)
 |3=>v=G A xs.length cp
 |4=>v=G (D ⟨be,0,Z⟩) n ce
 |5=>v=E I (i:Int)
 |6=>v=V (D ⟨be,i*10,Z⟩)
 |7=>v=V (D ⟨be,i*10+2,Z⟩)
 |8=>v=G Y4 ys.length c
 |9=>FA nk A W xs ys v w
 |_=>v=V (D ⟨ga,s,Z⟩)
theorem oV.keep{be ce:Nat}{c:Nat}(hn:nk<=W.heap.size)(j:Nat)(v:Y)(w w':M)(h:oV nk ga s be i n ce A cp W xs Y4 ys c j v w)(hr:oT nk A xs.length ys w w'):oV nk ga s be i n ce A cp W xs Y4 ys c j v w':=by unfold oV at*;split at h<;>first|exact h|exact h.keep hn hr
theorem ElX(ga s:Nat)(k:Int)(hk:k=(s:Int))(h1:1<=s)(h3:s<=3)(W:M):(qY 69 (V (D ⟨ga,0,Z⟩)) (E I k)).run EZ W= .ok (V (D ⟨ga,s,Z⟩)) W:=by have h:s=1\/s=2\/s=3:=U;subst hk;exact ErJ
theorem ElZ(be n c i:Nat)(hi:i<n)(W:M):(qY 29 (G (D ⟨be,0,Z⟩) n c) (E I (i:Int))).run EZ W= .ok (V (D ⟨be,i*10,Z⟩)) W:=by simp[go_sem,hi]
theorem Ela:Tryz.prog.built 69 []=D #[G Z 0 0,G Z 0 0,G Z 0 0,G Z 0 0]:=Ef
theorem Elb:Od EZ 69 #[G Z 0 0,G Z 0 0,G Z 0 0,G Z 0 0]:=by exact ErX
theorem Elc:IL EZ 69 4:=⟨⟨_,Tryz.underlying69,O⟩,Ef⟩
def Gc(x:Int×List Int):Bool:=match x.2 with
 |[]=>EI
 |b::_=>decide (b<=2)
def mM(l0:Bool)(its:List (Int×List Int))(k:Nat):Bool:=l0||(its.take k).any Gc
theorem Eld(l0:Bool){its:List (Int×List Int)}{k:Nat}{x:Int×List Int}(h:its[k]?=D x):mM l0 its (k+1)=(mM l0 its k||Gc x):=by unfold mM;rw[EkK _ _ _ _ h,Bool.or_assoc]
theorem Elf{l0:Bool}{its:List (Int×List Int)}(hk:its.length<=k)(h:mM l0 its k=EI):l0=EI/\ ∀i∈its,uX i:=by
 unfold mM at h;rw[OP hk,Bool.or_eq_false_iff,List.any_eq_false] at h;refine⟨h.1,fun i hi=> ?_⟩;have h2:=h.2 i hi;unfold Gc at h2;unfold uX fT;split at h2;·rename_i e;rw[e];exact⟨rfl,rfl⟩
 ·rename_i b r e;rw[e];have h3: ¬b<=2:=by simpa using h2
  exact⟨I8,I8⟩
def oW(X:Nat->List Int)(rs:Int->List Int):Prop:= ∀s:Nat,1<=s->s<=3-> ∃its,JR (X s) its (rs s)
theorem Elg{X b:List Int}{EJr EEm:List (Int×List Int)}{r r':List Int}(hX:Og X)(hb:Og b)(h0:JR X EJr r)(h1:JR (r++b) EEm r'): ∃its,JR (X++b) its r':=by obtain⟨i2,r2,h2⟩:=JR.ex _ (X++b) (E3 _) (hX.app hb);obtain⟨i3,-,h3⟩:=h0.more b hX hb h2;obtain⟨-,rfl⟩:=h3.xP h1;exact⟨i2,h2⟩
theorem oW.same{e:JX}(h:oW X rs)(w:rj g e c rs c' rs' m new)(hn: ¬(e.kind=0/\1<=e.src/\e.src<=3)):oW X rs':=by
 have:rs'=rs:=by
  rcases w with⟨h1,h2,h3,-⟩|⟨-,h,-⟩|⟨-,h,-⟩|⟨-,h,-⟩|⟨-,h,-⟩;·exact absurd ⟨h1,h2,h3⟩ hn
  all_goals exact h
 rw[this];exact h
theorem oW.step{e:JX}(h:oW X rs)(w:rj g e c rs c' rs' m new)(hk:e.kind=0)(hs:e.src=s)(h1:1<=s)(h3:s<=3)(hX:Og (X s))(hb:Og e.b):oW (bV X s (X s++e.b)) rs':=by
 rcases w with⟨-,-,-,its,r,p,e1,-⟩|⟨h,_⟩|⟨h,_⟩|⟨h,_⟩|⟨h,_⟩
 ·intro t t1 t3;rw[e1];by_cases e2:t=s;·subst e2;obtain⟨i0,p0⟩:=h t t1 t3;rw[hs] at p;rw[mH];show∃its,JR _ its (if(t:Int)=e.src then r else rs t);rw[if_pos hs.symm];exact Elg hX hb p0 p
  ·rw[mK _ _ e2];show∃its,JR _ its (if(t:Int)=e.src then r else rs t);rw[if_neg U];exact h t t1 t3
 ·omega
 ·omega
 ·omega
 ·omega
def Pr(A:Option Ep)(es:bT)(k:Nat):Prop:=(∀p,A=D p->p.block<k)/\ ∀x∈es,∀p,x.2.1=D p->p.block<k
theorem O9.lt{c:Nat}(h:O9 b0 W A n c es):Pr A es W.heap.size:=⟨wj h.own,fun x hx p hp=>(fk (h.each x hx).2.2 p hp).2⟩
theorem O9.EJs{b c:Nat}(h:O9 b0 W (D ⟨b,0,Z⟩) n c es)(hl:Pr (D ⟨b,0,Z⟩) es nk)(o:Own W nk A cp xs)(hr:oT nk A N ys W w){x:JX×Option Ep×Nat}(hi:i<n)(hx:es[i]?=D x):w.rangeAt b (i*10) (x.1.cells x.2.1 x.2.2):=
 O9.range (n0:=b0) ⟨EG h.own fun _ _ hk=>Uw hr.1 hk EU,h.len,fun y hy=>⟨(h.each y hy).1,(h.each y hy).2.1,sw (h.each y hy).2.2 (fun q hq p hp e=>by have:=hl.2 y hy q hq;have:=(fk o p hp).1;omega) hr.2⟩⟩ hi hx
theorem walk_TopReplays(v0 v1:Y)(w:M)(hR:Ju w)(hC:Xs w)(q0:Q8 w v0)(q1:ua w v1): Eg EZ 6 #[v0,v1] w fun e w'=>e=Ei (Ec EJ)/\El w w':=by
 obtain⟨f,rfl,hp⟩:=q0;have RT:=J<|JD hR hC;have HQ:=J q1;have HP:=J hp;obtain⟨n0,hn0⟩:=Eo w.heap.size;obtain⟨fv,Ul⟩:=Eo (EL 56 f);rw[<-Ul];unfold El;rw[<-hn0];have HFV:=J Ul;have HN:=J hn0;have O0:Ed (fv.size=56):=J (by rw[Ul];simp);have ZS:Ed (hH.size=56):=J (by simp[hH]);have SH:=J EkF;clear hR hC q1 hp Ul hn0;go_enter Tryz.func6,Tryz.ntmps6;go_wp2_with fail;have K0:=J<|H.new w fv 28;have b1:=Er w (Eb fv 28);refine(SH.out _ (RT.out.1.B b1) (RT.out.2.B b1) (EJh (RT.out.2.B b1))).mono ?_;rintro e w2 ⟨rfl,b2⟩;have B2:=J<|bt b1 b2;have KP:=J<|K0.out.B b2;clear K0 b1 b2 SH;go_wp2_with ((with_reducible refine Xm 28 ?_);(with_reducible refine aI (g:=w.heap.size) U1 ?_ ?_ KP ?_ ?_);(·exact Eh O);(·exact⟨O,O⟩);(·exact O0.out));rw[HFV.out];refine(Ej6 f w2 (HP.out.B B2.out) (RT.out.1.B B2.out) (RT.out.2.B B2.out) (EJh (RT.out.2.B B2.out))).mono ?_;rintro e w3 ⟨⟨g,v,rfl,hf,g2,a,rfl,Y8,-⟩,b3⟩;obtain⟨nb,hnb⟩:=Eo w2.heap.size;rw[<-hnb] at Y8;have MM:=J Y8;have a_:=J (show n0<=nb by have:=B2.out.size;have:=HN.out;omega);have u:Ed (Ij n0 w w3):=J (by rw[HN.out];exact bt B2.out b3);have S3:=J (show nb<=w3.heap.size by have:=b3.size;omega)
 have GO:Ed ((EL 56 g).all (·.oneCell')=EJ):=J (EIV g (fun i hi=>by
  have FP:=N5 hf;by_cases h5:i<5\/8<i;·rw[(FP.1.int i hi h5).1];rfl
  ·obtain⟨A,c,e⟩:=FP.1.key i U U;rw[e];rfl))
 have GS:Ed ((EL 56 g).size=56):=J Ej;clear hnb Y8 b3 KP hf B2;generalize EL 56 g=gv at*;go_wp2_with ((with_reducible show Ib _ _ _ (⟨_,.alloc 28,_,_,_,Z⟩::_) _ _);(with_reducible refine ph N6 ?_ ?_ ?_);(·exact Eh O);(·rfl);refine Ex.mk ?_);apply Es;have KR:=J<|H.new w3 hH 28;have b4:=Er w3 (Eb hH 28);generalize hpz:hH=pz at*;clear hpz;generalize hgr:w3.heap.size=gr at*;have hI:=J hgr;generalize w3.alloc (Eb pz 28)=w4 at*;go_wp2_with ((with_reducible refine I3 28 ?_);(with_reducible refine OQ (g:=gr) (cs:=gv) U1 ?_ ?_ KR ?_ ?_ ?_ ?_);(·exact Eh O);(·exact⟨O,O,O⟩);(·exact ZS.out);(·exact GS.out);(·exact GO.out);refine Ex.mk ?_);apply Es;have b5:=EY (g:=gr) b4 U gv;replace b5:El w3 (w4.setRow gr gv):=by first|exact b5|(rw[hI.out];exact b5)
 replace MM:=J<|MM.out.B b5;replace u:=J<|u.out.trans (b5.mono (by have:=hI.out;have:=S3.out;have:=a_.out;omega));replace S3:=J (show nb<=(w4.setRow gr gv).heap.size by have:=b5.size;have:=S3.out;have:=hI.out;omega);clear b4 b5 KR hgr hI;generalize w4.setRow gr gv=w5 at*;have BE:=J Ela;obtain⟨az,haz⟩:=Eo (#[G Z 0 0,G Z 0 0,G Z 0 0,G Z 0 0]:Array Y);have ZA:Ed (Od EZ 69 az):=J (by rw[haz];exact Elb);have Ps:Ed (az.size=4):=J (by rw[haz];rfl);have ZAO:Ed (az.all (·.oneCell')=EJ):=J (by rw[haz];simp[Oc]);have ZAV:Ed (az=zc (fun _=>Z) (fun _=>0) (fun _=>[])):=J haz;rw[<-haz] at BE;clear haz;have ak:=J<|H.new w5 az 69;have b6:=Er w5 (Eb az 69);generalize hga:w5.heap.size=ga at ak;have Gd:=J (show nb<=ga by have:=S3.out;omega);go_wp2_with (first|((with_reducible refine Io 35 ?_);refine I4 rfl 69 _ rfl az BE.out ?_)|((with_reducible show Ib _ _ _ (⟨_,.alloc 69,_,_,_,Z⟩::_) _ _);(with_reducible refine ph ZA.out ?_ ?_ ?_);(·exact Eh rfl);(·rfl);refine Ex.mk ?_));apply Es;generalize w5.alloc (Eb az 69)=w6 at*;go_wp2_with ((with_reducible refine I3 69 ?_);(with_reducible refine OQ (g:=ga) (cs:=az) Elc ?_ ?_ ak ?_ ?_ ?_ ?_);(·exact Eh O);(·exact⟨O,O,O⟩);(·exact Ps.out);(·exact Ps.out);(·exact ZAO.out);refine Ex.mk ?_);apply Es;have b7:=EY (g:=ga) b6 U az;replace ak:=J<|ak.out.setRow az;generalize w6.setRow ga az=w7 at*;replace MM:=J<|MM.out.B b7;replace u:=J<|u.out.trans (b7.mono (Ew a_.out S3.out));replace S3:=J<|Ew S3.out b7.size;clear b6 b7 hga BE ZA Ps ZAO;go_wp2_with fail;refine(EkJ v1 _ (HQ.out.B (by have:=u.out;rw[HN.out] at this;exact this))).mono ?_;rintro e w8 ⟨⟨Ae,n,ce,es,rfl,EmW,hev⟩,b8⟩;have EE:=J hev;replace MM:=J<|MM.out.B b8;replace ak:=J<|ak.out.B b8;replace u:=J<|u.out.trans (b8.mono (Ew a_.out S3.out));obtain⟨nk,hnk⟩:=Eo w8.heap.size;have NK:=J<|OC hnk;have KLT:=J (show Gb g2 nk by rw[hnk];exact MM.out.Ek8);have zg:=J (show Pr Ae es nk by rw[hnk];exact EE.out.lt);have Gf:=J (show nb<=nk by rw[hnk];exact Ew S3.out b8.size);have GNK:=J<|show nk<=ga+1\/True from .inr trivial;have AL:Ed (fU nk ga 0 a (fun _=>Z) (fun _=>0) (fun _=>[]) w8):=J ⟨by rw[<-ZAV.out];exact ak.out,fun _ _ _=>XL _ _,fun _ _ _=>E3 _,fun _ _ _ _ _ _ _ p hp=>(by cases hp),fun _ _ _ gs hg Y4 n c hb p hp=>(by cases hp)⟩;have PS:Ed (oW (fun _=>[]) (fun _=>[])):=J<|fun _ _ _=>⟨[],.wait O⟩;clear hev b8 S3 HQ HP RT hnk GNK ZAV ak;generalize w7.heap.size=b0 at*;go_wp2_with fail;go_loopw[10] (fun y wr=> ∃(i:Nat) (c:Ey) (rs:Int->List Int) (A:Nat->Option Ep) (C:Nat->Nat) (X:Nat->List Int),i<=n/\y=E I i/\I7 nb g2 a c rs wr/\fU nk ga (240*i) a A C X wr/\oW X rs/\O9 b0 wr Ae n ce es/\Ij n0 w wr/\nk<=wr.heap.size) (fun y _=>n-(In y).toNat);case atStart=>exact⟨0,_,_,_,_,_,U,O,MM.out,AL.out,PS.out,EE.out,u.out,NK.out⟩
 case round=>
  clear MM AL PS EE u NK;obtain⟨i,c,rs,A,C,X,hin,rfl,mm_,al_,ps_,EE,u,nk_⟩:=hrel;replace EE:=J EE;replace u:=J u;have MM:=J mm_;have AL:=J al_;have PS:=J ps_;have NK:=J nk_;clear mm_ al_ ps_ nk_;by_cases hlt:i<n
  ·have t1:decide ((i:Int)<(n:Int))=EJ:=IJ U;obtain⟨be,x,hA,hx1,hx2,-,hra⟩:=EE.out.at i hlt;obtain⟨eo,el,ew⟩:=EE.out.each x hx2;subst hA;have RA:=J hra;have OW:=J<|X8 ew (aO _);have EO:=J<|JD eo el;have rV:=J hx1;have CL:Ed ((x.1.cells x.2.1 x.2.2).length=10):=J<|JX.ut _ _ _;have rP:=J<|fun(c:Ey) (rs:Int->List Int) (W:M) (Y8:I7 nb g2 a c rs W) (ho:Own W 0 x.2.1 x.2.2 x.1.b)=>Ei4 nb g2 a c rs x.1 x.2.1 x.2.2 W Y8 eo ho U;clear hx1 hra ew eo el;have oY:=J hx2;clear hx2;go_wp2_with ((with_reducible refine Xm 48 ?_);(with_reducible refine F0 (b:=be) (off:=i*10) (cs:=x.1.cells x.2.1 x.2.2) mw ?_ ?_ RA ?_ ?_);(·exact Eh O);(·exact⟨O,O⟩);(·exact CL.out));refine(rP.out c rs _ MM.out OW.out).mono ?_;rintro e U8 ⟨c',rs',m,new,A1,A2,c1,c2,sc,hd,rfl,hd1,hd2,os,Xu,M7,st,hnew,mu⟩;replace AL:=J<|AL.out.rT MM.out mu;replace NK:=J<|Ew NK.out mu.bel.size;clear OW;have OR:=J<|mq Xu (show nb<=_ from EJA);have MM:=J M7;have ST:=J st;have uE:=J hnew;have HD:=J<|JD hd1 hd2;replace EE:=J<|EE.out.rT mu;replace u:=J<|u.out.trans (mu.bel.mono a_.out);have LW:=J (show nb<=U8.heap.size from EJB);clear M7 st hnew Xu hd1 hd2 mu os;obtain⟨tv,E2⟩: ∃tv,tv=(Jh (OZ c') (G A1 m c1) (G A2 new.length c2) hd).toArray:=⟨_,O⟩;have TS:Ed (tv.size=46):=J EJC;have TN:Ed (tv.all (·.oneCell')=EJ):=J (by rw[E2];exact uJ c' A1 A2 m new.length c1 c2 hd);have TV:=J E2;rw[<-E2];clear E2;obtain⟨zt,kI⟩:=Eo ((Jh [E I 0,E I 0,E I 0,E I 0,E I 0,E I 0,E I 0,E I 0,E I 0,E I 0,E I 0,E I 0] (G Z 0 0) (G Z 0 0) (Ev 32)).toArray:Array Y);have ZT:Ed (Od EZ 43 zt):=J Fb;have uy:Ed (zt.size=46):=J Fc;clear kI;have KT:=J<|H.new U8 zt 43;have bq:=Er U8 (Eb zt 43);generalize hgt:U8.heap.size=gt at KT;go_wp2_with (((with_reducible show Ib _ _ _ (⟨_,.alloc 43,_,_,_,Z⟩::_) _ _);(with_reducible refine ph ZT.out ?_ ?_ ?_);(·exact Eh O);(·rfl);refine Ex.mk ?_));apply Es;generalize U8.alloc (Eb zt 43)=Elj at*;go_wp2_with ((with_reducible refine I3 43 ?_);(with_reducible refine OQ (g:=gt) (cs:=tv) fK ?_ ?_ KT ?_ ?_ ?_ ?_);(·exact Eh O);(·exact⟨O,O,O⟩);(·exact uy.out);(·exact TS.out);(·exact TN.out);refine Ex.mk ?_);apply Es;have bs:=EY (g:=gt) bq U tv;replace KT:=J<|KT.out.setRow tv;generalize Elj.setRow gt tv=UH at*;replace AL:=J<|AL.out.B MM.out bs;replace NK:=J<|Ew NK.out bs.size;replace MM:=J<|MM.out.B bs;replace EE:=J<|EE.out.B bs;replace u:=J<|u.out.trans (bs.mono (Ew a_.out LW.out));have LG:=J (show nb<=gt from M9);replace LW:=J<|Ew LW.out bs.size;replace OR:=J<|EG OR.out fun _ _ hk=>H.B hk bs;clear bq bs hgt;have cS:UH.cell? ⟨be,i*10+1,Z⟩=D (E I x.1.src):=(EE.out.range hlt rV.out) 1 _ O;have cK:UH.cell? ⟨be,i*10,Z⟩=D (E I x.1.kind):=(EE.out.range hlt rV.out) 0 _ O;have cB:UH.cell? ⟨be,i*10+2,Z⟩=D (.slice x.2.1 x.1.b.length x.2.2):=(EE.out.range hlt rV.out) 2 _ O;have TE1:Ed (tv.extract 0 12=kZ c'):=J EJD;clear OR uE RA TV TN;rcases qk:(x.1.kind !=0) with _|_;rotate_left
   ·have hn: ¬(x.1.kind=0/\1<=x.1.src/\x.1.src<=3):=fun h=>by rw[h.1] at qk;cases qk
    have mN:=J<|PS.out.same ST.out hn;clear hn;exact Eoy
   by_cases h1:x.1.src<1;·have t2:decide (x.1.src<1)=EJ:=IJ h1;exact ErS
   have t2:decide (x.1.src<1)=EI:=IZ h1;by_cases h3:3<x.1.src;·have t3:decide (3<x.1.src)=EJ:=IJ h3;exact ErS
   have t3:decide (3<x.1.src)=EI:=IZ h3;have Pu:=J (show x.1.kind=0 by simpa using qk);obtain⟨s,hs⟩: ∃s:Nat,x.1.src=s:=⟨x.1.src.toNat,U⟩;have HS:=J hs;have S1:=J (show 1<=s from U);have S3:=J (show s<=3 from U);have s4:s<4:=U;rw[hs] at cS t2 t3;clear hs h1 h3;have cA:UH.cell? ⟨ga,s,Z⟩=D (.slice (A s) (X s).length (C s)):=(H.cell AL.out.Ek s).trans (zd _ _ _ S1.out S3.out);have bY:=J<|AL.out.own s S1.out S3.out;have CPS:=J<|yk bY.out;have Pv:=J (show(X s).length<=1000000 from EJG);go_wp2_with fail;refine(EJo (A s) (X s) (X s).length (C s) _ O bY.out.row CPS.out.1 CPS.out.2 Pv.out).mono ?_;rintro e JM ⟨EJr,r0,v0,EmY,rfl,hp0,-,-,b13⟩;obtain rfl:r0=rs s:=by obtain⟨i0,p0⟩:=PS.out s S1.out S3.out;exact((p0.xP hp0).2).symm
   replace AL:=J<|AL.out.B MM.out b13;replace MM:=J<|MM.out.B b13;replace KT:=J<|KT.out.B b13;replace EE:=J<|EE.out.B b13;replace u:=J<|u.out.trans (b13.mono (Ew a_.out LW.out));replace NK:=J<|Ew NK.out b13.size;replace LW:=J<|Ew LW.out b13.size;clear hp0 b13 cS cK cB cA bY;have cB:JM.cell? ⟨be,i*10+2,Z⟩=D (.slice x.2.1 x.1.b.length x.2.2):=(EE.out.range hlt rV.out) 2 _ O;have OB:=J<|(EE.out.each x oY.out).2.2;have CPB:=J<|yk OB.out;have zi:=J<|show x.1.b.length<=120 from EO.out.2;go_wp2_with fail;refine(EJo x.2.1 x.1.b x.1.b.length x.2.2 _ O OB.out.row CPB.out.1 CPB.out.2 (by have:=zi.out;omega)).mono ?_;rintro e aP ⟨its,r1,v1,vals,rfl,hp1,Pw,iv1,b14⟩;obtain⟨Ai,ci,rfl⟩:=mx Pw;have PB:=J hp1;have OI:=J Pw;have IV:=J iv1;have EJL:=J (show∀s,1<=s->s<=3-> ∀p,A s=D p->p.block<JM.heap.size from fun s h1 h3 p hp=>(fk (AL.out.own s h1 h3) p hp).2);replace AL:=J<|AL.out.B MM.out b14;replace MM:=J<|MM.out.B b14;replace KT:=J<|KT.out.B b14;replace EE:=J<|EE.out.B b14;replace u:=J<|u.out.trans (b14.mono (Ew a_.out LW.out));replace NK:=J<|Ew NK.out b14.size;replace LW:=J<|Ew LW.out b14.size;clear hp1 Pw iv1 b14 cB OB;have rW:=NK;have bY:=J<|AL.out.own s S1.out S3.out;have mP:=J AL.out.Ek;have zj:=J<|X8 (EE.out.each x oY.out).2.2 (aO _);have Px:=J<|zg.out.2 x oY.out;have zk:=J<|ElX ga s (s:Int) O S1.out S3.out;have Py:=J<|ElZ be n ce i hlt;have zl:Ed (∀w',oT nk (A s) (X s).length x.1.b aP w'->w'.cell? ⟨be,i*10+2,Z⟩=D (.slice x.2.1 x.1.b.length x.2.2)):=J<|fun w' hb=>O9.EJs EE.out zg.out bY.out hb hlt rV.out 2 _ O;go_wp2_with fail;refine ZV ZU Ef 11 Ef Ej EU (oV nk ga s be i n ce (A s) (C s) aP (X s) x.2.1 x.1.b x.2.2) (fun j v w w' _ h hr=>oV.keep rW.out j v w w' h hr) ?_ ?_
   ·simp only[Xl,Is,Iq,EM,Ih,Ik,Ic,If,and_true];refine⟨?_,?_,?_,?_,?_,?_,?_,?_,?_,?_,?_⟩;all_goals intro v w' hb hd
    ·exact Epy
    ·exact Epy
    ·have d1:v 1=E I (s:Int):=hd.at 1 rfl;exact EpN
    ·have d1:v 2=V (D ⟨ga,s,Z⟩):=hd.at 2 rfl;have cc:w'.cell? ⟨ga,s,Z⟩=D (.slice (A s) (X s).length (C s)):=(H.cell (Uw hb.1 mP.out EU) s).trans (zd _ _ _ S1.out S3.out);exact Era
    ·exact Epy
    ·exact Epy
    ·exact Epi
    ·exact Eqw
    ·exact EpW
    ·have d1:v 3= .slice (A s) (X s).length (C s):=hd.at 3 rfl;exact Eox
    ·have d1:v 0=E I (s:Int):=hd.at 0 rfl;exact EpN
   ·intro v w1 hb hr;obtain⟨A1,c1,e9,hg,ho⟩:FA nk (A s) aP (X s) x.1.b (v 9) w1:=hr 9 U;have d10:v 10=V (D ⟨ga,s,Z⟩):=hr 10 U;simp only[Is,Iq,IT,IM,EM,Ih,Ik,Ic,If];rw[e9,d10,show v 0=E I (s:Int) from hr 0 U,show v 1=E I (s:Int) from hr 1 U,show v 2=V (D ⟨ga,s,Z⟩) from hr 2 U,show v 3= .slice (A s) (X s).length (C s) from hr 3 U];clear hr e9 d10 hb;have kb:=hg.Ek bY.out EU mP.out;have cc:w1.cell? ⟨ga,s,Z⟩=D (.slice (A s) (X s).length (C s)):=(H.cell kb s).trans (zd _ _ _ S1.out S3.out);have ff:w1.frozen? ⟨ga,s,Z⟩=EI:=H.JZ kb s;clear kb;go_upto_region 16 with fail
    have hb:=IU (w1.setCell ⟨ga,s,Z⟩ (G A1 ((X s).length+x.1.b.length) c1)).heap.size (w1.setCell ⟨ga,s,Z⟩ (G A1 ((X s).length+x.1.b.length) c1));have Y5:=J<|EJp hg bY.out mP.out hb;obtain⟨M2,jt⟩:=AL.out.grow MM.out KLT.out S1.out S3.out ho hg Gf.out Gd.out zi.out;rw[IY] at M2 jt;clear cc ff hb hg ho;generalize w1.setCell ⟨ga,s,Z⟩ (G A1 ((X s).length+x.1.b.length) c1)=w16 at*;clear w1;replace AL:=J jt;replace MM:=J M2;replace EE:Ed (O9 b0 w16 (D ⟨be,0,Z⟩) n ce es):=J ⟨EG EE.out.own fun _ _ hk=>Y5.out.1 _ _ _ EU EU hk,EE.out.len,fun x hx=>⟨(EE.out.each x hx).1,(EE.out.each x hx).2.1,Y5.out.2.1 _ _ _ _ (.inr (zg.out.2 x hx)) (EE.out.each x hx).2.2⟩⟩;replace KT:=J<|Y5.out.1 _ _ _ EU EU KT.out;replace u:=J<|u.out.trans (Y5.out.2.2.1 n0 (Ew a_.out Gd.out) (Ew a_.out Gf.out) (Ew a_.out LW.out));replace NK:=J<|Ew NK.out Y5.out.2.2.2;replace LW:=J<|Ew LW.out Y5.out.2.2.2;replace OI:=J<|EG OI.out fun _ _ hk=>Y5.out.1 _ _ _ EU EU hk;replace IV:=J<|Ou.own (fun Y4 c ys k=>Y5.out.2.1 _ _ _ _ (.inl (EJL.out s S1.out S3.out)) k) IV.out;have mN:=J<|PS.out.step ST.out Pu.out HS.out S1.out S3.out bY.out.2 ((EE.out.each x oY.out).2.2).2;clear M2 jt Y5;have XS:Ed (bV X s (X s++x.1.b) s=X s++x.1.b):=J<|mH _ _ _;generalize bV X s (X s++x.1.b)=X2 at*;generalize bV A s A1=Aa at*;generalize bV C s c1=Ca at*;clear bY mP zj EJL PS rW zl;generalize hz0:((rs s).length:Int)=z0;generalize hz1:(r1.length:Int)=z1;have HZ:=J<|JD hz0 hz1;clear hz0 hz1;obtain⟨l0,hl0⟩:=Eo ((decide (0<z0)||decide (0<z1)));have zn:=J hl0;clear hl0;go_cut[17] from 38 to 188 (fun v wx=>v=Ec l0/\w16=wx)
    case first=>
     rcases u1:decide (0<z0) with _|_
     ·rcases u2:decide (0<z1) with _|_;·go_wp2;go_meet;exact⟨by rw[zn.out,u1,u2];rfl,O⟩
      ·go_wp2;go_meet;exact⟨by rw[zn.out,u1,u2];rfl,O⟩
     ·go_wp2;go_meet;exact⟨by rw[zn.out,u1];rfl,O⟩
    case rest=>
     obtain⟨rfl,rfl⟩:=hcut;have dI:=J<|show its.length<=120 from Ew (Nat.le_of_add_right_le (PB.out.len ((EE.out.each x oY.out).2.2).2)) zi.out;go_wp2_with fail;go_loopw[17,18] (fun z y wr2=> ∃k:Nat,k<=its.length/\y=E I k/\z=Ec (mM l0 its k)/\w16=wr2) (fun _ y _=>its.length-(In y).toNat);case atStart=>exact⟨0,U,O,by simp[mM],O⟩
     case round=>
      obtain⟨k,hk,rfl,rfl,rfl⟩:=hrel;have h5:=dI.out;by_cases hl2:k<its.length
      ·have t2:decide ((k:Int)<(its.length:Int))=EJ:=IJ U;obtain⟨y,hy⟩: ∃y,its[k]?=D y:=⟨_,JV hl2⟩;obtain⟨gi,hAi,-,-,hci⟩:=EEY OI.out hl2;subst hAi;obtain⟨Ab,cb,-,v2,ob⟩:=IV.out.get hy;have c2':=hci 1 _ v2;have NX:=J<|Eld l0 hy;obtain⟨bo,Zj⟩:=Eo (mM l0 its k);rw[<-Zj] at NX⊢;have Pz:=J ob.row;obtain⟨cd,bd⟩:=y;simp only at c2' Pz;clear hy Zj hci v2 ob;cases bo
       ·cases bd with
        |nil=> go_wp2_with fail;exact⟨⟨k+1,U,Ej,by rw[NX.out];rfl,trivial⟩,Jb⟩
        |cons b1 bs=>
         rcases Pz.out.1 with h|⟨b9,Elm,rfl,-⟩;·cases h
         ·have cb1:w16.cell? ⟨b9,Elm,Z⟩=D (E Ix b1):=Zi Pz.out 0 rfl;have t4:decide ((0:Int)<((b1::bs).length:Int))=EJ:=IJ (by simp only[Zn];omega);have i4:0<(b1::bs).length:=Ej;rcases q4:decide (b1<=2) with _|_;·go_wp2_with fail;exact⟨⟨k+1,U,Ej,EJN,trivial⟩,Jb⟩
          ·go_wp2_with fail;exact⟨⟨k+1,U,Ej,EJN,trivial⟩,Jb⟩
       ·go_wp2_with fail;exact⟨⟨k+1,U,Ej,by rw[NX.out];rfl,trivial⟩,Jb⟩
      ·have t2:decide ((k:Int)<(its.length:Int))=EI:=IZ U;rcases Zj:mM l0 its k with _|_;rotate_left;·go_wp2_with fail;exact⟨⟨i+1,c',rs',Aa,Ca,X2,U,Ej,MM.out,AL.out.more U,mN.out,EE.out,u.out,NK.out⟩,Jb⟩
       obtain⟨hz,hnl⟩:=Elf U Zj;have hl1:rs s=[]/\r1=[]:=by have h9:=zn.out;rw[hz] at h9;have h8:=Bool.or_eq_false_iff.1 h9.symm;have ha:=of_decide_eq_false h8.1;have hb:=of_decide_eq_false h8.2;have hc:=HZ.out;exact⟨ZP U,ZP U⟩
       obtain⟨hl1,rfl⟩:=hl1;have lj:Ed (rs x.1.src=[]):=J (by rw[HS.out];exact hl1);have jF:=J hnl;clear hz hnl hl1 zn HZ OI IV Zj t2 h5;go_wp2_with fail;refine(EJj nb g2 a c' rs' _ MM.out).mono ?_;rintro e rf ⟨⟨sv,rfl,sr⟩,b10⟩;have SR:=J<|Z8.lower sr (aO _);have ud:=J SR.out.size;have FE:=J SR.out.one;obtain⟨zs,hzs⟩:=Eo ZJ;have ZT:Ed (Od EZ 54 zs):=J (by rw[hzs];exact rm);have uy:Ed (zs.size=31):=J PU;clear hzs sr;have KS:=J<|H.new rf zs 54;have bq:=bt b10 (Er rf (Eb zs 54));have bq0:=Er rf (Eb zs 54);generalize hgs:rf.heap.size=gs at KS;go_wp2_with ((with_reducible show Ib _ _ _ (⟨_,.alloc 54,_,_,_,Z⟩::_) _ _);(with_reducible refine ph ZT.out ?_ ?_ ?_);(·exact Eh O);(·rfl);refine Ex.mk ?_);apply Es;generalize rf.alloc (Eb zs 54)=Eln at*;go_wp2_with ((with_reducible refine I3 54 ?_);(with_reducible refine OQ (g:=gs) (cs:=sv) fY ?_ ?_ KS ?_ ?_ ?_ ?_);(·exact Eh O);(·exact⟨O,O,O⟩);(·exact uy.out);(·exact ud.out);(·exact FE.out);refine Ex.mk ?_);apply Es;have bs:=EY (g:=gs) bq (by have:=b10.size;omega) sv;have bs0:=EY (g:=gs) bq0 U sv;replace KS:=J<|KS.out.setRow sv;generalize Eln.setRow gs sv=w18 at*;replace AL:=J<|AL.out.B MM.out bs;replace NK:=J<|Ew NK.out bs.size;replace MM:=J<|MM.out.B bs;replace EE:=J<|EE.out.B bs;replace u:=J<|u.out.trans (bs.mono (Ew a_.out LW.out));replace SR:=J<|SR.out.B bs0;replace KT:=J<|KT.out.B bs;replace LW:=J<|Ew LW.out bs.size;clear bq bq0 bs bs0 hgs b10 ZT uy ud FE;have RA:=J<|EE.out.range hlt rV.out;have OW:=J<|X8 (EE.out.each x oY.out).2.2 (aO _);go_wp2_with ((with_reducible refine Xm 48 ?_);(with_reducible refine F0 (b:=be) (off:=i*10) (cs:=x.1.cells x.2.1 x.2.2) mw ?_ ?_ RA ?_ ?_);(·exact Eh O);(·exact⟨O,O⟩);(·exact CL.out));refine(rP.out c' rs' _ MM.out OW.out).mono ?_;rintro e aQ ⟨c2',j_,m2,new2,A3,A4,c3,c4,yu,hd,rfl,hd1,hd2,os,Xu,M7,st,hnew,mu⟩;obtain⟨e1,e2,hl9,EJS,-,-⟩:=EhP Pu.out ⟨by rw[HS.out];have:=S1.out;omega,by rw[HS.out];have:=S3.out;omega⟩ lj.out PB.out jF.out ST.out st;replace e1:=e1.symm;subst e1;subst e2;have HL9:=J hl9;have HRJ:=J EJS;have PS2:=J<|mN.out.step st Pu.out HS.out S1.out S3.out (AL.out.own s S1.out S3.out).2 (EE.out.each x oY.out).2.2.2;rw[XS.out] at PS2;replace AL:=J<|AL.out.rT MM.out mu;replace NK:=J<|Ew NK.out mu.bel.size;replace SR:=J<|SR.out.keep fun _ _ hk=>mu.Ek _ _ _ hk.lt EU EU hk;clear OW RA hl9 EJS rP jF lj PB mN;have OR:=J<|mq Xu (show nb<=_ from EJA);have MM:=J M7;have ST:=J st;have uE:=J hnew;have HD:=J<|JD hd1 hd2;replace EE:=J<|EE.out.rT mu;replace u:=J<|u.out.trans (mu.bel.mono a_.out);have LW:=J (show nb<=aQ.heap.size from EJB);replace KT:=J<|mu.Ek _ _ _ KT.out.lt EU EU KT.out;replace KS:=J<|mu.Ek _ _ _ KS.out.lt EU EU KS.out;clear M7 st hnew Xu hd1 hd2 mu os;obtain⟨Iy,E2⟩: ∃Iy,Iy=(Jh (OZ c') (G A3 0 c3) (G A4 new2.length c4) hd).toArray:=⟨_,O⟩;have TS:Ed (Iy.size=46):=J EJC;have TN:Ed (Iy.all (·.oneCell')=EJ):=J (by rw[E2];exact uJ c' A3 A4 0 new2.length c3 c4 hd);have TV:=J E2;rw[<-E2];clear E2;obtain⟨zt,kI⟩:=Eo ((Jh [E I 0,E I 0,E I 0,E I 0,E I 0,E I 0,E I 0,E I 0,E I 0,E I 0,E I 0,E I 0] (G Z 0 0) (G Z 0 0) (Ev 32)).toArray:Array Y);have ZT:Ed (Od EZ 43 zt):=J Fb;have uy:Ed (zt.size=46):=J Fc;clear kI;have jh:=J<|H.new aQ zt 43;have bq:=Er aQ (Eb zt 43);generalize hgt:aQ.heap.size=rY at jh;go_wp2_with (((with_reducible show Ib _ _ _ (⟨_,.alloc 43,_,_,_,Z⟩::_) _ _);(with_reducible refine ph ZT.out ?_ ?_ ?_);(·exact Eh O);(·rfl);refine Ex.mk ?_));apply Es;generalize aQ.alloc (Eb zt 43)=Elp at*;go_wp2_with ((with_reducible refine I3 43 ?_);(with_reducible refine OQ (g:=rY) (cs:=Iy) fK ?_ ?_ jh ?_ ?_ ?_ ?_);(·exact Eh O);(·exact⟨O,O,O⟩);(·exact uy.out);(·exact TS.out);(·exact TN.out);refine Ex.mk ?_);apply Es;have bs:=EY (g:=rY) bq U Iy;replace jh:=J<|jh.out.setRow Iy;generalize Elp.setRow rY Iy=dW at*;replace AL:=J<|AL.out.B MM.out bs;replace NK:=J<|Ew NK.out bs.size;replace MM:=J<|MM.out.B bs;replace EE:=J<|EE.out.B bs;replace u:=J<|u.out.trans (bs.mono (Ew a_.out LW.out));have LG:=J (show nb<=rY from M9);replace LW:=J<|Ew LW.out bs.size;replace OR:=J<|EG OR.out fun _ _ hk=>H.B hk bs;replace KT:=J<|KT.out.B bs;replace KS:=J<|KS.out.B bs;replace SR:=J<|SR.out.B bs;clear bq bs hgt;have TE2:Ed (Iy.extract 0 12=kZ c'):=J EJD;have T12:Ed (Iy[12]?=D (G A3 0 c3)):=J (by rw[TV.out];rfl);have T13:Ed (Iy[13]?=D (G A4 new2.length c4)):=J (by rw[TV.out];rfl);have rW:=NK;have bY:=J<|AL.out.own s S1.out S3.out;have mP:=J AL.out.Ek;have zj:=J<|X8 (EE.out.each x oY.out).2.2 (aO _);replace Pv:=J (show(X2 s).length<=1000000 from EJG);have zl:Ed (∀w',oT nk (Aa s) (X2 s).length x.1.b dW w'->w'.cell? ⟨be,i*10+2,Z⟩=D (.slice x.2.1 x.1.b.length x.2.2)):=J<|fun w' hb=>O9.EJs EE.out zg.out bY.out hb hlt rV.out 2 _ O;go_wp2_with fail;refine ZV ZU Ef 11 Ef Ej EU (oV nk ga s be i n ce (Aa s) (Ca s) dW (X2 s) x.2.1 x.1.b x.2.2) (fun j v w w' _ h hr=>oV.keep rW.out j v w w' h hr) ?_ ?_
       ·simp only[Xl,Is,Iq,EM,Ih,Ik,Ic,If,and_true];refine⟨?_,?_,?_,?_,?_,?_,?_,?_,?_,?_,?_⟩;all_goals intro v w' hb hd
        ·exact Epy
        ·exact Epy
        ·have d1:v 1=E I (s:Int):=hd.at 1 rfl;exact EpN
        ·have d1:v 2=V (D ⟨ga,s,Z⟩):=hd.at 2 rfl;have cc:w'.cell? ⟨ga,s,Z⟩=D (.slice (Aa s) (X2 s).length (Ca s)):=(H.cell (Uw hb.1 mP.out EU) s).trans (zd _ _ _ S1.out S3.out);exact Era
        ·exact Epy
        ·exact Epy
        ·exact Epi
        ·exact Eqw
        ·exact EpW
        ·have d1:v 3= .slice (Aa s) (X2 s).length (Ca s):=hd.at 3 rfl;exact Eox
        ·have d1:v 0=E I (s:Int):=hd.at 0 rfl;exact EpN
       ·intro v w1 hb hr;obtain⟨A1,c1,e9,hg,ho⟩:FA nk (Aa s) dW (X2 s) x.1.b (v 9) w1:=hr 9 U;have d10:v 10=V (D ⟨ga,s,Z⟩):=hr 10 U;simp only[Is,Iq,IT,IM,EM,Ih,Ik,Ic,If];rw[e9,d10,show v 0=E I (s:Int) from hr 0 U,show v 1=E I (s:Int) from hr 1 U,show v 2=V (D ⟨ga,s,Z⟩) from hr 2 U,show v 3= .slice (Aa s) (X2 s).length (Ca s) from hr 3 U];clear hr e9 d10 hb;have kb:=hg.Ek bY.out EU mP.out;have cc:w1.cell? ⟨ga,s,Z⟩=D (.slice (Aa s) (X2 s).length (Ca s)):=(H.cell kb s).trans (zd _ _ _ S1.out S3.out);have ff:w1.frozen? ⟨ga,s,Z⟩=EI:=H.JZ kb s;clear kb;go_upto_region 25 with fail
        have hb:=IU (w1.setCell ⟨ga,s,Z⟩ (G A1 ((X2 s).length+x.1.b.length) c1)).heap.size (w1.setCell ⟨ga,s,Z⟩ (G A1 ((X2 s).length+x.1.b.length) c1));have Y5:=J<|EJp hg bY.out mP.out hb;obtain⟨M2,jt⟩:=AL.out.grow MM.out KLT.out S1.out S3.out ho hg Gf.out Gd.out zi.out;rw[IY] at M2 jt;clear cc ff hb hg ho;generalize w1.setCell ⟨ga,s,Z⟩ (G A1 ((X2 s).length+x.1.b.length) c1)=w24 at*;clear w1;replace AL:=J jt;replace MM:=J M2;replace EE:Ed (O9 b0 w24 (D ⟨be,0,Z⟩) n ce es):=J ⟨EG EE.out.own fun _ _ hk=>Y5.out.1 _ _ _ EU EU hk,EE.out.len,fun x hx=>⟨(EE.out.each x hx).1,(EE.out.each x hx).2.1,Y5.out.2.1 _ _ _ _ (.inr (zg.out.2 x hx)) (EE.out.each x hx).2.2⟩⟩;replace KT:=J<|Y5.out.1 _ _ _ EU EU KT.out;replace jh:=J<|Y5.out.1 _ _ _ EU EU jh.out;replace KS:=J<|Y5.out.1 _ _ _ EU EU KS.out;replace SR:=J<|SR.out.keep fun _ _ hk=>Y5.out.1 _ _ _ EU EU hk;replace OR:=J<|EG OR.out fun _ _ hk=>Y5.out.1 _ _ _ EU EU hk;replace u:=J<|u.out.trans (Y5.out.2.2.1 n0 (Ew a_.out Gd.out) (Ew a_.out Gf.out) (Ew a_.out LW.out));replace NK:=J<|Ew NK.out Y5.out.2.2.2;replace LW:=J<|Ew LW.out Y5.out.2.2.2;rw[XS.out] at AL;clear M2 jt Y5 bY mP zj rW zl Px zk Py;generalize bV X2 s (X s++x.1.b++x.1.b)=X3 at*;generalize bV Aa s A1=Ab at*;generalize bV Ca s c1=Cb at*;have oq:=J MM.out.core.ok.q;refine ZV ER Ef 4 Ef Ej EU (GX nb g2 a c' c' j_ sv 0) (EkS _ _ _ _ _ _ _ _) ?_ ?_
        ·simp only[Xl,Is,Iq,EM,Ih,Ik,Ic,If,and_true];refine⟨?_,?_,?_,?_⟩;all_goals intro v w' hb hd
         ·exact zM ER (g:=gs) fY (Eh O) ⟨O,Ez⟩ (KS.out.B hb) SR.out.size O
         ·exact EnB
         ·have d1:v 1=V (D ⟨a.gm,0,Z⟩):=hd.at 1 rfl;refine J4 (f:=13) (args:= #[v 1]) (Eh O) Ez ?_;rw[d1];exact(EJj nb g2 a c' j_ w' (MM.out.B hb)).mono fun e w'' ⟨⟨fJ,he,h1⟩,hb'⟩=>⟨_,he,hb',fJ,O,h1.lower (aO _)⟩
         ·have d0:v 0=Ea sv:=hd.at 0 rfl;obtain⟨fJ,d2,h2⟩: ∃fJ,v 2=Ea fJ/\Z8 0 c' fJ w':=hd.at 2 rfl;refine J4 (f:=17) (args:= #[v 0,v 2]) (Eh O) Ez ?_;rw[d0,d2];exact(EkL _ 0 c' c' sv fJ w' (SR.out.B hb) h2 oq.out).mono fun e w'' ⟨⟨r,he,h1⟩,hb'⟩=>⟨_,he,hb',r,O,h1⟩
        ·intro v PA hb hr;obtain⟨rr,d3,hrr⟩: ∃r:Bool,v 3=Ec r/\(oy c' c'->r=EJ):=hr 3 U;simp only[Is,Iq,IT,IM,EM,Ih,Ik,Ic,If];rw[d3];obtain rfl:=hrr (oy.refl _);replace AL:=J<|AL.out.B MM.out hb;replace MM:=J<|MM.out.B hb;replace EE:=J<|EE.out.B hb;replace KT:=J<|KT.out.B hb;replace jh:=J<|jh.out.B hb;replace OR:=J<|EG OR.out fun _ _ hk=>H.B hk hb;replace u:=J<|u.out.trans (hb.mono (Ew a_.out LW.out));replace NK:=J<|Ew NK.out hb.size;replace LW:=J<|Ew LW.out hb.size;have NQ:Ed (∀W,(X5 .neq 38 (Ea (kZ c')) (Ea (kZ c'))).run EZ W= .ok (Ec EI) W):=J<|fun W=>EkP (EkN c' W);have AS1:=J<|EkM c';generalize kZ c'=av at*;have c12:PA.cell? ⟨rY,12,Z⟩=D (G A3 0 c3):=(jh.out.cell 12).trans T12.out;have c13:PA.cell? ⟨rY,13,Z⟩=D (G A4 new2.length c4):=(jh.out.cell 13).trans T13.out;have q9:((new2.length:Int) !=(its.length:Int))=EI:=by rw[HL9.out];simp
         clear hr d3 hb hrr KS SR ST;go_wp2_with (first|((with_reducible refine iX 38 ?_);(with_reducible refine nU (g:=rY) (off:=0) (cs:=av) rz ?_ ?_ jh ?_ ?_ ?_);(·(first|exact Eh rfl|exact fc rfl rfl rfl|(simp[JO,Jg];done)));(·exact⟨rfl,rfl⟩);(·exact AS1.out);(·exact TE2.out))|((with_reducible refine iX 38 ?_);(with_reducible refine nU (g:=gt) (off:=0) (cs:=av) rz ?_ ?_ KT ?_ ?_ ?_);(·(first|exact Eh rfl|exact fc rfl rfl rfl|(simp[JO,Jg];done)));(·exact⟨rfl,rfl⟩);(·exact AS1.out);(·exact TE1.out))|((with_reducible refine Io 159 ?_);(refine Jo (fc rfl rfl rfl) (EkR rfl Ef (NQ.out _) _ rfl rfl) ?_)));have HN5:=J (show new2.length<=120 by rw[HL9.out];exact dI.out);clear c12 q9 NQ;go_loopw[22] (fun y wr2=> ∃k:Nat,k<=new2.length/\y=E I k/\PA=wr2) (fun y _=>new2.length-(In y).toNat);case atStart=>exact⟨0,U,O,O⟩
         case round=>
          obtain⟨k,hk,rfl,rfl⟩:=hrel;have h5:=HN5.out;by_cases hl2:k<new2.length;·have t2:decide ((k:Int)<(new2.length:Int))=EJ:=IJ U;obtain⟨r,hr⟩: ∃r,new2[k]?=D r:=⟨_,JV hl2⟩;obtain⟨g9,hA4,h1,h2,r0,-,-⟩:=EkH OR.out hr;subst hA4;rw[HRJ.out r (aD hr)] at r0;clear hr;go_wp2_with fail;exact⟨⟨k+1,U,Ej,trivial⟩,Jb⟩
          ·have t2:decide ((k:Int)<(new2.length:Int))=EI:=IZ U;go_wp2_with fail;exact⟨⟨i+1,c',j_,Ab,Cb,X3,U,Ej,MM.out,AL.out.more U,PS2.out,EE.out,u.out,NK.out⟩,Jb⟩
  ·have t1:decide ((i:Int)<(n:Int))=EI:=IZ U;go_wp2;go_ret;exact Eqt
end Go.Proofs.YtclmichaaiohjaaGreatDoor
