import Derived.Test.YtclmichaaiohjaaGreatDoorU10
import Derived.LoopTactic
set_option maxRecDepth 100000
set_option linter.unusedVariables false
set_option linter.unusedSimpArgs false
set_option maxHeartbeats 6400000
namespace Go.Proofs.YtclmichaaiohjaaGreatDoor
open RowKit
open And renaming intro->JR
open _root_.Array renaming replicate->au,getElem?_eq_some_iff->J4
open Bool renaming true->EI,false->V,and_eq_true->UJ
open Go renaming World->M,Calls->Eg,TypeId->Ez,Value->G,Addr->Ev,Program->Jd,bodyPost_ret->EV,binOp->XG,Act->E2,Oper->EG,wpQuiet->Xd,yielded->Ja,execOp->Ig,wpList->Ih,undef->Iv,Operand->JN,below_setRow->E6,wpQuiet_nil->I2
open Act renaming put->Ic
open Code renaming region->Z3
open Ending renaming returned->Eh
open Instr renaming loadAt->dZ,sureAddr->bI
open IntKind renaming i64->I
open Lib renaming hid->J
open Obj renaming cells->Ec
open Oper renaming quietAt->ik
open Go.Proofs.Tryz renaming prog->Ea
open Region renaming wanted->I8,binds->Ur
open Result renaming andThen_ok->On
open RowKit renaming Below->Ir,Hid->Ed,intOf->I5
open RowKit.Below renaming refl->E_
open Sem renaming run_bind->Om,run_pure->Oa
open Value renaming bool->EU,int->E,agg->EZ,slice->EJ,pointer->Y
open World renaming block_lt_of_cell?->UV
open List renaming getElem?_eq_none->am,getElem?_eq_getElem->JY,mem_cons_of_mem->Z5,mem_cons_self->fG,all_eq_true->XJ,mem_iff_getElem?->da,cons_append->lI,take_append_drop->dR,take_succ_cons->Is,length_take->ZJ,getD_eq_getElem?_getD->Uj,getElem?_append_left->bO,getElem?_append_right->ay,take_zero->Io,mem_map->bc,getElem?_toArray->J0,setIfInBounds_toArray->Ii,flatMap_cons->nA,getElem_mem->dW,getElem?_map->ls,set_cons_succ->IJ,set_cons_zero->IU,nil_append->cX,getElem?_cons_zero->jt,drop_succ_cons->IS,drop_zero->IM,take_add_one->lL,mem_of_getElem?->cG,mem_singleton->mw
open Nat renaming lt_or_ge->JW,le_trans->EB,le_refl->E9,zero_add->J9,zero_le->fL
open Ne renaming symm->X1
open Option renaming some->X,none->Z
open Option.some renaming inj->cI,injEq->lK
variable{w W w':M}{n c i d k g off:Nat}{A:Option Ev}{xs cs big ys:Array G}{a:E2}{v:G}{T TB Y3:Ez}{x y:JN}{o1 o2 o3 o4:EG}{s:Bool}{l:List EG}{P:Jd}{ops:Array EG}{C:M->Prop}{Q K:E2->Prop}{Jc:List (Array G)}
theorem ints_at{b:Nat}{xs:List Int}(h:w.ownsRow b 3 1 (EJ A n c) n (UK xs))(hn:xs.length=n)(hi:i<n): ∃g,A=X ⟨g,0,Z⟩/\g<w.heap.size/\w.cell? ⟨g,i,Z⟩=X (E I (xs.getD i 0))/\n<=c:=by
 rcases h.2 with⟨hv,h0⟩|⟨g,cap,cur,hv,hb,hh,hc,hrest⟩;·omega
 ·injection hv with e1 e2 e3;subst e1 e3;refine⟨g,U,(J4.1 hh).1,?_,hc⟩;rw[h.cellAt i D,UK,ls,JY D,Uj,JY D];rfl
theorem Ehn(b1 b2:Nat)(A Y4:Option Ev)(n m c d:Nat)(xs ys:List Int)(w:M)(LF:n<=1000)(hn:xs.length=n)(hm:ys.length=m)(h1:w.ownsRow b1 3 1 (EJ A n c) n (UK xs))(h2:w.ownsRow b2 3 1 (EJ Y4 m d) m (UK ys)): Eg Ea 37 #[EJ A n c,EJ Y4 m d] w fun e w'=>(∃r:Bool,e=Eh (EU r)/\(xs=ys->r=EI))/\Ir w.heap.size w w':=by
 have R1:=J h1;have R2:=J h2;have HN:=J hn;have HM:=J hm;clear h1 h2 hn hm;go_enter Tryz.func37,Tryz.ntmps37;by_cases e0:n=m
 ·subst e0;go_wp2_with fail;go_loopw[5] (fun Y3 wr=> ∃i:Nat,Y3=E I i/\i<=n/\Ir w.heap.size w wr) (fun Y3 _=>n-(I5 Y3).toNat);case atStart=>exact⟨0,U,fL _,E_ _ _⟩
  case round=>
   obtain⟨i,rfl,hin,B⟩:=hrel;replace B:=J B;by_cases hlt:i<n
   ·have t8:decide ((i:Int)<(n:Int))=EI:=IE D;obtain⟨g1,hA,l1,c1,hc1⟩:=ints_at R1.out HN.out hlt;obtain⟨g2,hB,l2,c2,hc2⟩:=ints_at R2.out HM.out hlt;subst hA hB;replace c1:=(B.out.cell (p:=⟨g1,i,Z⟩) l1).trans c1;replace c2:=(B.out.cell (p:=⟨g2,i,Z⟩) l2).trans c2;obtain⟨x,hx⟩:=Eo (xs.getD i 0);obtain⟨y,hy⟩:=Eo (ys.getD i 0);rw[<-hx] at c1;rw[<-hy] at c2;have HXY:=J (show xs=ys->x=y from fun e=>by rw[hx,hy,e]);clear hx hy l1 l2;rcases hb:(x !=y) with _|_
    ·go_wp2_with fail;go_quiet (fail);go_wp2_with fail;go_roundw;case rel=>exact⟨i+1,U,D,iO B.out _⟩
     case measure=>simp[I5];omega
    ·go_wp2_with fail;go_quiet (fail);go_wp2;go_ret;exact⟨⟨V,U,fun h=>by rw[HXY.out h] at hb;simp at hb⟩,iO B.out _⟩
   ·have t8:decide ((i:Int)<(n:Int))=V:=Ia D;go_wp2;go_ret;exact⟨⟨EI,U,fun _=>rfl⟩,B.out⟩
 ·have t1:((n:Int) !=(m:Int))=EI:=Jm;go_wp2;go_ret;exact⟨⟨V,U,fun h=>absurd (by rw[<-HN.out,<-HM.out,h]) e0⟩,E_ _ _⟩
section
variable{P:Program}{ops:Array Oper}{Q:Exit->Act->World->Prop}{w:World}{rest:List Oper}
theorem Z1(h:k≠d):(a.put (X d) v).tmps[k]?=a.tmps[k]?:=by simp[Ic,Array.getElem?_setIfInBounds,X1 h]
theorem jO(h:d<a.tmps.size):(a.put (X d) v).tmps[d]?=X v:=by simp[Ic,h]
theorem size_put:(a.put (X d) v).tmps.size=a.tmps.size:=by simp[Ic]
theorem LH{d:Option Tmp}:(a.put d v).defers=a.defers:=by cases d<;>rfl
theorem dQ(h:a.tmps[k]?=X v):a.eval (.tmp k)=v:=by simp[Act.eval,h]
theorem nO{o:EG}(hT:IF P T n)(ho:o.op= .load T x)(hg:H w g big TB)(hn:cs.size=n)(he:big.extract off (off+n)=cs)(ev:JN->G)(hx:ev x=Y (X ⟨g,off,Z⟩)):(Ig ev o).run P w= .ok (.value (EZ cs)) w:=by obtain⟨⟨d,hu,hd⟩,hi⟩:=hT;subst he;have hrun:=run_loadVar_mid w g off T _ d (World.rangeAt_of_block hg off n) hu jm sV;exact ElO
theorem wT{o:EG}{r:Bool}(ho:o.op= .binOp .eql T x y Y3)(hm:P.eqGuardType P.depth T=V)(hq:(XG .eql T (EZ xs) (EZ ys)).run P w= .ok (EU r) w)(ev:JN->G)(h1:ev x=EZ xs)(h2:ev y=EZ ys):(Ig ev o).run P w= .ok (.value (EU r)) w:=by exact EnU
structure Ys(N k:Nat)(px py:G)(r:Bool)(a:E2):Prop where
 sz:a.tmps.size=N
 df:a.defers=[]
 t2:a.tmps[2]?=X px
 t3:a.tmps[3]?=X py
 tk:a.tmps[k]?=X (EU r)
theorem kF{o0 o5 o6:EG}{N i0:Nat}{px py p1 p2 v1 v2:G}{r:Bool}(A:Ys N k px py r a)(hk:k<d)(h3:3<d)(hN:d+6<N) (a0:o0.op= .move (.tmp k)) (b0:o0.guard=Z) (c0:o0.dst=X d) (hd:(ops[i0]?).bind (·.dst)=X d) (b1:o1.guard=X (i0,EI)) (c1:o1.dst=X (d+1)) (b2:o2.guard=X (i0,EI)) (c2:o2.dst=X (d+2)) (b3:o3.guard=X (i0,EI)) (c3:o3.dst=X (d+3)) (b4:o4.guard=X (i0,EI)) (c4:o4.dst=X (d+4)) (b5:o5.guard=X (i0,EI)) (c5:o5.dst=X (d+5)) (a6:o6.op= .pick (.tmp d) (.tmp (d+5)) (.const (EU V))) (b6:o6.guard=Z) (c6:o6.dst=X (d+6)) (H1: ∀ev:JN->G,ev (.tmp 2)=px->(Ig ev o1).run P w= .ok (.value p1) w) (H2: ∀ev:JN->G,ev (.tmp (d+1))=p1->(Ig ev o2).run P w= .ok (.value v1) w) (H3: ∀ev:JN->G,ev (.tmp 3)=py->(Ig ev o3).run P w= .ok (.value p2) w) (H4: ∀ev:JN->G,ev (.tmp (d+3))=p2->(Ig ev o4).run P w= .ok (.value v2) w) (H5: ∀ev:JN->G,ev (.tmp (d+2))=v1->ev (.tmp (d+4))=v2->(Ig ev o5).run P w= .ok (.value (EU s)) w) (h: ∀a',Ys N (d+6) px py (r&&s) a'->Ih P ops Q rest a' w):Ih P ops Q (o0::o1::o2::o3::o4::o5::o6::rest) a w:=by
 have hs:=A.sz;have e0:(Ig a.eval o0).run P w= .ok (.value (EU r)) w:=by unfold Ig;simp[a0,dQ A.tk]
 refine Jq (Ei b0) e0 ?_;rw[c0];have z0:((a.put (X d) (EU r)).tmps[d]?)=X (EU r):=jO D;have H6: ∀(ev:JN->G) (r:Bool) (x:G),ev (.const (EU V))=EU V->ev (.tmp d)=EU r->ev (.tmp (d+5))=x->(Ig ev o6).run P w= .ok (.value (if r then x else EU V)) w:=fun ev r x h0 h1 h2=>by unfold Ig;cases r<;>simp[go_sem,a6,h0,h1,h2]
 cases r;·have no: ∀(o:EG) (a':E2),o.guard=X (i0,EI)->a'.tmps[d]?=X (EU V)->I8 o (Ja ops a'.tmps)=V:=fun o a' h1 h2=>Xf h1 hd h2 U;refine wpList_skip (no _ _ b1 z0) ?_;rw[c1];refine wpList_skip (no _ _ b2 (by rw[Z1 D];exact z0)) ?_;rw[c2];refine wpList_skip (no _ _ b3 (by rw[Z1 D,Z1 D];exact z0)) ?_;rw[c3];refine wpList_skip (no _ _ b4 (by rw[Z1 D,Z1 D,Z1 D];exact z0)) ?_;rw[c4];refine wpList_skip (no _ _ b5 (by rw[Z1 D,Z1 D,Z1 D,Z1 D];exact z0)) ?_;rw[c5];refine Jq (v:=EU V) (Ei b6) (H6 _ V _ U (dQ sC) U) ?_;exact EmV
 ·have yes: ∀(o:EG) (a':E2),o.guard=X (i0,EI)->a'.tmps[d]?=X (EU EI)->I8 o (Ja ops a'.tmps)=EI:=fun o a' h1 h2=>iU h1 hd h2;refine Jq (yes _ _ b1 z0) (H1 _ (dQ LL)) ?_;rw[c1];refine Jq (yes _ _ b2 sC) (H2 _ (dQ (jO nU))) ?_;rw[c2];refine Jq (yes _ _ b3 sC) (H3 _ (dQ LM)) ?_;rw[c3];refine Jq (yes _ _ b4 sC) (H4 _ (dQ (jO nU))) ?_;rw[c4];refine Jq (yes _ _ b5 sC) (H5 _ (dQ (by rw[Z1 D,Z1 D];exact jO nU)) (dQ (jO nU))) ?_;rw[c5];refine Jq (v:=EU s) (Ei b6) (H6 _ EI (EU s) U (dQ sC) (dQ (jO nU))) ?_;exact EmV
end
structure wV where
 (h:Nat->Int)
 (o:Nat->Bool)
 (r:Nat->Int)
 b:Bool
def b_(x:wV)(q:G):Array G:= #[E I (x.h 0),E I (x.h 1),E I (x.h 2),E I (x.h 3),E I (x.h 4),E I (x.h 5),E I (x.h 6),E I (x.h 7),E I (x.h 8),E I (x.h 9),E I (x.h 10),E I (x.h 11),E I (x.h 12),E I (x.h 13),E I (x.h 14),E I (x.h 15),E I (x.h 16),E I (x.h 17),E I (x.h 18),q,EU (x.o 0),EU (x.o 1),EU (x.o 2),EU (x.o 3),EU (x.o 4),E I (x.r 0),E I (x.r 1),E I (x.r 2),E I (x.r 3),E I (x.r 4),EU x.b]
structure wV.same(x y:wV):Prop where
 h: ∀i,i<19->x.h i=y.h i
 o: ∀i,i<5->x.o i=y.o i
 r: ∀i,i<5->x.r i=y.r i
 b:x.b=y.b
theorem Yt:IF Ea 36 3:=⟨⟨_,Tryz.underlying36,U⟩,Ef⟩
theorem Yu:IF Ea 50 12:=⟨⟨_,Tryz.underlying50,U⟩,Ef⟩
theorem Yv:IF Ea 52 5:=⟨⟨_,Tryz.underlying52,U⟩,Ef⟩
theorem Yw:IF Ea 22 5:=⟨⟨_,Tryz.underlying22,U⟩,Ef⟩
theorem Ehp(x y:wV)(b1 b2:Nat)(A Y4:Option Ev)(n m c d:Nat)(xs ys:List Int)(w:M)(LF:n<=1000)(hn:xs.length=n)(hm:ys.length=m)(h1:w.ownsRow b1 3 1 (EJ A n c) n (UK xs))(h2:w.ownsRow b2 3 1 (EJ Y4 m d) m (UK ys)): Eg Ea 17 #[EZ (b_ x (EJ A n c)),EZ (b_ y (EJ Y4 m d))] w fun e w'=>(∃r:Bool,e=Eh (EU r)/\(x.same y->xs=ys->r=EI))/\Ir w.heap.size w w':=by
 have bb:=J3 w (Ec (b_ x (EJ A n c)) 54) (Ec (b_ y (EJ Y4 m d)) 54);have R1:=J<|EQ h1 fun _ _ hk=>H.u hk bb;have R2:=J<|EQ h2 fun _ _ hk=>H.u hk bb;have LS:=J<|JR LF (JR hn hm);have Cj:=J<|(H.new w (b_ x (EJ A n c)) 54).u (Er (w.alloc (Ec (b_ x (EJ A n c)) 54)) (Ec (b_ y (EJ Y4 m d)) 54));have Ck:Ed (H ((w.alloc (Ec (b_ x (EJ A n c)) 54)).alloc (Ec (b_ y (EJ Y4 m d)) 54)) (w.heap.size+1) (b_ y (EJ Y4 m d)) 54):=J (by have:=H.new (w.alloc (Ec (b_ x (EJ A n c)) 54)) (b_ y (EJ Y4 m d)) 54;simpa using this);have B:=J bb;obtain⟨xv,hxv⟩: ∃xv,xv=b_ x (EJ A n c):=⟨_,U⟩;obtain⟨yv,hyv⟩: ∃yv,yv=b_ y (EJ Y4 m d):=⟨_,U⟩;rw[<-hxv,<-hyv] at Cj Ck B R1 R2;rw[<-hxv,<-hyv];have HX:=J hxv;have HY:=J hyv;clear hn hm h1 h2 LF hxv hyv bb;go_enter Tryz.func17,Tryz.ntmps17;have cx:((w.alloc (Ec xv 54)).alloc (Ec yv 54)).cell? ⟨w.heap.size,19,Z⟩=X (EJ A n c):=(Cj.out.cell 19).trans jU;have cy:((w.alloc (Ec xv 54)).alloc (Ec yv 54)).cell? ⟨w.heap.size+1,19,Z⟩=X (EJ Y4 m d):=(Ck.out.cell 19).trans jX;generalize hc:Z3 2 _ _=c2;go_wp2_with fail;refine(Ehn b1 b2 A Y4 n m c d xs ys _ LS.out.1 LS.out.2.1 LS.out.2.2 R1.out R2.out).mono ?_;rintro e w3 ⟨⟨r0,rfl,hr0⟩,b3⟩;have KX:=J<|Cj.out.u b3;have KY:=J<|Ck.out.u b3;have B3:=EW B b3;clear cx cy b3 Cj Ck B R1 R2;obtain⟨gx,hgx⟩:=Eo w.heap.size;obtain⟨gy,Yx⟩:=Eo (w.heap.size+1);rw[<-Yx] at KY⊢;rw[<-hgx] at KX⊢;clear hgx Yx;have x0:w3.cell? ⟨gx,0,Z⟩=X (E I (x.h 0)):=(KX.out.cell 0).trans jU;have y0:w3.cell? ⟨gy,0,Z⟩=X (E I (y.h 0)):=(KY.out.cell 0).trans jX;have x1:w3.cell? ⟨gx,1,Z⟩=X (E I (x.h 1)):=(KX.out.cell 1).trans jU;have y1:w3.cell? ⟨gy,1,Z⟩=X (E I (y.h 1)):=(KY.out.cell 1).trans jX;have x2:w3.cell? ⟨gx,2,Z⟩=X (E I (x.h 2)):=(KX.out.cell 2).trans jU;have y2:w3.cell? ⟨gy,2,Z⟩=X (E I (y.h 2)):=(KY.out.cell 2).trans jX;have x3:w3.cell? ⟨gx,3,Z⟩=X (E I (x.h 3)):=(KX.out.cell 3).trans jU;have y3:w3.cell? ⟨gy,3,Z⟩=X (E I (y.h 3)):=(KY.out.cell 3).trans jX;have x30:w3.cell? ⟨gx,30,Z⟩=X (EU x.b):=(KX.out.cell 30).trans jU;have y30:w3.cell? ⟨gy,30,Z⟩=X (EU y.b):=(KY.out.cell 30).trans jX;obtain⟨r4,q4,h4⟩:=Ehk (x.h 4) (x.h 5) (x.h 6) (y.h 4) (y.h 5) (y.h 6) w3;obtain⟨r7,q7,h7⟩:=Ehi (x.h 7) (x.h 8) (x.h 9) (x.h 10) (x.h 11) (x.h 12) (x.h 13) (x.h 14) (x.h 15) (x.h 16) (x.h 17) (x.h 18) (y.h 7) (y.h 8) (y.h 9) (y.h 10) (y.h 11) (y.h 12) (y.h 13) (y.h 14) (y.h 15) (y.h 16) (y.h 17) (y.h 18) w3;obtain⟨wW,q20,h20⟩:=Ehl x.o y.o w3;obtain⟨wY,q25,oC⟩:=Ehm x.r y.r w3;have h0:x.same y->r4=EI/\r7=EI/\wW=EI/\wY=EI:=fun s=>⟨h4 ⟨s.h 4 D,s.h 5 D,s.h 6 D⟩,h7 ⟨s.h 7 D,s.h 8 D,s.h 9 D,s.h 10 D,s.h 11 D,s.h 12 D,s.h 13 D,s.h 14 D,s.h 15 D,s.h 16 D,s.h 17 D,s.h 18 D⟩,h20 ⟨s.o 0 D,s.o 1 D,s.o 2 D,s.o 3 D,s.o 4 D⟩,oC ⟨s.r 0 D,s.r 1 D,s.r 2 D,s.r 3 D,s.r 4 D⟩⟩;have H0:=J h0;have HR:=J hr0;clear h4 h7 h20 oC h0 hr0;have HC:=J hc;clear hc;go_wp2_with fail;rw[<-HC.out];refine wp_region_lit ?_;simp only[List.append_eq,lI,cX];refine Jq (v:=EU r0) (Ei U) U ?_;refine kF (N:=75) (k:=11) (d:=12) (i0:=1) (px:=Y (X ⟨gx,0,Z⟩)) (py:=Y (X ⟨gy,0,Z⟩)) (p1:=Y (X ⟨gx,0,Z⟩)) (p2:=Y (X ⟨gy,0,Z⟩)) (v1:=E I (x.h 0)) (v2:=E I (y.h 0)) (s:=(x.h 0==y.h 0)) ⟨U,U,U,U,U⟩ Eb Eb Eb U U U U U U U U U U U U U U U U U ?_ ?_ ?_ ?_ ?_ fun a1 A1=> ?_;·exact Elx
 ·exact fun ev h=>by unfold Ig;simp[go_sem,h,x0]
 ·exact Elx
 ·exact fun ev h=>by unfold Ig;simp[go_sem,h,y0]
 ·exact Eny
 refine kF (N:=75) (k:=18) (d:=19) (i0:=8) (px:=Y (X ⟨gx,0,Z⟩)) (py:=Y (X ⟨gy,0,Z⟩)) (p1:=Y (X ⟨gx,1,Z⟩)) (p2:=Y (X ⟨gy,1,Z⟩)) (v1:=E I (x.h 1)) (v2:=E I (y.h 1)) (s:=(x.h 1==y.h 1)) A1 Eb Eb Eb U U U U U U U U U U U U U U U U U ?_ ?_ ?_ ?_ ?_ fun a2 A2=> ?_;·exact Elx
 ·exact fun ev h=>by unfold Ig;simp[go_sem,h,x1]
 ·exact Elx
 ·exact fun ev h=>by unfold Ig;simp[go_sem,h,y1]
 ·exact Eny
 refine kF (N:=75) (k:=25) (d:=26) (i0:=15) (px:=Y (X ⟨gx,0,Z⟩)) (py:=Y (X ⟨gy,0,Z⟩)) (p1:=Y (X ⟨gx,2,Z⟩)) (p2:=Y (X ⟨gy,2,Z⟩)) (v1:=E I (x.h 2)) (v2:=E I (y.h 2)) (s:=(x.h 2==y.h 2)) A2 Eb Eb Eb U U U U U U U U U U U U U U U U U ?_ ?_ ?_ ?_ ?_ fun a3 A3=> ?_;·exact Elx
 ·exact fun ev h=>by unfold Ig;simp[go_sem,h,x2]
 ·exact Elx
 ·exact fun ev h=>by unfold Ig;simp[go_sem,h,y2]
 ·exact Eny
 refine kF (N:=75) (k:=32) (d:=33) (i0:=22) (px:=Y (X ⟨gx,0,Z⟩)) (py:=Y (X ⟨gy,0,Z⟩)) (p1:=Y (X ⟨gx,3,Z⟩)) (p2:=Y (X ⟨gy,3,Z⟩)) (v1:=E I (x.h 3)) (v2:=E I (y.h 3)) (s:=(x.h 3==y.h 3)) A3 Eb Eb Eb U U U U U U U U U U U U U U U U U ?_ ?_ ?_ ?_ ?_ fun a4 A4=> ?_;·exact Elx
 ·exact fun ev h=>by unfold Ig;simp[go_sem,h,x3]
 ·exact Elx
 ·exact fun ev h=>by unfold Ig;simp[go_sem,h,y3]
 ·exact Eny
 refine kF (N:=75) (k:=39) (d:=40) (i0:=29) (px:=Y (X ⟨gx,0,Z⟩)) (py:=Y (X ⟨gy,0,Z⟩)) (p1:=Y (X ⟨gx,4,Z⟩)) (p2:=Y (X ⟨gy,4,Z⟩)) (v1:=EZ #[E I (x.h 4),E I (x.h 5),E I (x.h 6)]) (v2:=EZ #[E I (y.h 4),E I (y.h 5),E I (y.h 6)]) (s:=r4) A4 Eb Eb Eb U U U U U U U U U U U U U U U U U ?_ ?_ ?_ ?_ ?_ fun a5 A5=> ?_;·exact Elx
 ·exact fun ev h=>nO Yt U KX.out U jU ev h
 ·exact Elx
 ·exact fun ev h=>nO Yt U KY.out U jX ev h
 ·exact fun ev h1 h2=>wT U Ef q4 ev h1 h2
 refine kF (N:=75) (k:=46) (d:=47) (i0:=36) (px:=Y (X ⟨gx,0,Z⟩)) (py:=Y (X ⟨gy,0,Z⟩)) (p1:=Y (X ⟨gx,7,Z⟩)) (p2:=Y (X ⟨gy,7,Z⟩)) (v1:=EZ #[E I (x.h 7),E I (x.h 8),E I (x.h 9),E I (x.h 10),E I (x.h 11),E I (x.h 12),E I (x.h 13),E I (x.h 14),E I (x.h 15),E I (x.h 16),E I (x.h 17),E I (x.h 18)]) (v2:=EZ #[E I (y.h 7),E I (y.h 8),E I (y.h 9),E I (y.h 10),E I (y.h 11),E I (y.h 12),E I (y.h 13),E I (y.h 14),E I (y.h 15),E I (y.h 16),E I (y.h 17),E I (y.h 18)]) (s:=r7) A5 Eb Eb Eb U U U U U U U U U U U U U U U U U ?_ ?_ ?_ ?_ ?_ fun a6 A6=> ?_;·exact Elx
 ·exact fun ev h=>nO Yu U KX.out U jU ev h
 ·exact Elx
 ·exact fun ev h=>nO Yu U KY.out U jX ev h
 ·exact fun ev h1 h2=>wT U Ef q7 ev h1 h2
 refine kF (N:=75) (k:=53) (d:=54) (i0:=43) (px:=Y (X ⟨gx,0,Z⟩)) (py:=Y (X ⟨gy,0,Z⟩)) (p1:=Y (X ⟨gx,20,Z⟩)) (p2:=Y (X ⟨gy,20,Z⟩)) (v1:=EZ #[EU (x.o 0),EU (x.o 1),EU (x.o 2),EU (x.o 3),EU (x.o 4)]) (v2:=EZ #[EU (y.o 0),EU (y.o 1),EU (y.o 2),EU (y.o 3),EU (y.o 4)]) (s:=wW) A6 Eb Eb Eb U U U U U U U U U U U U U U U U U ?_ ?_ ?_ ?_ ?_ fun a7 A7=> ?_;·exact Elx
 ·exact fun ev h=>nO Yv U KX.out U jU ev h
 ·exact Elx
 ·exact fun ev h=>nO Yv U KY.out U jX ev h
 ·exact fun ev h1 h2=>wT U Ef q20 ev h1 h2
 refine kF (N:=75) (k:=60) (d:=61) (i0:=50) (px:=Y (X ⟨gx,0,Z⟩)) (py:=Y (X ⟨gy,0,Z⟩)) (p1:=Y (X ⟨gx,25,Z⟩)) (p2:=Y (X ⟨gy,25,Z⟩)) (v1:=EZ #[E I (x.r 0),E I (x.r 1),E I (x.r 2),E I (x.r 3),E I (x.r 4)]) (v2:=EZ #[E I (y.r 0),E I (y.r 1),E I (y.r 2),E I (y.r 3),E I (y.r 4)]) (s:=wY) A7 Eb Eb Eb U U U U U U U U U U U U U U U U U ?_ ?_ ?_ ?_ ?_ fun a8 A8=> ?_;·exact Elx
 ·exact fun ev h=>nO Yw U KX.out U jU ev h
 ·exact Elx
 ·exact fun ev h=>nO Yw U KY.out U jX ev h
 ·exact fun ev h1 h2=>wT U Ef q25 ev h1 h2
 refine kF (N:=75) (k:=67) (d:=68) (i0:=57) (px:=Y (X ⟨gx,0,Z⟩)) (py:=Y (X ⟨gy,0,Z⟩)) (p1:=Y (X ⟨gx,30,Z⟩)) (p2:=Y (X ⟨gy,30,Z⟩)) (v1:=EU x.b) (v2:=EU y.b) (s:=(x.b==y.b)) A8 Eb Eb Eb U U U U U U U U U U U U U U U U U ?_ ?_ ?_ ?_ ?_ fun a9 A9=> ?_;·exact Elx
 ·exact fun ev h=>by unfold Ig;simp[go_sem,h,x30]
 ·exact Elx
 ·exact fun ev h=>by unfold Ig;simp[go_sem,h,y30]
 ·exact Eny
 have ev9:=dQ A9.tk;refine Jq (v:=EU (((((((((r0&&(x.h 0==y.h 0))&&(x.h 1==y.h 1))&&(x.h 2==y.h 2))&&(x.h 3==y.h 3))&&r4)&&r7)&&wW)&&wY)&&(x.b==y.b))) (w':=w3) (Ei U) (by unfold Ig;simp only[ev9,Oa]) ?_;refine‹∀(a:E2) (w:M),Code.wp Ea Code.ret _ a w->_› _ _ ?_;refine wp_ret ?_;refine EV (v:=EU (((((((((r0&&(x.h 0==y.h 0))&&(x.h 1==y.h 1))&&(x.h 2==y.h 2))&&(x.h 3==y.h 3))&&r4)&&r7)&&wW)&&wY)&&(x.b==y.b))) ((results_tmp U _ _ _).trans (by have h9:=jO (a:=a9) (d:=4) (v:=EU (((((((((r0&&(x.h 0==y.h 0))&&(x.h 1==y.h 1))&&(x.h 2==y.h 2))&&(x.h 3==y.h 3))&&r4)&&r7)&&wW)&&wY)&&(x.b==y.b))) (by rw[A9.sz];decide);rw[Array.getD_eq_getD_getElem?,h9];rfl)) (by rw[LH,A9.df]) ⟨⟨_,U,fun s e=> ?_⟩,B3.out⟩;obtain⟨h1,h2,h3,h4⟩:=H0.out s;simp[HR.out e,h1,h2,h3,h4,s.h 0 D,s.h 1 D,s.h 2 D,s.h 3 D,s.b]
section
variable{P:Program}{ops:Array Oper}{Q:Exit->Act->World->Prop}
theorem Yy: ∀(l:List EG) (i:Nat) (x:Nat->G) (a:E2),(ED l i x a).tmps.size=a.tmps.size
 |[],_,_,_=>rfl
 |o::l,i,x,a=>by unfold ED;rw[Yy l (i+1) x _];unfold Ic;split<;>simp
theorem Ehu(hn:(J8 l).Nodup)(x:Nat->G)(a:E2){o:EG}{d:Tmp}(ho:l[i]?=X o)(hd:o.dst=X d)(hs:d<a.tmps.size):(ED l 0 x a).tmps.getD d Iv=x i:=by
 have h:=kW l 0 i x a o (x i) hn ho;rw[J9,show J7 x i (x i)=x by funext j;unfold J7;split<;>simp_all] at h;rw[<-h,hd];have hs2:d<(ED l 0 x a).tmps.size:=by rw[Yy];exact hs
 simp[Ic,hs2]
theorem Ehv{F:(Nat->G)->E2}{R:Nat->G->M->Prop}{o:EG}{x:Nat->G}(h:YieldsIn P ops (fun w'=> ∃z,w'=EA w z) o v (F x))(hr: ∀w',R i v w'):bJ Jn P ops Q F R i o x w:=by
 unfold bJ;rcases h with⟨hw,h⟩|⟨hw,rfl⟩;·rw[if_pos hw];refine Oper.wp_of_quiet (C:=fun w'=> ∃z,w'=EA w z) (K:=fun a'=>a'=(F x).put o.dst v) ⟨⟨w,E_ _ _⟩,U⟩ (fun a' w' hw' ha'=> ?_) ⟨v,h,U⟩;obtain⟨z,rfl⟩:=hw';exact⟨v,ha',EL z,hr _⟩
 ·rw[if_neg DX];exact hr _
def Yz(l:List EG)(m n:Nat):Bool:=qj l (m+1)&&(l.take m).all fun o=>match o.dst with|some d=>decide (d<n)|none=>false
theorem Ehw{id:Nat}{a0:E2}{w0:M}(m:Nat)(hm:P.follows .mixedOrders=EI)(hB:Yz l m a0.tmps.size=EI){zs:Array G}{om:EG}(YA:l[m]?=X om)(hz:Ow P T zs)(hop:om.op= .alloc T)(hgd:om.guard=Z) (Y9: ∃aF,(∀W,Jn w0 W->Xd P l.toArray (fun w'=> ∃z,w'=EA W z) (fun a'=>a'=aF) (l.take m) a0)/\ ∀g w',Jn w0 w'->H w' g zs T->w0.heap.size<=g->Ih P l.toArray Q (l.drop (m+1)) (aF.put om.dst (Y (X ⟨g,0,Z⟩))) w'):(Z3 id l.toArray EI).wp P Q a0 w0:=by
 obtain⟨aF,h,hend⟩:=Y9;simp only[Yz,qj,UJ,decide_eq_true_eq] at hB;obtain⟨⟨⟨⟨⟨hB,hmn⟩,hsel⟩,hnd⟩,hap⟩,hds⟩:=hB;have hml:m<l.length:=D;have htake:l.take (m+1)=l.take m++[om]:=by rw[lL,YA];rfl
 have hdst:J8 (l.take (m+1))=J8 (l.take m)++J8 [om]:=by rw[htake];unfold J8;rw[List.filterMap_append]
 have Ehx:(J8 (l.take m)).Nodup:=by rw[hdst] at hnd;exact(List.nodup_append.1 hnd).1
 have hlen:(l.take m).length=m:=ng;have htk: ∀i o,i<m+1->l.toArray[i]?=X o->(l.take (m+1))[i]?=X o:=fun i o hi ho=>by exact EmO
 have hY: ∀W,Jn w0 W-> ∃y:Nat->G,(∀k o,(l.take m)[k]?=X o->YieldsIn P l.toArray (fun w'=> ∃z,w'=EA W z) o (y k) (ED ((l.take m).take k) 0 y a0))/\ED (l.take m) 0 y a0=aF/\ ∀i,i<m->y i=held (l.take m) aF i:=by
  intro W hW;obtain⟨y,hy,hK⟩:=xi (l.take m) 0 a0 (h W hW);refine⟨y,fun k o ho=>by have:=hy k o ho;rwa [J9] at this,hK,fun i hi=> ?_⟩;have hil:i<(l.take m).length:=D;have ho:(l.take m)[i]?=X (l.take m)[i]:=JY hil;have hd:=XJ.1 hds _ (dW hil);unfold held;rw[ho];generalize (l.take m)[i]=p at*;split at hd;·rename_i d hd2;simp only[hd2];rw[<-hK,Ehu Ehx y a0 ho hd2 (by simpa using hd)]
  ·cases hd
 refine Mf EK hm (m+1) hB xm (fun x=>ED (l.take (m+1)) 0 x a0) (fun i v w=>(i<m->v=held (l.take m) aF i)/\(i=m-> ∃g,v=Y (X ⟨g,0,Z⟩)/\H w g zs T/\w0.heap.size<=g)) (held (l.take (m+1)) a0) (jc a0 _ 0 _ ?_).symm (fun i o x v hi ho=> ?_) (fun i v w w' _ hr hb=>⟨hr.1,fun e=> ?_⟩) (fun i o x w hi ho hb hd=> ?_) (fun x w hb hx=> ?_);·exact EnT
 ·have:=kW (l.take (m+1)) 0 i x a0 o v hnd (htk i o hi ho);exact EmM
 ·obtain⟨g,h1,h2,h3⟩:=hr.2 e;exact⟨g,h1,h2.u hb,h3⟩
 ·have hi':=htk i o hi ho;by_cases him:i<m
  ·obtain⟨y,hy,YB,hyv⟩:=hY w hb;have hi2:(l.take m)[i]?=X o:=by rw[List.getElem?_take,if_pos him];simpa using ho
   have h1:=hy i o hi2;have hti:(l.take m).take i=(l.take (m+1)).take i:=by rw[List.take_take,List.take_take,Nat.min_eq_left D,Nat.min_eq_left D]
   have e1:ED ((l.take m).take i) 0 y a0=ED (l.take (m+1)) 0 (mix (held (l.take (m+1)) a0) y i) a0:=by
    rw[hti];have e2:ED (l.take (m+1)) 0 (mix (held (l.take (m+1)) a0) y i) a0=ED ((l.take (m+1)).drop i) i (mix (held (l.take (m+1)) a0) y i) (ED ((l.take (m+1)).take i) 0 (mix (held (l.take (m+1)) a0) y i) a0):=by have:=sN ((l.take (m+1)).take i) ((l.take (m+1)).drop i) 0 (mix (held (l.take (m+1)) a0) y i) a0;rw[dR] at this;rw[this];congr 1;rw[ZJ,ZJ];omega
    have e3:ED ((l.take (m+1)).take i) 0 (mix (held (l.take (m+1)) a0) y i) a0=ED ((l.take (m+1)).take i) 0 y a0:=lE _ 0 _ _ _ fun j _ hj=>by have:j<i:=sQ;simp[mix,this]
    rw[e2,e3];refine(jc _ _ _ _ fun k p hp d hd=> ?_).symm;have hk:(l.take (m+1))[i+k]?=X p:=jf;show mix (held (l.take (m+1)) a0) y i (i+k)=_;have e5:mix (held (l.take (m+1)) a0) y i (i+k)=a0.tmps.getD d Iv:=by exact Emy
    rw[e5];exact(xg ((l.take (m+1)).take i) 0 y a0 d (fun hmem=>Cs hnd hk hd hmem)).symm
   rw[e1,hyv i him] at h1;have deps: ∀e∈o.after,Ur .any e=true->x e.on=mix (held (l.take (m+1)) a0) y i e.on:=by intro e he hb';have h4:=(lJ hB ho).1 e he;rw[(hd e he hb').1 D];simp[mix,h4,hyv e.on D]
   obtain⟨s1,s2⟩:=Ct (ops:=l.toArray) hnd hap hsel (da.2 ⟨i,hi'⟩) (mix (held (l.take (m+1)) a0) y i) x a0 (fun e he hb=>(deps e he hb).symm);exact Ehv (F:=fun x=>ED (l.take (m+1)) 0 x a0) (h1.of_same s1 s2) fun w'=>⟨fun _=>rfl,fun e=>D⟩
  ·have him:i=m:=D;subst him;have:o=om:=by have:l[i]?=X o:=sM;rw[YA] at this;exact(cI this).symm
   subst this;refine Z6 (Ei hgd) (hz _ _ _ hop) (Er _ _) ⟨fun h=>D,fun _=>⟨_,rfl,H.new _ _ _,hb.size⟩⟩
 ·obtain⟨y,hy,YB,hyv⟩:=hY w hb;obtain⟨g,h1,h2,h3⟩:=(hx m D).2 rfl
  have e:ED (l.take (m+1)) 0 x a0=aF.put om.dst (Y (X ⟨g,0,Z⟩)):=by
   rw[htake,sN,hlen,J9];have e2:ED (l.take m) 0 x a0=aF:=by rw[<-YB];exact lE _ 0 _ _ _ fun j _ hj=>by have hj2:j<m:=D;rw[(hx j D).1 hj2,hyv j hj2]
   rw[e2];unfold ED ED;rw[h1]
  have:=hend g w hb h2 h3;simp only[e];exact Emu
end
theorem LV{P:Jd}{ops:Array EG}{C:M->Prop}{Q1 Q2:E2->Prop}{l2:List EG}(hq: ∀a',Q1 a'->Xd P ops C Q2 l2 a'): ∀(l1:List EG) (a:E2),Xd P ops C Q1 l1 a->Xd P ops C Q2 (l1++l2) a
 |[],a,h=>hq a h
 |o::l,a,h=>by
  unfold Xd at h;show Xd P ops C Q2 (o::(l++l2)) a;unfold Xd;split;·rename_i hw;rw[if_pos hw] at h;exact Oper.quiet_mono (fun a' h'=>LV hq l a' h') h
  ·rename_i hw;rw[if_neg hw] at h;exact LV hq l _ h
theorem LY{o:EG}(hw:I8 o (Ja ops a.tmps)=V)(h:Xd P ops C Q l (a.put o.dst Iv)):Xd P ops C Q (o::l) a:=by unfold Xd;rw[if_neg DX];exact h
theorem qE{rest:List EG}{b:Bool}(p1 p2:G)(d i0:Nat)(hb:a.tmps[d]?=X (EU b))(hN:d+4<a.tmps.size) (hd:(ops[i0]?).bind (·.dst)=X d) (g1:o1.guard=X (i0,EI)) (g2:o2.guard=X (i0,EI)) (g3:o3.guard=X (i0,EI)) (g4:o4.guard=Z) (c1:o1.dst=X (d+1)) (c2:o2.dst=X (d+2)) (c3:o3.dst=X (d+3)) (a4:o4.op= .pick (.tmp d) (.tmp (d+3)) (.const (EU V))) (T:b=EI->Xd P ops C (fun a'=>a'=((a.put o1.dst p1).put o2.dst p2).put o3.dst (EU s)) [o1,o2,o3] a) (h:Xd P ops C Q rest ((((a.put o1.dst (bif b then p1 else Iv)).put o2.dst (bif b then p2 else Iv)).put o3.dst (bif b then EU s else Iv)).put o4.dst (EU (b&&s)))):Xd P ops C Q (o1::o2::o3::o4::rest) a:=by
 have fin: ∀x1 x2 x3,(b=EI->x3=EU s)->Xd P ops C Q rest ((((a.put o1.dst x1).put o2.dst x2).put o3.dst x3).put o4.dst (EU (b&&s)))->Xd P ops C Q (o4::rest) (((a.put o1.dst x1).put o2.dst x2).put o3.dst x3):=by
  intro x1 x2 x3 hx h;unfold Xd;rw[if_pos (Ei g4)];refine⟨EU (b&&s),fun w _=> ?_,h⟩;have e1:(((a.put o1.dst x1).put o2.dst x2).put o3.dst x3).eval (.tmp d)=EU b:=dQ (by rw[c1,c2,c3];simp (disch:=omega) only[Z1,hb]);have e2:(((a.put o1.dst x1).put o2.dst x2).put o3.dst x3).eval (.tmp (d+3))=x3:=dQ (by rw[c1,c2,c3];exact jO nU);unfold ik
  have Y9: ∀ev:JN->G,ev (.const (EU V))=EU V->ev (.tmp d)=EU b->ev (.tmp (d+3))=x3->(Ig ev o4).run P w= .ok (.value (EU (b&&s))) w:=fun ev h0 h1 h2=>by
   unfold Ig;cases b;·simp[go_sem,a4,h0,h1,h2]
   ·simp[go_sem,a4,h0,h1,h2,hx U]
  rw[Y9 _ U e1 e2];exact⟨U,U⟩
 cases b with
 |false=> refine LY (Xf (b:=V) g1 hd hb U) (LY (Xf (b:=V) g2 hd (by rw[c1];simp (disch:=omega) only[Z1,hb]) U) (LY (Xf (b:=V) g3 hd (by rw[c1,c2];simp (disch:=omega) only[Z1,hb]) U) (fin _ _ _ (fun h=>Uq) h)))
 |true=> refine LV (l2:=o4::rest) (fun a' e=> ?_) [o1,o2,o3] a (T U);rw[e];exact fin _ _ _ (fun _=>rfl) h
theorem O_{o:EG}(hT:IF P T n)(x:JN)(ho:o.op= .load T x)(hx:a.eval x=Y (X ⟨g,off,Z⟩))(hg:Ed (H W g big TB))(he:big.extract off (off+n)=cs)(hn:cs.size=n) (hk:K (a.put o.dst (EZ cs))):o.quiet P a (fun w'=> ∃x,w'=EA W x) K:=by obtain⟨⟨d,hu,hd⟩,hi⟩:=hT;refine⟨_,fun w hw=> ?_,hk⟩;obtain⟨y,rfl⟩:=hw;subst he;have hrun:=run_loadVar_mid (EA W y) g off T _ d (World.rangeAt_of_block (hg.out.u (EL y)) off n) hu jm sV;rw[Array.toArray_toList] at hrun;unfold ik Ig;exact ElW
theorem nX:IF Ea 26 20:=⟨⟨_,Tryz.underlying26,U⟩,Ef⟩
theorem Ehy:IF Ea 98 11:=⟨⟨_,Tryz.underlying98,U⟩,Ef⟩
theorem Ehz:Ow Ea 98 (au 11 (EU V)):=by exact Ekv
def xE:Nat->List Bool->Int
 |_,[]=>0
 |k,b::l=>bif b then xE (k+1) l else 40+(k:Int)
theorem YC: ∀(l:List Bool) (k i:Nat),(∀j,j<i->l[j]?=X EI)->l[i]?=X V->xE k l=40+((k+i:Nat):Int)
 |[],_,_,_,h=>qX
 |b::l,k,0,_,h=>by simp at h;subst h;rfl
 |b::l,k,i+1,h1,h=>by have h0:=h1 0 D;simp at h0;subst h0;have:=YC l (k+1) i (fun j hj=>by simpa using h1 (j+1) D) UB;show xE (k+1) l=_;rw[this];omega
theorem YD: ∀(l:List Bool) (k:Nat),(∀j,j<l.length->l[j]?=X EI)->xE k l=0
 |[],_,_=>rfl
 |b::l,k,h=>by have h0:=h 0 Ej;simp at h0;subst h0;exact YD l (k+1) fun j hj=>by simpa using h (j+1) xn
theorem EhA(g:Nat->G)(p:Nat->Int)(kl:Nat->Nat)(w:M)(hv:mH g p kl): Eg Ea 15 #[EZ (EN 56 g)] w fun e w'=>e=Eh (E I (UA p kl))/\Ek w w':=by
 obtain⟨r,hr⟩:=Eo (UA p kl);rw[<-hr];unfold UA at hr;obtain⟨b1,hb1⟩:=Eo (Ki p);rw[<-hb1] at hr;obtain⟨b2,hb2⟩:=Eo (ky kl);rw[<-hb2] at hr;obtain⟨b3,hb3⟩:=Eo (BO p);rw[<-hb3] at hr;obtain⟨b4,hb4⟩:=Eo (BU p);rw[<-hb4] at hr;obtain⟨b5,hb5⟩:=Eo (Ba p);rw[<-hb5] at hr;obtain⟨b6,hb6⟩:=Eo (wZ p);rw[<-hb6] at hr;obtain⟨b7,gH⟩:=Eo (wg p);rw[<-gH] at hr;obtain⟨b8,mM⟩:=Eo (Bb p);rw[<-mM] at hr;obtain⟨b9,mN⟩:=Eo (wh p);rw[<-mN] at hr;obtain⟨b10,mP⟩:=Eo (mK p);rw[<-mP] at hr;obtain⟨b11,mQ⟩:=Eo (Bc p);rw[<-mQ] at hr;have HRR:=J hr;have C1:Ed (∀W,Eg Ea 30 #[EZ #[E I (p 0),E I (p 1),E I (p 2),E I (p 3),E I (p 4)]] W fun e w'=>e=Eh (EU b1)/\Ek W w'):=J (fun W=>by rw[hb1];exact Efz _ _ _ _ _ W);have C2:Ed (∀W,Eg Ea 31 #[EZ (EN 56 g)] W fun e w'=>e=Eh (EU b2)/\Ek W w'):=J (fun W=>by rw[hb2];exact Efx g p kl W hv);have C3:Ed (∀W,Eg Ea 32 #[EZ #[E I (p 9),E I (p 10),E I (p 11),E I (p 12),E I (p 13)]] W fun e w'=>e=Eh (EU b3)/\Ek W w'):=J (fun W=>by rw[hb3];exact Efv (fun i=>p (9+i)) W);have C4:Ed (∀W,Eg Ea 33 #[EZ #[E I (p 14),E I (p 15),E I (p 16),E I (p 17),E I (p 18),E I (p 19),E I (p 20),E I (p 21),E I (p 22),E I (p 23),E I (p 24),E I (p 25),E I (p 26),E I (p 27),E I (p 28),E I (p 29),E I (p 30),E I (p 31),E I (p 32),E I (p 33)]] W fun e w'=>e=Eh (EU b4)/\Ek W w'):=J (fun W=>by rw[hb4];exact Efu (fun i=>p (14+i)) W);have C5:Ed (∀W,Eg Ea 34 #[EZ #[E I (p 34),E I (p 35),E I (p 36),E I (p 37),E I (p 38)]] W fun e w'=>e=Eh (EU b5)/\Ek W w'):=J (fun W=>by rw[hb5];exact Eft (fun i=>p (34+i)) W);have dY:Ed (∀W,Eg Ea 36 #[EZ (EN 56 g)] W fun e w'=>e=Eh (EU b10)/\Ek W w'):=J (fun W=>by rw[mP];exact Efw g p kl W hv);have e6:Ed ((I6 (p 39) 0 4&&I6 (p 40) 0 4&&I6 (p 41) 0 4)=b6):=J (by rw[hb6];simp[wZ,OZ,Bool.and_assoc]);have e7:Ed ((I6 (p 42) 1 1000&&I6 (p 43) 1 1000&&I6 (p 44) 1 1000&&I6 (p 45) 1 1000)=b7):=J (by rw[gH];simp[wg,OZ,Bool.and_assoc]);have e8:Ed ((I6 (p 46) 1 1000&&I6 (p 47) 0 1000)=b8):=J (by rw[mM];rfl);have e9:Ed ((I6 (p 48) 1 3&&I6 (p 49) 1 3)=b9):=J (by rw[mN];simp[wh,OZ]);have e11:Ed (I6 (p 55) 0 65535=b11):=J (by rw[mQ];rfl);clear hr hb1 hb2 hb3 hb4 hb5 hb6 gH mM mN mP mQ;have KP:=J<|H.new w (EN 56 g) 28;have B:=J<|Er w (Ec (EN 56 g) 28);have X0:Ed ((EN 56 g).extract 0 (0+5)= #[E I (p 0),E I (p 1),E I (p 2),E I (p 3),E I (p 4)]):=J (by have e:(EN 56 g).extract 0 (0+5)= #[g 0,g 1,g 2,g 3,g 4]:=bu;rw[e,(hv.int 0 D D).1,(hv.int 1 D D).1,(hv.int 2 D D).1,(hv.int 3 D D).1,(hv.int 4 D D).1]);have X9:Ed ((EN 56 g).extract 9 (9+5)= #[E I (p 9),E I (p 10),E I (p 11),E I (p 12),E I (p 13)]):=J (by have e:(EN 56 g).extract 9 (9+5)= #[g 9,g 10,g 11,g 12,g 13]:=bu;rw[e,(hv.int 9 D D).1,(hv.int 10 D D).1,(hv.int 11 D D).1,(hv.int 12 D D).1,(hv.int 13 D D).1]);have kG:Ed ((EN 56 g).extract 14 (14+20)= #[E I (p 14),E I (p 15),E I (p 16),E I (p 17),E I (p 18),E I (p 19),E I (p 20),E I (p 21),E I (p 22),E I (p 23),E I (p 24),E I (p 25),E I (p 26),E I (p 27),E I (p 28),E I (p 29),E I (p 30),E I (p 31),E I (p 32),E I (p 33)]):=J (by have e:(EN 56 g).extract 14 (14+20)= #[g 14,g 15,g 16,g 17,g 18,g 19,g 20,g 21,g 22,g 23,g 24,g 25,g 26,g 27,g 28,g 29,g 30,g 31,g 32,g 33]:=bu;rw[e,(hv.int 14 D D).1,(hv.int 15 D D).1,(hv.int 16 D D).1,(hv.int 17 D D).1,(hv.int 18 D D).1,(hv.int 19 D D).1,(hv.int 20 D D).1,(hv.int 21 D D).1,(hv.int 22 D D).1,(hv.int 23 D D).1,(hv.int 24 D D).1,(hv.int 25 D D).1,(hv.int 26 D D).1,(hv.int 27 D D).1,(hv.int 28 D D).1,(hv.int 29 D D).1,(hv.int 30 D D).1,(hv.int 31 D D).1,(hv.int 32 D D).1,(hv.int 33 D D).1]);have kH:Ed ((EN 56 g).extract 34 (34+5)= #[E I (p 34),E I (p 35),E I (p 36),E I (p 37),E I (p 38)]):=J (by have e:(EN 56 g).extract 34 (34+5)= #[g 34,g 35,g 36,g 37,g 38]:=bu;rw[e,(hv.int 34 D D).1,(hv.int 35 D D).1,(hv.int 36 D D).1,(hv.int 37 D D).1,(hv.int 38 D D).1]);have HV:=J hv;clear hv;go_enter Tryz.func15,Tryz.ntmps15;go_wp2_with fail;try simp only[List.append_eq,lI,cX]
 obtain⟨gp,O8⟩:=Eo w.heap.size;rw[<-O8] at KP⊢;generalize w.alloc (Ec (EN 56 g) 28)=w1 at*;clear O8;refine Ehw 67 Ef Ef U Ehz U U ?_;apply Exists.intro;refine⟨fun W hW=> ?hd,?tl⟩
 case hd=>
  simp only[Is,Io];replace KP:=J<|KP.out.u hW;have PC: ∀i,i<56->i<5\/8<i-> ∀y:Ext W,(EA W y).cell? ⟨gp,i,Z⟩=X (E I (p i)):=fun i h1 h2 y=>by rw[H.cell (H.u KP.out (EL y)) i,Zz,if_pos h1,(HV.out.int i h1 h2).1]
  have y39:=PC 39 D D;have r_:=PC 40 D D;have y41:=PC 41 D D;have y42:=PC 42 D D;have y43:=PC 43 D D;have y44:=PC 44 D D;have y45:=PC 45 D D;have Tt:=PC 46 D D;have y47:=PC 47 D D;have y48:=PC 48 D D;have y49:=PC 49 D D;have y55:=PC 55 D D;clear PC hW;repeat (first
  |go_big_quiet_skip
  |(go_big_quiet_want
    first
     |(refine O_ (T:=22) (g:=gp) (off:=0) Xb _ rfl rfl KP X0.out rfl ?_;go_simp;go_big_quiet_on)
     |(refine O_ (T:=22) (g:=gp) (off:=9) Xb _ rfl rfl KP X9.out rfl ?_;go_simp;go_big_quiet_on)
     |(refine O_ (T:=26) (g:=gp) (off:=14) nX _ rfl rfl KP kG.out rfl ?_;go_simp;go_big_quiet_on)
     |(refine O_ (T:=22) (g:=gp) (off:=34) Xb _ rfl rfl KP kH.out rfl ?_;go_simp;go_big_quiet_on)
     |(refine Og (T:=28) (g:=gp) Up _ rfl rfl KP ?_ ?_;(·exact ij _ _);go_simp;go_big_quiet_on)
     |(go_big_quiet_op
       first
        |go_big_quiet_on
        |go_big_quiet_call (with_reducible first|refine Xp (XC _ _ _ _)|refine IY (C1.out _)|refine IY (C2.out _)|refine IY (C3.out _)|refine IY (C4.out _)|refine IY (C5.out _)|refine IY (dY.out _)))))
  refine qE (s:=I6 (p 40) 0 4) (Y (X ⟨gp,40,Z⟩)) (E I (p 40)) 22 17 rfl (show 22+4<82 from Eb) U U U U U U U U U (fun hb=> ?_) ?_
  ·rw[hb]
   repeat (first
    |go_big_quiet_skip
    |(go_big_quiet_want;go_big_quiet_op;first|go_big_quiet_on|go_big_quiet_call (with_reducible refine Xp (XC _ _ _ _))))
   exact U
  simp only[Ic,Ii,IJ,IU]
  repeat (first
  |go_big_quiet_skip
  |(go_big_quiet_want
    first
     |(refine O_ (T:=22) (g:=gp) (off:=0) Xb _ rfl rfl KP X0.out rfl ?_;go_simp;go_big_quiet_on)
     |(refine O_ (T:=22) (g:=gp) (off:=9) Xb _ rfl rfl KP X9.out rfl ?_;go_simp;go_big_quiet_on)
     |(refine O_ (T:=26) (g:=gp) (off:=14) nX _ rfl rfl KP kG.out rfl ?_;go_simp;go_big_quiet_on)
     |(refine O_ (T:=22) (g:=gp) (off:=34) Xb _ rfl rfl KP kH.out rfl ?_;go_simp;go_big_quiet_on)
     |(refine Og (T:=28) (g:=gp) Up _ rfl rfl KP ?_ ?_;(·exact ij _ _);go_simp;go_big_quiet_on)
     |(go_big_quiet_op
       first
        |go_big_quiet_on
        |go_big_quiet_call (with_reducible first|refine Xp (XC _ _ _ _)|refine IY (C1.out _)|refine IY (C2.out _)|refine IY (C3.out _)|refine IY (C4.out _)|refine IY (C5.out _)|refine IY (dY.out _)))))
  refine qE (s:=I6 (p 41) 0 4) (Y (X ⟨gp,41,Z⟩)) (E I (p 41)) 27 22 rfl (show 27+4<82 from Eb) U U U U U U U U U (fun hb=> ?_) ?_
  ·rw[hb]
   repeat (first
    |go_big_quiet_skip
    |(go_big_quiet_want;go_big_quiet_op;first|go_big_quiet_on|go_big_quiet_call (with_reducible refine Xp (XC _ _ _ _))))
   exact U
  simp only[Ic,Ii,IJ,IU]
  repeat (first
  |go_big_quiet_skip
  |(go_big_quiet_want
    first
     |(refine O_ (T:=22) (g:=gp) (off:=0) Xb _ rfl rfl KP X0.out rfl ?_;go_simp;go_big_quiet_on)
     |(refine O_ (T:=22) (g:=gp) (off:=9) Xb _ rfl rfl KP X9.out rfl ?_;go_simp;go_big_quiet_on)
     |(refine O_ (T:=26) (g:=gp) (off:=14) nX _ rfl rfl KP kG.out rfl ?_;go_simp;go_big_quiet_on)
     |(refine O_ (T:=22) (g:=gp) (off:=34) Xb _ rfl rfl KP kH.out rfl ?_;go_simp;go_big_quiet_on)
     |(refine Og (T:=28) (g:=gp) Up _ rfl rfl KP ?_ ?_;(·exact ij _ _);go_simp;go_big_quiet_on)
     |(go_big_quiet_op
       first
        |go_big_quiet_on
        |go_big_quiet_call (with_reducible first|refine Xp (XC _ _ _ _)|refine IY (C1.out _)|refine IY (C2.out _)|refine IY (C3.out _)|refine IY (C4.out _)|refine IY (C5.out _)|refine IY (dY.out _)))))
  refine qE (s:=I6 (p 43) 1 1000) (Y (X ⟨gp,43,Z⟩)) (E I (p 43)) 35 30 rfl (show 35+4<82 from Eb) U U U U U U U U U (fun hb=> ?_) ?_
  ·rw[hb]
   repeat (first
    |go_big_quiet_skip
    |(go_big_quiet_want;go_big_quiet_op;first|go_big_quiet_on|go_big_quiet_call (with_reducible refine Xp (XC _ _ _ _))))
   exact U
  simp only[Ic,Ii,IJ,IU]
  repeat (first
  |go_big_quiet_skip
  |(go_big_quiet_want
    first
     |(refine O_ (T:=22) (g:=gp) (off:=0) Xb _ rfl rfl KP X0.out rfl ?_;go_simp;go_big_quiet_on)
     |(refine O_ (T:=22) (g:=gp) (off:=9) Xb _ rfl rfl KP X9.out rfl ?_;go_simp;go_big_quiet_on)
     |(refine O_ (T:=26) (g:=gp) (off:=14) nX _ rfl rfl KP kG.out rfl ?_;go_simp;go_big_quiet_on)
     |(refine O_ (T:=22) (g:=gp) (off:=34) Xb _ rfl rfl KP kH.out rfl ?_;go_simp;go_big_quiet_on)
     |(refine Og (T:=28) (g:=gp) Up _ rfl rfl KP ?_ ?_;(·exact ij _ _);go_simp;go_big_quiet_on)
     |(go_big_quiet_op
       first
        |go_big_quiet_on
        |go_big_quiet_call (with_reducible first|refine Xp (XC _ _ _ _)|refine IY (C1.out _)|refine IY (C2.out _)|refine IY (C3.out _)|refine IY (C4.out _)|refine IY (C5.out _)|refine IY (dY.out _)))))
  refine qE (s:=I6 (p 44) 1 1000) (Y (X ⟨gp,44,Z⟩)) (E I (p 44)) 40 35 rfl (show 40+4<82 from Eb) U U U U U U U U U (fun hb=> ?_) ?_
  ·rw[hb]
   repeat (first
    |go_big_quiet_skip
    |(go_big_quiet_want;go_big_quiet_op;first|go_big_quiet_on|go_big_quiet_call (with_reducible refine Xp (XC _ _ _ _))))
   exact U
  simp only[Ic,Ii,IJ,IU]
  repeat (first
  |go_big_quiet_skip
  |(go_big_quiet_want
    first
     |(refine O_ (T:=22) (g:=gp) (off:=0) Xb _ rfl rfl KP X0.out rfl ?_;go_simp;go_big_quiet_on)
     |(refine O_ (T:=22) (g:=gp) (off:=9) Xb _ rfl rfl KP X9.out rfl ?_;go_simp;go_big_quiet_on)
     |(refine O_ (T:=26) (g:=gp) (off:=14) nX _ rfl rfl KP kG.out rfl ?_;go_simp;go_big_quiet_on)
     |(refine O_ (T:=22) (g:=gp) (off:=34) Xb _ rfl rfl KP kH.out rfl ?_;go_simp;go_big_quiet_on)
     |(refine Og (T:=28) (g:=gp) Up _ rfl rfl KP ?_ ?_;(·exact ij _ _);go_simp;go_big_quiet_on)
     |(go_big_quiet_op
       first
        |go_big_quiet_on
        |go_big_quiet_call (with_reducible first|refine Xp (XC _ _ _ _)|refine IY (C1.out _)|refine IY (C2.out _)|refine IY (C3.out _)|refine IY (C4.out _)|refine IY (C5.out _)|refine IY (dY.out _)))))
  refine qE (s:=I6 (p 45) 1 1000) (Y (X ⟨gp,45,Z⟩)) (E I (p 45)) 45 40 rfl (show 45+4<82 from Eb) U U U U U U U U U (fun hb=> ?_) ?_
  ·rw[hb]
   repeat (first
    |go_big_quiet_skip
    |(go_big_quiet_want;go_big_quiet_op;first|go_big_quiet_on|go_big_quiet_call (with_reducible refine Xp (XC _ _ _ _))))
   exact U
  simp only[Ic,Ii,IJ,IU]
  repeat (first
  |go_big_quiet_skip
  |(go_big_quiet_want
    first
     |(refine O_ (T:=22) (g:=gp) (off:=0) Xb _ rfl rfl KP X0.out rfl ?_;go_simp;go_big_quiet_on)
     |(refine O_ (T:=22) (g:=gp) (off:=9) Xb _ rfl rfl KP X9.out rfl ?_;go_simp;go_big_quiet_on)
     |(refine O_ (T:=26) (g:=gp) (off:=14) nX _ rfl rfl KP kG.out rfl ?_;go_simp;go_big_quiet_on)
     |(refine O_ (T:=22) (g:=gp) (off:=34) Xb _ rfl rfl KP kH.out rfl ?_;go_simp;go_big_quiet_on)
     |(refine Og (T:=28) (g:=gp) Up _ rfl rfl KP ?_ ?_;(·exact ij _ _);go_simp;go_big_quiet_on)
     |(go_big_quiet_op
       first
        |go_big_quiet_on
        |go_big_quiet_call (with_reducible first|refine Xp (XC _ _ _ _)|refine IY (C1.out _)|refine IY (C2.out _)|refine IY (C3.out _)|refine IY (C4.out _)|refine IY (C5.out _)|refine IY (dY.out _)))))
  refine qE (s:=I6 (p 47) 0 1000) (Y (X ⟨gp,47,Z⟩)) (E I (p 47)) 53 48 rfl (show 53+4<82 from Eb) U U U U U U U U U (fun hb=> ?_) ?_
  ·rw[hb]
   repeat (first
    |go_big_quiet_skip
    |(go_big_quiet_want;go_big_quiet_op;first|go_big_quiet_on|go_big_quiet_call (with_reducible refine Xp (XC _ _ _ _))))
   exact U
  simp only[Ic,Ii,IJ,IU]
  repeat (first
  |go_big_quiet_skip
  |(go_big_quiet_want
    first
     |(refine O_ (T:=22) (g:=gp) (off:=0) Xb _ rfl rfl KP X0.out rfl ?_;go_simp;go_big_quiet_on)
     |(refine O_ (T:=22) (g:=gp) (off:=9) Xb _ rfl rfl KP X9.out rfl ?_;go_simp;go_big_quiet_on)
     |(refine O_ (T:=26) (g:=gp) (off:=14) nX _ rfl rfl KP kG.out rfl ?_;go_simp;go_big_quiet_on)
     |(refine O_ (T:=22) (g:=gp) (off:=34) Xb _ rfl rfl KP kH.out rfl ?_;go_simp;go_big_quiet_on)
     |(refine Og (T:=28) (g:=gp) Up _ rfl rfl KP ?_ ?_;(·exact ij _ _);go_simp;go_big_quiet_on)
     |(go_big_quiet_op
       first
        |go_big_quiet_on
        |go_big_quiet_call (with_reducible first|refine Xp (XC _ _ _ _)|refine IY (C1.out _)|refine IY (C2.out _)|refine IY (C3.out _)|refine IY (C4.out _)|refine IY (C5.out _)|refine IY (dY.out _)))))
  refine qE (s:=I6 (p 49) 1 3) (Y (X ⟨gp,49,Z⟩)) (E I (p 49)) 61 56 rfl (show 61+4<82 from Eb) U U U U U U U U U (fun hb=> ?_) ?_
  ·rw[hb]
   repeat (first
    |go_big_quiet_skip
    |(go_big_quiet_want;go_big_quiet_op;first|go_big_quiet_on|go_big_quiet_call (with_reducible refine Xp (XC _ _ _ _))))
   exact U
  simp only[Ic,Ii,IJ,IU]
  repeat (first
  |go_big_quiet_skip
  |(go_big_quiet_want
    first
     |(refine O_ (T:=22) (g:=gp) (off:=0) Xb _ rfl rfl KP X0.out rfl ?_;go_simp;go_big_quiet_on)
     |(refine O_ (T:=22) (g:=gp) (off:=9) Xb _ rfl rfl KP X9.out rfl ?_;go_simp;go_big_quiet_on)
     |(refine O_ (T:=26) (g:=gp) (off:=14) nX _ rfl rfl KP kG.out rfl ?_;go_simp;go_big_quiet_on)
     |(refine O_ (T:=22) (g:=gp) (off:=34) Xb _ rfl rfl KP kH.out rfl ?_;go_simp;go_big_quiet_on)
     |(refine Og (T:=28) (g:=gp) Up _ rfl rfl KP ?_ ?_;(·exact ij _ _);go_simp;go_big_quiet_on)
     |(go_big_quiet_op
       first
        |go_big_quiet_on
        |go_big_quiet_call (with_reducible first|refine Xp (XC _ _ _ _)|refine IY (C1.out _)|refine IY (C2.out _)|refine IY (C3.out _)|refine IY (C4.out _)|refine IY (C5.out _)|refine IY (dY.out _)))))
  exact I2 U
 case tl=>
  intro g11 w2 hb hB h11;simp only[IS,IM,Ic,Ii,IJ,IU];rw[e6.out,e7.out,e8.out,e9.out,e11.out];obtain⟨bl,hbl⟩:=Eo ([b1,b2,b3,b4,b5,b6,b7,b8,b9,b10,b11]);have L0:Ed (bl.length=11):=J (by rw[hbl];rfl);have YF:Ed (xE 0 bl=r):=J (by rw[HRR.out,hbl];rfl);have JX:=J hB;have BN:=J<|B.out.trans (hb.mono B.out.size);have HG:=J<|show w.heap.size<=g11 from EB B.out.size h11;have NV:Ed ((#[EU b1,EU b2,EU b3,EU b4,EU b5,EU b6,EU b7,EU b8,EU b9,EU b10,EU b11]:Array G)=(bl.map EU).toArray):=J (by rw[hbl];rfl);clear hbl KP C1 C2 C3 C4 C5 dY X0 X9 kG kH e6 e7 e8 e9 e11 hb hB h11 B HRR HV;rw[NV.out];generalize hcs:(bl.map EU).toArray=cs;have CSS:Ed (cs.size=11):=J (by rw[<-hcs];simp[L0.out]);have pW:Ed (cs.all (·.oneCell')=EI):=J (by rw[<-hcs];exact all_oneCell_toArray fun v hv=>by obtain⟨x,-,rfl⟩:=bc.1 hv;rfl);have CSI:Ed (∀i b,bl[i]?=X b->cs[i]?=X (EU b)):=J (fun i b h=>by rw[<-hcs,J0,ls,h];rfl);clear hcs NV;go_wp2_with ((with_reducible refine Jr 98 ?_);(with_reducible refine Z7 (g:=g11) (cs:=cs) Ehy ?_ ?_ JX ?_ ?_ ?_ ?_);(·exact Ei U);(·exact⟨U,U,U⟩);(·rfl);(·exact CSS.out);(·exact pW.out);refine Ey.mk ?_);apply Et;have KC:=J<|JX.out.setRow cs;replace BN:=J<|E6 (g:=g11) BN.out HG.out cs;generalize w2.setRow g11 cs=w3 at*;clear JX;go_wp2_with fail;go_loopw[4] (fun y wr=> ∃i:Nat,i<=11/\y=E I i/\(∀j,j<i->bl[j]?=X EI)/\w3=wr) (fun y _=>11-(I5 y).toNat);case atStart=>exact⟨0,D,U,fun j h=>absurd h D,U⟩
  case round=>
   obtain⟨i,hi,rfl,hall,rfl⟩:=hrel;have AL:=J hall;clear hall;by_cases hlt:i<11
   ·have t1:decide ((i:Int)<11)=EI:=IE D;obtain⟨b,hbb⟩: ∃b,bl[i]?=X b:=⟨_,JY (by have:=L0.out;omega)⟩;have cc:w3.cell? ⟨g11,i,Z⟩=X (EU b):=(KC.out.cell i).trans (CSI.out i b hbb);have nY:=J hbb;clear hbb;cases b;·go_wp2;go_ret;refine⟨?_,BN.out⟩;have:=YC bl 0 i AL.out nY.out;rw[YF.out] at this;rw[this];simp
    ·go_wp2_with fail
     exact⟨⟨i+1,D,Ej,fun j hj=>by
      rcases JW j i with h|h;·exact AL.out j h
      ·rw[show j=i from D];exact nY.out,trivial⟩,J6⟩
   ·have t1:decide ((i:Int)<11)=V:=Ia D;have h0:=YD bl 0 fun j hj=>AL.out j (by have:=L0.out;omega);rw[YF.out] at h0;go_wp2;go_ret;exact⟨by rw[h0];rfl,BN.out⟩
section
variable{P:Program}{a:Act}{o:Oper}{C:World->Prop}{K:Act->Prop}
theorem EhD{r:Bool}(ho:o.op= .binOp .eql T x y Y3)(hm:P.eqGuardType P.depth T=V)(hq: ∀W,(XG .eql T (EZ xs) (EZ ys)).run P W= .ok (EU r) W)(h1:a.eval x=EZ xs)(h2:a.eval y=EZ ys)(hk:K (a.put o.dst (EU r))):o.quiet P a C K:=by refine⟨_,fun w hw=> ?_,hk⟩;have:=wT (w:=w) ho hm (hq w) a.eval h1 h2;unfold ik;rw[this];first|exact⟨rfl,rfl⟩|rfl
end
theorem EhF{l:List Int}(hl:l.length=12)(W:M):(XG .eql 38 (EZ (l.map (E .i64)).toArray) (EZ (l.map (E .i64)).toArray)).run Ea W= .ok (EU EI) W:=by
 match l,hl with
 |[x0,x1,x2,x3,x4,x5,x6,x7,x8,x9,gL,gM],_=> obtain⟨r,h1,h2⟩:=Ehj x0 x1 x2 x3 x4 x5 x6 x7 x8 x9 gL gM x0 x1 x2 x3 x4 x5 x6 x7 x8 x9 gL gM W;rw[h2 ⟨U,U,U,U,U,U,U,U,U,U,U,U⟩] at h1;exact h1
theorem YG(W:M):(XG .eql 38 (EZ X_.toArray) (EZ X_.toArray)).run Ea W= .ok (EU EI) W:=EhF (l:=[4,1,0,0,0,0,2,4,0,2,4,0]) U W
def xI:Jj:=⟨3,0,[],V,0,0,0,0,V,V⟩
theorem EhG:Tryz.prog.built 28 []=X YX:=Ef
theorem EhH:Tryz.prog.built 48 [(0,E I 3)]=X (xI.cells Z 0).toArray:=Ef
theorem YH{o:EG}{cs:List G}(hT:IF P T n)(x:JN)(ho:o.op= .load T x)(hx:a.eval x=Y (X ⟨g,off,Z⟩))(hg:Ed (W.rangeAt g off cs))(hn:cs.length=n) (hk:K (a.put o.dst (EZ cs.toArray))):o.quiet P a (fun w'=> ∃x,w'=EA W x) K:=by
 obtain⟨⟨d,hu,hd⟩,hi⟩:=hT;refine⟨_,fun w hw=> ?_,hk⟩;obtain⟨y,rfl⟩:=hw;have hr:(EA W y).rangeAt g off cs:=fun j v hj=>by have h:=hg.out j v hj;rw[(EL y).cell (UV _ _ h)];exact h
 have hrun:=run_loadVar_mid (EA W y) g off T cs d hr hu jm fF;unfold ik Ig;exact ElW
theorem EhK(Jc:List (Array G)): ∀(i j:Nat),(∀tv∈Jc,tv.size=46)->j<46-> ∀tv,Jc[i]?=X tv->(dP Jc)[i*46+j]?=tv[j]?:=by
 induction Jc with
 |nil=>intro i j _ _ x h;simp at h
 |cons y t ih=>
  intro i j hs hj x h;have hy:y.toList.length=46:=by rw[Array.length_toList];exact hs y (fG ..)
  rw[dP,nA];match i,h with
  |0,h=> simp only[jt,lK] at h;subst h;rw[bO (by rw[hy];omega),Nat.zero_mul,J9,Array.getElem?_toList]
  |i+1,h=> rw[ay (by rw[hy];omega),hy,show(i+1)*46+j-46=i*46+j from D];exact ih i j (fun tv ht=>hs tv (Z5 _ ht)) hj x UB
theorem YK{b:Nat}(h:w.ownsRow b 43 46 (EJ A n c) n (dP Jc))(hl:Jc.length=n)(hs: ∀tv∈Jc,tv.size=46)(hi:i<n): ∃g tv,A=X ⟨g,0,Z⟩/\tv∈Jc/\ ∀j,j<46->w.cell? ⟨g,i*46+j,Z⟩=tv[j]?:=by
 obtain⟨tv,hx⟩: ∃tv,Jc[i]?=X tv:=⟨_,JY D⟩;rcases h.2 with⟨-,h0⟩|⟨g,cap,cur,hv,-,hh,hc,hrest⟩;·omega
 ·injection hv with e1 e2 e3;subst e1 e3;exact⟨g,tv,U,cG hx,fun j hj=>by rw[h.cellAt (i*46+j) D,EhK Jc i j hs hj tv hx]⟩
theorem EhL(w:M)(hR:JH w)(hC:X5 w)(h2:2<=w.heap.size): Eg Ea 8 #[] w fun e w'=>e=Eh (EU EI)/\Ir w.heap.size w w':=by
 have Ca:=J (show∃ie z,Tryz.prog.info? 48=X ie/\ie.zero=X z/\ie.size=10 from Yg);obtain⟨ev,hev⟩:=Eo ((xI.cells Z 0).toArray);obtain⟨pz,hpz⟩:=Eo YX;have BP:=J EhG;have BE:=J EhH;rw[<-hev] at BE;rw[<-hpz] at BP;have ES:Ed (ev.size=10):=J (by rw[hev];rfl);have b1:=Er w (Ec ev 48)
 have hE:ZK 0 (w.alloc (Ec ev 48)) (X ⟨w.heap.size,0,Z⟩) 1 1 [(xI,Z,0)]:=⟨by
  have:=World.ownsRow_lit (base:=0) (e:=48) (size:=10) w ev 1 (fL _) Oy (by rw[ES.out]);rw[hev] at this⊢;exact this,U,fun x hx=>by
  rw[mw.1 hx];exact⟨⟨Cl,Cl,Cl,Cl⟩,by simp[xI],XY _ _⟩⟩
 have RA:=J<|Yr (fun i=>if 5<=i/\i<=8 then .slice Z 0 0 else E I 0) (fun _=>0) (fun _=>0) 0 _ 1 1 _ _ ⟨fun i h1 h2=>⟨if_neg D,mg⟩,fun i h1 h2=>⟨Z,0,if_pos ⟨h1,h2⟩⟩⟩ (fun i h1 h2=>⟨Z,0,[],if_pos ⟨h1,h2⟩,U,nf _ _⟩) (hR.u b1) (hC.u b1) (EB h2 b1.size) D hE;have B:=J b1;rw[show EN 56 (fun i=>if 5<=i/\i<=8 then EJ Z 0 0 else E I 0)=pz by rw[hpz];rfl] at RA;have CH:UA (fun _=>0) (fun _=>0)=40:=Eb;clear hE hR hC h2 b1 hpz hev;go_enter Tryz.func8,Tryz.ntmps8;go_wp2_with (first|((with_reducible refine It 5 ?_);refine JO rfl 28 _ rfl pz BP.out ?_)|((with_reducible refine It 6 ?_);refine JO rfl 48 _ rfl ev BE.out ?_)|((with_reducible refine It 7 ?_);(refine Lu rfl 29 48 _ 10 ev rfl rfl ES.out Tryz.underlying29 Ca.out D D ?_)));refine RA.out.mono ?_;rintro e w3 ⟨⟨A,c,Jc,sv,code,rfl,own,tl,sD,sz,ps⟩,b3⟩
 obtain⟨rfl,rfl⟩:code=40/\sv=XI:=by
  rcases ps with⟨_,h1,h2⟩|⟨h1,_⟩;·exact⟨by rw[h1,CH],h2⟩
  ·rw[CH] at h1;cases h1
 obtain⟨g,tv,rfl,hm,hc⟩:=YK own tl (fun tv h=>(sD tv h).2) (i:=0) D;obtain rfl:=(sD tv hm).1 (by rw[CH];decide)
 have YM:Ed (w3.rangeAt g 0 X_):=J (by
  intro j v hj
  have hjl:j<12:=by
   rcases JW j 12 with h|h;·exact h
   ·rw[am Cm] at hj;cases hj
  have h2:=hc j D;rw[Nat.zero_mul] at h2;rw[h2,hH,Jl,J0,bO Cm];exact hj)
 have B3:=EW B b3;clear own tl sD sz ps hm hc b3 RA CH Ca B BP BE;obtain⟨zs,hzs⟩:=Eo XI;have ZS:Ed (zs.size=31):=J Lx;have ZO:Ed (zs.all (·.oneCell')=EI):=J (by rw[hzs];exact BW);have ZT:Ed (Ow Ea 54 zs):=J (by rw[hzs];exact pF);rw[<-hzs];clear hzs;have KS:=J<|H.new w3 zs 54;go_wp2_with (with_reducible first|refine wA ZT.out ?_|refine wS (cs:=zs) dG KS (Ey.mk ?_) (ho:=ZS.out) (hn:=ZS.out) (h1:=ZO.out));apply Et;have B4:=J<|E6 (g:=w3.heap.size) (Er w3 (Ec zs 54)) (E9 _) zs;have YN:Ed (((w3.alloc (Ec zs 54)).setRow w3.heap.size zs).rangeAt g 0 X_):=J fun j v hj=>by have h:=YM.out j v hj;rw[B4.out.cell (UV _ _ h)];exact h
 have B5:=EW B3 B4.out;clear YM B3 B4 KS;generalize (w3.alloc (Ec zs 54)).setRow w3.heap.size zs=w4 at*;have FL:Ed (X_.length=12):=J U;have FA:=J<|fun W=>Ls W;have FQ:=J YG;obtain⟨fx,hfx⟩:=Eo X_;rw[<-hfx] at YN FL FA FQ;clear hfx;go_wp2_with fail;refine Zs Ef Ef ?_
 repeat (first
  |go_big_quiet_skip
  |(go_big_quiet_want
    first
     |(refine YH (T:=38) (g:=g) (off:=0) sx _ rfl rfl YN ?_ ?_;(·exact FL.out);go_simp;go_big_quiet_on)
     |(refine EhD rfl Ef FQ.out rfl rfl ?_;go_simp;go_big_quiet_on)
     |(go_big_quiet_op
       first
        |go_big_quiet_on
        |go_big_quiet_call (with_reducible refine IY (FA.out _)))))
 refine I2 ?_;intro _ hw';obtain⟨y9,rfl⟩:=hw';have En:=EL y9;generalize EA w4 y9=w5 at*;go_wp2;go_ret;exact⟨U,bt B5.out En⟩
theorem YP(h:X5 w):2<=w.heap.size:=UV _ _ (h 0 D)
theorem sh.u(h:sh w v)(hb:Ir w.heap.size w w'):sh w' v:=by obtain⟨A,l,c,rfl,h⟩:=h;refine⟨A,l,c,U,h.imp id fun⟨b,off,e,h⟩=>⟨b,off,e,fun i hi=> ?_⟩⟩;obtain⟨e,a,d,h1,h2⟩:=h i hi;refine⟨e,a,d,h1.u hb,fun j hj=> ?_⟩;have h3:=h2 j hj;obtain⟨v,hv⟩: ∃v,(e.cells a d)[j]?=X v:=⟨_,JY (by rw[Jj.wK];exact hj)⟩;rw[hv] at h3⊢;rw[hb.cell (UV _ _ h3)];exact h3
theorem EhM{r:Bool}(h:(XG .eql T (EZ xs) (EZ ys)).run P W= .ok (EU r) W):(XG .neq T (EZ xs) (EZ ys)).run P W= .ok (EU !r) W:=by
 simp only[XG,Om,Oa] at h⊢;cases hh:(Op.equal T (EZ xs) (EZ ys)).run P W with
 |ok b w1=> rw[hh] at h;simp only[On,Result.ok.injEq,Value.bool.injEq] at h⊢;rw[h.1,h.2];exact⟨U,U⟩
 |_=>rw[hh] at h;cases h
theorem EhN{o:EG}{r:Bool}(ho:o.op= .binOp .neq T x y Y3)(hm:P.eqGuardType P.depth T=V)(hq:(XG .neq T (EZ xs) (EZ ys)).run P w= .ok (EU r) w)(ev:JN->G)(h1:ev x=EZ xs)(h2:ev y=EZ ys):(Ig ev o).run P w= .ok (.value (EU r)) w:=by exact EnU
def YQ:G->G
 |EJ A n c=>EJ A (min n 70) c
 |v=>v
def ZL(f:Nat->G)(i:Nat):Nat->G:=fun j=>if 5<=j/\j<5+i then YQ (f j) else f j
def xJ(f:Nat->G):Nat->Nat:=fun i=>match f i with
 |EJ _ n _=>min n 70
 |_=>0
theorem EhP(f:Nat->G):ZL f 0=f:=by funext j;unfold ZL;rw[if_neg D]
theorem YR(f:Nat->G)(i:Nat):ZL f i (5+i)=f (5+i):=by unfold ZL;rw[if_neg D]
theorem YT(f:Nat->G)(i n c:Nat)(A:Option Ev)(h:f (5+i)=EJ A n c):ii (ZL f i) (5+i) (EJ A (min n 70) c)=ZL f (i+1):=by
 funext j;by_cases e:j=5+i;·subst e;rw[Ni];unfold ZL;rw[if_pos D,h];rfl
 ·rw[xT _ _ _ _ e];unfold ZL;by_cases h1:5<=j/\j<5+i;·rw[if_pos h1,if_pos D]
  ·rw[if_neg h1,if_neg D]
theorem EhQ{f:Nat->G}(h:Nj w f):mH (ZL f 4) (fun i=>I5 (f i)) (xJ f)/\nE w (ZL f 4) (xJ f):=by
 have hk: ∀i,5<=i->i<=8-> ∃(A:Option Ev) (xs:List Int) (c:Nat),f i=EJ A xs.length c/\Row w A xs:=fun i h1 h2=>by obtain⟨A,xs,c,e,-,-,r,-⟩:=h.key i h1 h2;exact⟨A,xs,c,e,r⟩
 have hc: ∀i,5<=i->i<=8->ZL f 4 i=YQ (f i):=fun i h1 h2=>by unfold ZL;rw[if_pos D]
 refine⟨⟨fun i h1 h2=> ?_,fun i h1 h2=> ?_⟩,fun i h1 h2=> ?_⟩;·obtain⟨e1,e2,e3⟩:=h.int i h1 h2;refine⟨?_,e2,e3⟩;unfold ZL;rw[if_neg D];exact e1
 ·obtain⟨A,xs,c,e,r⟩:=hk i h1 h2;exact⟨A,c,YV⟩
 ·obtain⟨A,xs,c,e,r⟩:=hk i h1 h2;exact⟨A,c,xs.take (min xs.length 70),YV,by unfold xJ;simp only[e,ZJ];omega,qI r _⟩
theorem nE.u{g:Nat->G}{kl:Nat->Nat}(h:nE w g kl)(hb:Ek w w'):nE w' g kl:=fun i h1 h2=>by obtain⟨A,c,ys,e1,e2,e3⟩:=h i h1 h2;exact⟨A,c,ys,e1,e2,IH e3 hb⟩
section
variable{P:Program}{a:Act}{o:Oper}{C:World->Prop}{K:Act->Prop}
theorem EhR{r:Bool}(ho:o.op= .binOp .neq T x y Y3)(hm:P.eqGuardType P.depth T=V)(hq: ∀W,(XG .neq T (EZ xs) (EZ ys)).run P W= .ok (EU r) W)(h1:a.eval x=EZ xs)(h2:a.eval y=EZ ys)(hk:K (a.put o.dst (EU r))):o.quiet P a C K:=by refine⟨_,fun w hw=> ?_,hk⟩;have:=EhN (w:=w) ho hm (hq w) a.eval h1 h2;unfold ik;rw[this];first|exact⟨rfl,rfl⟩|rfl
end
theorem EhS(W:M):(XG .neq 38 (EZ X_.toArray) (EZ X_.toArray)).run Ea W= .ok (EU V) W:=EhM (YG W)
theorem EhT{b:Nat}(h:w.ownsRow b 43 46 (EJ A n c) n (dP Jc))(hl:Jc.length=n)(hs: ∀tv∈Jc,tv=hH/\tv.size=46)(hi:i<n): ∃g,A=X ⟨g,0,Z⟩/\w.rangeAt g (i*46) X_/\w.cell? ⟨g,i*46+12,Z⟩=X (EJ Z 0 0)/\w.cell? ⟨g,i*46+13,Z⟩=X (EJ Z 0 0):=by
 obtain⟨g,tv,rfl,hm,hc⟩:=YK h hl (fun tv h=>(hs tv h).2) hi;obtain rfl:=(hs tv hm).1;refine⟨g,U,fun j v hj=> ?_,(hc 12 D).trans U,(hc 13 D).trans U⟩
 have hjl:j<12:=by
  rcases JW j 12 with h|h;·exact h
  ·rw[am Cm] at hj;cases hj
 rw[hc j D,hH,Jl,J0,bO Cm];exact hj
def L5:wV:=⟨fun _=>0,fun _=>V,fun _=>0,V⟩
theorem EhV(w:M):Eg Ea 17 #[EZ XI,EZ XI] w fun e w'=>e=Eh (EU EI)/\Ek w w':=by have e:XI=b_ L5 (EJ Z 0 0):=Ef;rw[e];have o:w.ownsRow 0 3 1 (EJ Z 0 0) 0 (UK []):=⟨U,.inl ⟨U,U⟩⟩;refine(Ehp L5 L5 0 0 Z Z 0 0 0 0 [] [] w D U U o o).mono ?_;rintro en w' ⟨⟨r,rfl,hr⟩,hb⟩;rw[hr ⟨fun _ _=>rfl,fun _ _=>rfl,fun _ _=>rfl,U⟩ U];exact⟨U,hb⟩
theorem EhW:Tryz.prog.built 54 []=X XI:=Ef
theorem walk_TopInvalid(v0 v1:G)(w:M)(hR:JH w)(hC:X5 w)(q0:Nk w v0)(q1:sh w v1): Eg Ea 4 #[v0,v1] w fun e w'=>e=Eh (EU EI)/\Ek w w':=by
 obtain⟨f,rfl,hp⟩:=q0;have RT:=J<|JR hR hC;have HQ:=J q1;have HP:=J hp;obtain⟨n0,hn0⟩:=Eo w.heap.size;unfold Ek;rw[<-hn0];have HN:=J hn0;have SH:=J EhL;have PV:=J<|EhQ hp;obtain⟨p,l_⟩:=Eo (fun i=>I5 (f i):Nat->Int);obtain⟨kl,hkl⟩:=Eo (xJ f);rw[<-l_,<-hkl] at PV;clear hR hC q1 hp hn0 l_ hkl;go_enter Tryz.func4,Tryz.ntmps4;go_wp2_with fail;have K0:=J<|H.new w (EN 56 f) 28;have b1:=Er w (Ec (EN 56 f) 28);obtain⟨gp,O8⟩:=Eo w.heap.size;rw[<-O8] at K0⊢;have By:=J (show n0<=gp from J2);generalize w.alloc (Ec (EN 56 f) 28)=w1 at*;clear O8;refine(SH.out _ (RT.out.1.u b1) (RT.out.2.u b1) (YP (RT.out.2.u b1))).mono ?_;rintro e w2 ⟨rfl,b2⟩;have B:Ed (Ir n0 w w2):=J (by rw[HN.out];exact bt b1 b2);have KP:=J<|K0.out.u b2;rw[<-EhP f] at KP;clear K0 b1 b2 SH w1;go_wp2_with fail;go_loopw[6] (fun y wr=> ∃i:Nat,i<=3/\y=E I i/\H wr gp (EN 56 (ZL f i)) 28/\Ir n0 w wr) (fun y _=>3-(I5 y).toNat);case atStart=>exact⟨0,D,U,KP.out,B.out⟩
 case round=>
  clear KP B;obtain⟨i,hi,rfl,YW,Y0⟩:=hrel;have KP:=J YW;have B:=J Y0;clear YW Y0;by_cases hlt:i<3
  ·have t1:decide ((i:Int)<3)=EI:=IE D;obtain⟨A,xs,c,hf,hle,hmx,-,-⟩:=HP.out.key (5+i) D D;obtain⟨n,hn⟩:=Eo xs.length;rw[<-hn] at hf hle;obtain⟨k,hk⟩:=Eo (min n 70);have CK:=J<|YT f i n c A hf;rw[<-hk] at CK;have ek:min (n:Int) 70=(k:Int):=D;have hk1:k<=c:=D;have y0: ∀y:Ext wr,(EA wr y).cell? ⟨gp,5+i,Z⟩=X (EJ A n c):=fun y=>by rw[H.cell (H.u KP.out (EL y)) (5+i),Zz,if_pos D,YR,hf]
   have HK:=J hk;clear hf hn hk;go_wp2_with fail;refine J_ 14 Ef Ef ?_;simp only[Is,Io,IS,IM]
   repeat (first
    |go_big_quiet_skip
    |(go_big_quiet_want
      first
       |(go_big_quiet_op
         first
          |go_big_quiet_on)))
   refine I2 ?_;intro _ hw';obtain⟨y9,rfl⟩:=hw';have En:=EL y9;have K9:=KP.out.u En;have wQ:=J<|B.out.trans (En.mono Lv);have f9:=K9.I_ (5+i);have c9:=y0 y9;have KK:=J<|K9.set (5+i) (EJ A k c);rw[Dv,CK.out] at KK;have LT:=J K9.lt;clear En K9 y0 KP B CK;generalize EA wr y9=w3 at*;go_wp2_with fail;exact⟨⟨i+1,D,Ej,KK.out,wQ.out.setCell (p:=⟨gp,5+i,Z⟩) By.out _⟩,J6⟩
  ·have t1:decide ((i:Int)<3)=V:=Ia D;obtain rfl:i=3:=D;obtain⟨A,xs,c,hf,hle,hmx,-,-⟩:=HP.out.key 8 D D;obtain⟨n,hn⟩:=Eo xs.length;rw[<-hn] at hf hle;obtain⟨k,hk⟩:=Eo (min n 70);have CK:=J<|YT f 3 n c A hf;rw[<-hk] at CK;have ek:min (n:Int) 70=(k:Int):=D;have hk1:k<=c:=D;have c8:wr.cell? ⟨gp,8,Z⟩=X (EJ A n c):=by rw[H.cell KP.out 8,Zz,if_pos D];exact congrArg X ((YR f 3).trans hf)
   have f8:=KP.out.I_ 8;have KK:=J<|KP.out.set 8 (EJ A k c);rw[Dv,show ii (ZL f 3) 8 (EJ A k c)=ZL f 4 from CK.out] at KK;have BS:=J<|B.out.setCell (p:=⟨gp,8,Z⟩) By.out (EJ A k c);clear hf hn hk CK KP B;go_wp2_with fail;generalize wr.setCell ⟨gp,8,Z⟩ (EJ A k c)=w4 at*;clear c8 f8 ek hk1 hle hmx t1 hlt hi;refine(Eg9 v1 _ (HQ.out.u (by have:=BS.out;rw[HN.out] at this;exact this))).mono ?_;rintro e w6 ⟨⟨Ae,n,ce,es,rfl,EhY,hev⟩,b6⟩;have EE:=J hev;have K6:=J<|KK.out.u b6;have B6:=J<|BS.out.trans (b6.mono (by have:=BS.out.size;have:=HN.out;omega));clear hev b6 KK BS HQ;generalize w4.heap.size=b0 at*;clear w4;obtain⟨pv,hpv⟩:=Eo (EN 56 (ZL f 4));have PS:Ed (pv.size=56):=J (by rw[hpv];simp);have gX:Ed (Ek w w6):=J (by unfold Ek;rw[<-HN.out];exact B6.out);have RA:=J<|Yr (ZL f 4) p kl b0 Ae n ce es w6 PV.out.1 (PV.out.2.u gX.out) (RT.out.1.u gX.out) (RT.out.2.u gX.out) (YP (RT.out.2.u gX.out)) EhY EE.out;have CA:=J<|fun W=>EhA (ZL f 4) p kl W PV.out.1;have P55:Ed (pv[55]?=X (E I (p 55))):=J (by rw[hpv,Zz,if_pos D,(PV.out.1.int 55 D D).1]);rw[<-hpv] at RA CA K6;clear hpv gX RT PV HP EE;go_wp2_with ((with_reducible refine XU 28 ?_);(with_reducible refine ZU (g:=gp) Up ?_ ?_ K6 ?_ ?_);(·exact Ei U);(·exact⟨U,U⟩);(·exact PS.out));refine RA.out.mono ?_;rintro e w7 ⟨⟨At,ct,Jc,sv,code,rfl,own,tl,sD,sz,ps⟩,b7⟩;have K7:=J<|K6.out.u b7;have B7:=J<|B6.out.trans (b7.mono (by have:=B6.out.size;have:=HN.out;omega));have OWN:=J own;have TA:=J<|JR tl sD;unfold wR at ps;have Cn:=J ps;have SZ:=J sz
   have SO:Ed (sv.all (·.oneCell')=EI):=J (by
    rcases ps with⟨-,-,rfl⟩|⟨-,-,c,A,n,d,rfl,-⟩;·exact BW
    ·exact Lt _ _ _ _)
   obtain⟨r,hr⟩:=Eo (UA p kl)
   obtain rfl:code=r:=by
    rw[hr];rcases ps with⟨-,h,-⟩|⟨h1,h2,-⟩;·exact h
    ·rw[h1,h2]
   rw[<-hr] at CA Cn TA;clear hr own tl sD sz ps RA B6 K6;obtain⟨zs,hzs⟩:=Eo XI;have ZT:Ed (Ow Ea 54 zs):=J (by rw[hzs];exact pF);have Y1:Ed (zs.size=31):=J Lx;clear hzs;have KS:=J<|H.new w7 zs 54;have bq:=Er w7 (Ec zs 54);generalize hgs:w7.heap.size=gs at KS;go_wp2_with ((with_reducible show Ih _ _ _ (⟨_,.alloc 54,_,_,_,Z⟩::_) _ _);(with_reducible refine Mo ZT.out ?_ ?_ ?_);(·exact Ei U);(·rfl);refine Ey.mk ?_);apply Et;have bs:=E6 (g:=gs) bq D sv;generalize w7.alloc (Ec zs 54)=w8 at*;go_wp2_with ((with_reducible refine Jr 54 ?_);(with_reducible refine Z7 (g:=gs) (cs:=sv) dG ?_ ?_ KS ?_ ?_ ?_ ?_);(·exact Ei U);(·exact⟨U,U,U⟩);(·exact Y1.out);(·exact SZ.out);(·exact SO.out);refine Ey.mk ?_);apply Et;replace KS:=J<|KS.out.setRow sv;generalize w8.setRow gs sv=w9 at*;replace K7:=J<|K7.out.u bs;replace B7:=J<|B7.out.trans (bs.mono L6);replace OWN:=J<|EQ OWN.out fun _ _ hk=>H.u hk bs;clear bq bs hgs ZT Y1 w8;go_wp2_with ((with_reducible refine XU 28 ?_);(with_reducible refine ZU (g:=gp) Up ?_ ?_ K7 ?_ ?_);(·exact Ei U);(·exact⟨U,U⟩);(·exact PS.out));refine(CA.out _).mono ?_;rintro e U0 ⟨rfl,b10⟩;replace KS:=J<|KS.out.u b10;replace K7:=J<|K7.out.u b10;replace B7:=J<|B7.out.trans (b10.mono L6);replace OWN:=J<|EQ OWN.out fun _ _ hk=>H.u hk b10;clear b10 CA w9;rcases Cn.out with⟨h1,-,h2⟩|⟨h1,h3,c,A,nq,d,h2,he,Y2,hh4⟩
   ·have t0:(code==0)=V:=by simpa using h1
    have TAL:Ed (∀tv∈Jc,tv=hH/\tv.size=46):=J<|fun tv h=>⟨(TA.out.2 tv h).1 h1,(TA.out.2 tv h).2⟩;have SVZ:=J h2;clear h1 h2 Cn;go_wp2_with fail;go_loopw[12] (fun y wr=> ∃i:Nat,i<=n/\y=E I i/\Ek U0 wr) (fun y _=>n-(I5 y).toNat);case atStart=>exact⟨0,D,U,E_ _ _⟩
    case round=>
     obtain⟨i,hi2,rfl,hb_⟩:=hrel;have HB:=J hb_;clear hb_;by_cases hlt2:i<n
     ·have t1:decide ((i:Int)<(n:Int))=EI:=IE D;obtain⟨g,hA,ra,c12,c13⟩:=EhT (EQ OWN.out (fun _ _ hk=>H.u hk HB.out)) TA.out.1 TAL.out hlt2;subst hA;have RL:=J ra;have y12: ∀y:Ext wr,(EA wr y).cell? ⟨g,i*46+12,Z⟩=X (EJ Z 0 0):=fun y=>by rw[(EL y).cell (UV _ _ c12)];exact c12
      have y13: ∀y:Ext wr,(EA wr y).cell? ⟨g,i*46+13,Z⟩=X (EJ Z 0 0):=fun y=>by rw[(EL y).cell (UV _ _ c13)];exact c13
      have FL:Ed (X_.length=12):=J U;have FA:=J<|fun W=>Ls W;have FQ:=J EhS;obtain⟨fx,hfx⟩:=Eo X_;rw[<-hfx] at RL FL FA FQ;clear hfx ra c12 c13;go_wp2_with fail;refine Zs Ef Ef ?_
      repeat (first
       |go_big_quiet_skip
       |(go_big_quiet_want
         first
          |(refine YH (T:=38) (g:=g) (off:=i*46) sx _ rfl rfl RL ?_ ?_;(·exact FL.out);go_simp;go_big_quiet_on)
          |(refine EhR rfl Ef FQ.out rfl rfl ?_;go_simp;go_big_quiet_on)
          |(go_big_quiet_op
            first
             |go_big_quiet_on
             |go_big_quiet_call (with_reducible refine IY (FA.out _)))))
      refine I2 ?_;intro _ hw';obtain⟨y9,rfl⟩:=hw';have b9:=EW HB (EL y9);clear y12 y13 RL;generalize EA wr y9=cg at*;go_wp2_with fail;exact⟨⟨i+1,D,Ej,b9.out⟩,J6⟩
     ·have t1:decide ((i:Int)<(n:Int))=V:=Ia D;have KZ:=J<|KS.out.u HB.out;have BZ:=J<|B7.out.trans (HB.out.mono L6);have BD:=J EhW;have CZ:=J EhV;rw[<-SVZ.out] at BD CZ;go_wp2_with (first|((with_reducible refine XU 54 ?_);(with_reducible refine ZU (g:=gs) dG ?_ ?_ KZ ?_ ?_);(·exact Ei rfl);(·exact⟨rfl,rfl⟩);(·exact SZ.out))|((with_reducible refine It 114 ?_);refine JO rfl 54 _ rfl sv BD.out ?_));refine(CZ.out _).mono ?_;rintro e Xz ⟨rfl,b12⟩;have BY:=J<|BZ.out.trans (b12.mono (by have:=BZ.out.size;have:=HN.out;omega));go_wp2;go_ret;exact⟨U,BY.out⟩
   ·obtain rfl:=h3;have c0:U0.cell? ⟨gs,0,Z⟩=X (E I c.tok.h):=(KS.out.cell 0).trans (by rw[h2];rfl);have c1:U0.cell? ⟨gs,1,Z⟩=X (E I c.tok.e):=(KS.out.cell 1).trans (by rw[h2];rfl);have c55:U0.cell? ⟨gp,55,Z⟩=X (E I (p 55)):=(K7.out.cell 55).trans P55.out;clear h1 h2 Cn OWN TA KS K7;generalize c.tok.e=ve at*;generalize c.tok.h=vh at*;have d1:decide (p 55<=ve)=EI:=IE he;have d2:decide (0<=vh)=EI:=IE Y2;have d3:decide (vh<=4)=EI:=IE hh4;clear he Y2 hh4;go_wp2;go_ret;exact⟨U,B7.out⟩
end Go.Proofs.YtclmichaaiohjaaGreatDoor
