import Derived.Test.YtclmichaaiohjaaGreatDoorR12
import Derived.DeepKeys
import Derived.Great.BuildSlice
import Derived.LoopTactic
set_option maxRecDepth 100000
set_option linter.unusedVariables false
set_option linter.unusedSimpArgs false
set_option maxHeartbeats 6400000
namespace Go.Proofs.YtclmichaaiohjaaGreatDoor
open RowKit
open And renaming intro->Jm
open Bool renaming true->u,false->B,and_eq_true->Oc
open Go renaming World->M,Calls->Ef,TypeId->EC,Value->V,Addr->Eu,Program->Js,bodyPost_ret->ET,results->Xa,Exit->UW,Act->E6,Oper->EN,yielded->Jd,execOp->Iw,wpList->IZ,undef->I6,Operand->UH,below_setRow->E3,wpQuiet_nil->IM,Ending->Ut
open Act renaming put->In
open Ending renaming returned->Eg
open Instr renaming loadAt->fN,sureAddr->dU,index->JY
open IntKind renaming i64->I
open Lib renaming hid->O
open Obj renaming cells->EJ
open Go.Proofs.Tryz renaming prog->EU
open Region renaming wanted->I_
open Result renaming andThen_ok->Uf
open RowKit renaming Below->Io,Hid->Ea,intOf->Iv
open RowKit.Below renaming refl->IE
open Sem renaming run_bind->Ud,run_pure->UU
open Value renaming bool->Ec,int->E,agg->EZ,slice->EI,tuple->Et,pointer->Y,oneCell'->OC
open World renaming block_lt_of_cell?->XA,ownsRow_nil->cJ,ownsRow_lit->pE
open List renaming getElem?_eq_none->aM,getElem?_eq_getElem->Ok,mem_cons_of_mem->ai,mem_cons_self->hO,nodup_cons->mC,getElem?_eq_some_iff->UG,take_succ_cons->Ir,length_take->aj,replicate->hX,getElem?_append_left->bM,getElem?_append_right->ak,map_cons->UL,map_nil->Xu,take_zero->Im,mem_map->da,getElem?_toArray->Og,setIfInBounds_toArray->Ip,length_append->I2,flatMap_cons->kj,mem_cons->Ui,set_cons_succ->Ig,set_cons_zero->Ih,mem_append->XP,nil_append->Z8,getElem?_cons_zero->kx,not_mem_nil->UP,drop_succ_cons->IL,drop_zero->IG,take_add_one->nm,all_nil->bO,all_cons->ar,mem_of_getElem?->dw,mem_singleton->ft
open Nat renaming lt_or_ge->JG,le_trans->EA,le_refl->E7,zero_add->JV,zero_le->bY,reduceAdd->bU,le_of_lt->ax,le_of_eq->OQ
open Option renaming some->D,none->Z,map_some->j_
open Option.some renaming injEq->nk
open KQ
variable{W W' w w':M}{lo n gq gp k lo2 gc gt gm b off n0 gl i:Nat}{A:Option Eu}{ys cs xs sv:Array V}{x y:UH}{L:List One}{m:Int}{g g2:Nat->V}{v:V}{c:EB}{vs:List Nat}{a:XU}{rs:Int->List Int}{T Y3:EC}{ops:Array EN}{rest:List EN}{o:EN}{Q:UW->E6->M->Prop}{P:Js}{Y5:Array V->Prop}
def tT(p:Nat->Int):Bool:=DC (p 0) (p 1) (p 2) (p 3) (p 4)
def tV(kl:Nat->Nat):Bool:=((Xp (kl 5) 1 64&&Xp (kl 6) 1 64)&&Xp (kl 7) 1 64)&&Xp (kl 8) 1 64
def yJ(p:Nat->Int):Bool:=(p 9==1&&p 13==0)&&([p 10,p 11,p 12].map (E .i64)).all rh
def gR(p:Nat->Int)(k:Nat):V:=EZ #[E I (p (14+k*4)),E I (p (15+k*4)),E I (p (16+k*4)),E I (p (17+k*4))]
def yO(p:Nat->Int):Bool:=[gR p 0,gR p 1,gR p 2,gR p 3,gR p 4].all tR
def yU(p:Nat->Int):Bool:=([p 34,p 35,p 36,p 37,p 38].map (E .i64)).all (Uz 0 31)
def yX(p:Nat->Int):Bool:=([p 39,p 40,p 41].map (E .i64)).all (Uz 0 4)
def yZ(p:Nat->Int):Bool:=([p 42,p 43,p 44,p 45].map (E .i64)).all (Uz 1 1000)
def ya(p:Nat->Int):Bool:=Xp (p 46) 1 1000&&Xp (p 47) 0 1000
def yd(p:Nat->Int):Bool:=([p 48,p 49].map (E .i64)).all (Uz 1 3)
def yf(p:Nat->Int):Bool:=(p 50==0&&([p 51,p 52,p 53].map (E .i64)).all (Uz 0 1000))&&Xp (p 54) 1 1000
def DD(p:Nat->Int):Bool:=Xp (p 55) 0 65535
def yg(b1 b2 b3 b4 b5 b6 b7 b8 b9 b10 b11:Bool):Int:=
 bif b1 then bif b2 then bif b3 then bif b4 then bif b5 then bif b6 then bif b7 then bif b8 then bif b9 then bif b10 then bif b11 then 0 else 50 else 49 else 48 else 47 else 46 else 45 else 44 else 43 else 42 else 41 else 40
def XX(p:Nat->Int)(kl:Nat->Nat):Int:=yg (tT p) (tV kl) (yJ p) (yO p) (yU p) (yX p) (yZ p) (ya p) (yd p) (yf p) (DD p)
structure yh(g:Nat->V)(p:Nat->Int)(kl:Nat->Nat):Prop where
 int: ∀i,i<56->i<5\/8<i->g i=E I (p i)/\JI (p i)
 key: ∀i,5<=i->i<=8-> ∃(A:Option Eu) (c:Nat),g i=EI A (kl i) c
 ok:tT p=B\/XX p kl=0
theorem M8x: ∀b2 b3 b4 b5 b6 b7 b8 b9 b10 b11,yg u b2 b3 b4 b5 b6 b7 b8 b9 b10 b11=0->b2=u/\b3=u/\b4=u/\b5=u/\b6=u/\b7=u/\b8=u/\b9=u/\b10=u/\b11=u:=by intro b2 b3 b4 b5 b6 b7 b8 b9 b10 b11 h;unfold yg at h;cases b2<;>cases b3<;>cases b4<;>cases b5<;>cases b6<;>cases b7<;>cases b8<;>cases b9<;>cases b10<;>cases b11<;>first|(cases h;done)|simp
theorem Eh4:IW EU 22 5:=⟨⟨_,Tryz.underlying22,U⟩,Ed⟩
theorem Eh5(g:Nat->V)(p:Nat->Int)(kl:Nat->Nat)(w:M)(hv:yh g p kl): Ef EU 39 #[EZ (EK 56 g)] w fun e w'=>e=Eg (E I (XX p kl))/\El w w':=by
 obtain⟨r,hr⟩:=En (XX p kl);have hok:tT p=B\/r=0:=by rw[hr];exact hv.ok
 rw[<-hr];unfold XX at hr;obtain⟨b1,hb1⟩:=En (tT p);rw[<-hb1] at hr hok;replace hb1:=O hb1;obtain⟨b2,hb2⟩:=En (tV kl);rw[<-hb2] at hr;replace hb2:=O hb2;obtain⟨b3,hb3⟩:=En (yJ p);rw[<-hb3] at hr;replace hb3:=O hb3;obtain⟨b4,hb4⟩:=En (yO p);rw[<-hb4] at hr;replace hb4:=O hb4;obtain⟨b5,hb5⟩:=En (yU p);rw[<-hb5] at hr;replace hb5:=O hb5;obtain⟨b6,hb6⟩:=En (yX p);rw[<-hb6] at hr;replace hb6:=O hb6;obtain⟨b7,qy⟩:=En (yZ p);rw[<-qy] at hr;replace qy:=O qy;obtain⟨b8,DH⟩:=En (ya p);rw[<-DH] at hr;replace DH:=O DH;obtain⟨b9,DK⟩:=En (yd p);rw[<-DK] at hr;replace DK:=O DK;obtain⟨b10,DL⟩:=En (yf p);rw[<-DL] at hr;replace DL:=O DL;obtain⟨b11,DM⟩:=En (DD p);rw[<-DM] at hr;replace DM:=O DM;have HRR:=O hr;have K0:=O<|H.new w (EK 56 g) 28;have tW:=Ep w (EJ (EK 56 g) 28);have PV:=O hv;have qO:=O hok;clear hr hv hok;go_enter Tryz.func39,Tryz.ntmps39;go_wp2_with (with_reducible refine I7 4 ?_);apply Eo;obtain⟨gp,Xj⟩:=En w.heap.size;rw[<-Xj] at K0⊢;have KP:=O K0.out;have B1:=O tW;clear K0 tW Xj;generalize w.alloc (EJ (EK 56 g) 28)=w1 at*;have BB:=O<|IE w1.heap.size w1;have PC:Ea (∀W,El w1 W-> ∀i,i<56->i<5\/8<i->W.cell? ⟨gp,i,Z⟩=D (E I (p i))):=O (fun W hW i h1 h2=>by rw[H.cell (H.G KP.out hW) i,cU,if_pos h1,(PV.out.int i h1 h2).1]);have dH:Ea ((EK 56 g).extract 0 (0+5)= #[E I (p 0),E I (p 1),E I (p 2),E I (p 3),E I (p 4)]):=O (by have e:(EK 56 g).extract 0 (0+5)= #[g 0,g 1,g 2,g 3,g 4]:=hM;rw[e,(PV.out.int 0 X X).1,(PV.out.int 1 X X).1,(PV.out.int 2 X X).1,(PV.out.int 3 X X).1,(PV.out.int 4 X X).1]);have CO:Ea (∀W,Ef EU 59 #[EZ #[E I (p 0),E I (p 1),E I (p 2),E I (p 3),E I (p 4)]] W fun e w'=>e=Eg (Ec b1)/\El W w'):=O (fun W=>by rw[hb1.out];exact Eh1 _ _ _ _ _ W);go_wp2_with (with_reducible refine wM (off:=0) (cs:= #[E I (p 0),E I (p 1),E I (p 2),E I (p 3),E I (p 4)]) Eh4 KP ?_ (he:=dH.out));refine(CO.out _).mono ?_;rintro e W1 ⟨rfl,bb⟩;replace BB:=EW BB bb;clear bb CO dH;cases b1 with
 |false=> go_wp2_with fail;go_ret;exact⟨by rw[HRR.out];rfl,bt B1.out BB.out⟩
 |true=>
 obtain⟨t2,t3,t4,t5,t6,t7,t8,t9,t10,t11⟩:=M8x _ _ _ _ _ _ _ _ _ _ (by rw[<-HRR.out];exact qO.out.resolve_left Eb);have T2:=O t2;have T3:=O t3;have T4:=O t4;have T5:=O t5;have T6:=O t6;have T7:=O t7;have T8:=O t8;have T9:=O t9;have M9:=O t10;have T11:=O t11;clear t2 t3 t4 t5 t6 t7 t8 t9 t10 t11 qO;obtain⟨A5,c5,e5⟩:=PV.out.key 5 X X;obtain⟨A6,c6,e6⟩:=PV.out.key 6 X X;obtain⟨A7,c7,e7⟩:=PV.out.key 7 X X;obtain⟨A8,c8,e8⟩:=PV.out.key 8 X X;obtain⟨DN,M_⟩:=En ([EI A5 (kl 5) c5,EI A6 (kl 6) c6,EI A7 (kl 7) c7].all M0);obtain⟨DP,NE⟩:=En (Xp (kl 8) 1 64);obtain rfl:b2=(DN&&DP):=by rw[hb2.out,M_,NE];unfold tV;simp[M0,Bool.and_assoc]
 have CK:Ea (∀W,El w1 W->Ef EU 60 #[EI (D ⟨gp,5,Z⟩) 3 3,.func (.func 61) #[] #[]] W fun e w'=>e=Eg (Ec DN)/\El W w'):=O (fun W hW=>by
  rw[M_];refine EhS 61 #[] _ M0 gp 5 3 3 W U X ⟨fun _ _=>Ed,fun v hv W2 hW2=> ?_⟩ (fun i v hi=> ?_)
  ·obtain⟨A,n,c,rfl⟩: ∃A n c,v=EI A n c:=by simp only[Ui,UP,or_false] at hv;rcases hv with rfl|rfl|rfl<;>exact⟨_,_,_,rfl⟩
   refine(EEw A n c W2).mono ?_;rintro e w' ⟨rfl,rfl⟩;exact⟨U,IE _ _⟩
  ·have hc: ∀i,i<56->W.cell? ⟨gp,i,Z⟩=D (g i):=fun i h=>by rw[H.cell (H.G KP.out hW) i,cU,if_pos h]
   match i,hi with
   |0,hi=>injection hi with hi;rw[<-hi,<-e5];exact hc 5 X
   |1,hi=>injection hi with hi;rw[<-hi,<-e6];exact hc 6 X
   |2,hi=>injection hi with hi;rw[<-hi,<-e7];exact hc 7 X)
 have CK8:Ea (∀W,Ef EU 61 #[EI A8 (kl 8) c8] W fun e w'=>e=Eg (Ec DP)/\W=w'):=O (fun W=>by rw[NE];exact EEw _ _ _ W);have C8:Ea (∀W,El w1 W->W.cell? ⟨gp,8,Z⟩=D (EI A8 (kl 8) c8)):=O (fun W hW=>by rw[H.cell (H.G KP.out hW) 8,cU,if_pos X,e8]);clear e5 e6 e7 e8 M_ NE;go_wp2_with fail;refine(CK.out _ BB.out).mono ?_;rintro e W2 ⟨rfl,bb⟩;replace BB:=EW BB bb;clear bb CK;have cc8:=C8.out _ BB.out;obtain rfl:DN=u:=by have h:=T2.out;revert h;cases DN<;>simp
 go_wp2_with fail;refine(CK8.out _).mono ?_;rintro e W2' ⟨rfl,rfl⟩;obtain rfl:DP=u:=by have h:=T2.out;revert h;cases DP<;>simp
 clear CK8 C8 cc8;have c9:=PC.out _ BB.out 9 X X;have c13:=PC.out _ BB.out 13 X X;obtain⟨NI,NJ⟩: ∃b,b=([p 10,p 11,p 12].map (E .i64)).all rh:=⟨_,U⟩
 have EEy:Ea (∀W,El w1 W-> ∀i v,([p 10,p 11,p 12].map (E .i64))[i]?=D v->W.cell? ⟨gp,10+i,Z⟩=D v):=O (fun W hW i v hi=>by
  match i,hi with
  |0,hi=>injection hi with hi;rw[<-hi];exact PC.out W hW 10 X X
  |1,hi=>injection hi with hi;rw[<-hi];exact PC.out W hW 11 X X
  |2,hi=>injection hi with hi;rw[<-hi];exact PC.out W hW 12 X X
  )
 have CR:Ea (∀W,El w1 W->Ef EU 62 #[EI (D ⟨gp,10,Z⟩) 3 4,.func (.func 63) #[] #[]] W fun e w'=>e=Eg (Ec NI)/\El W w'):=O (fun W hW=>by
  rw[NJ];refine oh 63 #[] _ rh gp 10 3 4 W U X ⟨fun _ _=>Ed,fun v hv W2 hW2=> ?_⟩ (EEy.out W hW)
  obtain⟨x,rfl,hx⟩: ∃x,v=E I x/\JI x:=by
   simp only[UL,Xu,Ui,UP,or_false] at hv;rcases hv with rfl|rfl|rfl;·exact⟨_,U,(PV.out.int 10 X X).2⟩
   ·exact⟨_,U,(PV.out.int 11 X X).2⟩
   ·exact⟨_,U,(PV.out.int 12 X X).2⟩
  exact EhV x W2 hx)
 have e3:Ea (b3=((p 9==1&&p 13==0)&&NI)):=O (by rw[hb3.out,NJ];rfl);clear NJ EEy;have h9:p 9=1:=by have h:=T3.out;rw[e3.out] at h;simp at h;exact h.1.1
 have t9:(p 9 !=1)=B:=by simp[h9]
 have iu:p 13=0:=by have h:=T3.out;rw[e3.out] at h;simp at h;exact h.1.2
 have t13:(p 13 !=0)=B:=by simp[iu]
 obtain rfl:b3=NI:=by rw[e3.out];simp[h9,iu]
 clear h9 iu e3;go_wp2_with fail;refine(CR.out _ BB.out).mono ?_;rintro e W3 ⟨rfl,bb⟩;replace BB:=EW BB bb;clear bb CR c9 c13 t9 t13;obtain rfl:b3=u:=by have h:=T3.out;revert h;cases b3<;>simp
 have CR:Ea (∀W,El w1 W->Ef EU 64 #[EI (D ⟨gp,14,Z⟩) 5 5,.func (.func 65) #[] #[]] W fun e w'=>e=Eg (Ec b4)/\El W w'):=O (fun W hW=>by
  rw[hb4.out];have hrow: ∀v∈[gR p 0,gR p 1,gR p 2,gR p 3,gR p 4],∃r0 r1 r2 r3:Int,v=EZ #[E I r0,E I r1,E I r2,E I r3]:=fun v hv=>by simp only[Ui,UP,or_false] at hv;rcases hv with rfl|rfl|rfl|rfl|rfl<;>exact⟨_,_,_,_,rfl⟩
  refine EhT 65 #[] _ tR gp 14 5 5 W U X ⟨fun _ _=>Ed,fun v hv W2 hW2=> ?_⟩ 28 (EK 56 g) (H.G KP.out hW) (fun row hr=> ?_) (fun i v hi=> ?_);·obtain⟨r0,r1,r2,r3,rfl⟩:=hrow v hv;exact Eh2 r0 r1 r2 r3 W2
  ·obtain⟨r0,r1,r2,r3,e⟩:=hrow _ hr;injection e with e;rw[e];simp[OC]
  ·match i,hi with
   |0,hi=> injection hi with hi;refine⟨_,hi.symm,U,?_⟩;have e:(EK 56 g).extract (14) (14+4)= #[g 14,g 15,g 16,g 17]:=hM;rw[show 14+0*4=14 from rfl,e,(PV.out.int 14 X X).1,(PV.out.int 15 X X).1,(PV.out.int 16 X X).1,(PV.out.int 17 X X).1]
   |1,hi=> injection hi with hi;refine⟨_,hi.symm,U,?_⟩;have e:(EK 56 g).extract (18) (18+4)= #[g 18,g 19,g 20,g 21]:=hM;rw[show 14+1*4=18 from rfl,e,(PV.out.int 18 X X).1,(PV.out.int 19 X X).1,(PV.out.int 20 X X).1,(PV.out.int 21 X X).1]
   |2,hi=> injection hi with hi;refine⟨_,hi.symm,U,?_⟩;have e:(EK 56 g).extract (22) (22+4)= #[g 22,g 23,g 24,g 25]:=hM;rw[show 14+2*4=22 from rfl,e,(PV.out.int 22 X X).1,(PV.out.int 23 X X).1,(PV.out.int 24 X X).1,(PV.out.int 25 X X).1]
   |3,hi=> injection hi with hi;refine⟨_,hi.symm,U,?_⟩;have e:(EK 56 g).extract (26) (26+4)= #[g 26,g 27,g 28,g 29]:=hM;rw[show 14+3*4=26 from rfl,e,(PV.out.int 26 X X).1,(PV.out.int 27 X X).1,(PV.out.int 28 X X).1,(PV.out.int 29 X X).1]
   |4,hi=> injection hi with hi;refine⟨_,hi.symm,U,?_⟩;have e:(EK 56 g).extract (30) (30+4)= #[g 30,g 31,g 32,g 33]:=hM;rw[show 14+4*4=30 from rfl,e,(PV.out.int 30 X X).1,(PV.out.int 31 X X).1,(PV.out.int 32 X X).1,(PV.out.int 33 X X).1]
   )
 go_wp2_with fail;refine(CR.out _ BB.out).mono ?_;rintro e W4 ⟨rfl,bb⟩;replace BB:=EW BB bb;clear bb CR;obtain rfl:b4=u:=by have h:=T4.out;revert h;cases b4<;>simp
 have vm:Ea (b5=([p 34,p 35,p 36,p 37,p 38].map (E .i64)).all (Uz 0 31)):=O hb5.out
 have EEz:Ea (∀W,El w1 W-> ∀i v,([p 34,p 35,p 36,p 37,p 38].map (E .i64))[i]?=D v->W.cell? ⟨gp,34+i,Z⟩=D v):=O (fun W hW i v hi=>by
  match i,hi with
  |0,hi=>injection hi with hi;rw[<-hi];exact PC.out W hW 34 X X
  |1,hi=>injection hi with hi;rw[<-hi];exact PC.out W hW 35 X X
  |2,hi=>injection hi with hi;rw[<-hi];exact PC.out W hW 36 X X
  |3,hi=>injection hi with hi;rw[<-hi];exact PC.out W hW 37 X X
  |4,hi=>injection hi with hi;rw[<-hi];exact PC.out W hW 38 X X
  )
 go_wp2_with fail;refine iA (Ph:=fun _ wq=>El w1 wq) (Rel:=Oa) (Ij:=fun w w'=>w=w') [kp gp 34,kq (EI (D ⟨gp,34,Z⟩) 5 5),.dep (Um 0 31) (fun v w w' h hr=>h.G hr) (fun v w w' h hr=>aX),kq (Ec b5),kq (Ec (!b5)),kq (Ec (!b5))] [B,B,B,B,B,B] U [] [(0,0),(0,0),(0,0),(0,0),(0,0),(0,0)] Ed Ed Ed Ed Ed U_ Ed ?hPh ?h0 ?hstep ?hend;case hPh=> intro p_ w2 w3 h hr;exact bt h hr
 case h0=> exact bt BB.out (Jk W4)
 case hstep=>
  refine⟨?_,?_,?_,?_,?_,?_,trivial⟩;all_goals intro xv wq p_ hlo hhi hp hd
  all_goals simp only[EL,In,Ip,Ig,Ih]
  ·exact Emq
  ·have d0:xv 0=Y (D ⟨gp,34,Z⟩):=hd.at 0 rfl;exact EpX
  ·refine JR (f:=66) (args:= #[E I 0,E I 31]) (Ei U) Ez ?_;exact(gQ 0 31 wq).mono fun e w2 ⟨v,he,hv,hb⟩=>⟨v,he,hb,hv⟩
  ·have d1:xv 1=EI (D ⟨gp,34,Z⟩) 5 5:=hd.at 1 rfl;obtain⟨cap,e1,hok⟩:=Um.ok (hd.at 2 rfl:Um 0 31 (xv 2) wq);refine JR (f:=62) (args:= #[EI (D ⟨gp,34,Z⟩) 5 5,.func (.func 80) #[] cap]) (Ei U) (by simp[go_sem,e1,d1]) ?_;exact(oh _ cap ([p 34,p 35,p 36,p 37,p 38].map (E .i64)) (Uz 0 31) gp 34 5 5 wq U X (hok _ (tS U)) (EEz.out wq hp)).mono fun e w2 ⟨he,hb⟩=>⟨Ec b5,he.trans (by rw[vm.out]),hb,U⟩
  ·have d3:xv 3=Ec b5:=hd.at 3 rfl;exact EpU
  ·have d4:xv 4=Ec (!b5):=hd.at 4 rfl;exact Ept
 case hend=>
  intro xv W5 hp hd;simp only[EL,In,Ip,Ig,Ih];have a4:xv 4=Ec (!b5):=hd 4 Eb;have a5:xv 5=Ec (!b5):=hd 5 Eb;rw[a4,a5];clear hd a4 a5;replace BB:=O hp;clear hp;clear EEz vm;obtain rfl:b5=u:=by have h:=T5.out;revert h;cases b5<;>simp
  have vn:Ea (b6=([p 39,p 40,p 41].map (E .i64)).all (Uz 0 4)):=O hb6.out;go_wp2_with fail;refine iA (Ph:=fun _ wq=>El w1 wq) (Rel:=Oa) (Ij:=fun w w'=>w=w') [kp gp 39,kq (E I (p 39)),kp gp 40,kq (E I (p 40)),kp gp 41,kq (E I (p 41)),.dep (fun v w=> ∃b:Nat,v=EI (D ⟨b,0,Z⟩) 3 3/\H w b #[E I (p 39),E I (p 40),E I (p 41)] 3) (fun v w w' h hr=>NU) (fun v w w' h hr=>aX),.dep (Um 0 4) (fun v w w' h hr=>h.G hr) (fun v w w' h hr=>aX),kq (Ec b6),kq (Ec (!b6)),kq (Ec (!b6))] [B,B,B,B,B,B,B,B,B,B,B] U [] [(0,0),(0,0),(0,0),(0,0),(0,0),(0,0),(0,0),(0,0),(0,0),(0,0),(0,0)] Ed Ed Ed Ed Ed U_ Ed ?hPh ?h0 ?hstep ?hend;case hPh=> intro p_ w2 w3 h hr;exact bt h hr
  case h0=> exact bt BB.out (Jk W5)
  case hstep=>
   refine⟨?_,?_,?_,?_,?_,?_,?_,?_,?_,?_,?_,trivial⟩;all_goals intro xv wq p_ hlo hhi hp hd
   all_goals simp only[EL,In,Ip,Ig,Ih]
   ·exact Emq
   ·have d0:xv 0=Y (D ⟨gp,39,Z⟩):=hd.at 0 rfl;have cc:wq.cell? ⟨gp,39,Z⟩=D (E I (p 39)):=(PC.out _ hp 39 X X);exact Es NZ U
   ·exact Emq
   ·have d2:xv 2=Y (D ⟨gp,40,Z⟩):=hd.at 2 rfl;have cc:wq.cell? ⟨gp,40,Z⟩=D (E I (p 40)):=(PC.out _ hp 40 X X);exact Epm
   ·exact Emq
   ·have d4:xv 4=Y (D ⟨gp,41,Z⟩):=hd.at 4 rfl;have cc:wq.cell? ⟨gp,41,Z⟩=D (E I (p 41)):=(PC.out _ hp 41 X X);exact Es Hl U
   ·have d1:xv 1=E I (p 39):=hd.at 1 rfl;have d3:xv 3=E I (p 40):=hd.at 3 rfl;have d5:xv 5=E I (p 41):=hd.at 5 rfl;exact Zq (w':=wq.alloc (EJ #[E I (p 39),E I (p 40),E I (p 41)] 3)) (Ei U) (by simp[go_sem,d1,d3,d5]) (Ep wq _) ⟨wq.heap.size,U,H.new _ _ _⟩
   ·refine JR (f:=66) (args:= #[E I 0,E I 4]) (Ei U) Ez ?_;exact(gQ 0 4 wq).mono fun e w2 ⟨v,he,hv,hb⟩=>⟨v,he,hb,hv⟩
   ·obtain⟨cap,e1,hok⟩:=Um.ok (hd.at 7 rfl:Um 0 4 (xv 7) wq);obtain⟨b,e2,kb⟩: ∃b:Nat,xv 6=EI (D ⟨b,0,Z⟩) 3 3/\H wq b #[E I (p 39),E I (p 40),E I (p 41)] 3:=hd.at 6 rfl;refine JR (f:=62) (args:= #[EI (D ⟨b,0,Z⟩) 3 3,.func (.func 80) #[] cap]) (Ei U) Na ?_;exact(oh _ cap ([p 39,p 40,p 41].map (E .i64)) (Uz 0 4) b 0 3 3 wq U X (hok _ (tS U)) (fun i v hi=>by have:=(H.cell kb i).trans Ug;simpa using this)).mono fun e w2 ⟨he,hb⟩=>⟨Ec b6,he.trans (by rw[vn.out]),hb,U⟩
   ·have d8:xv 8=Ec b6:=hd.at 8 rfl;exact Es gd U
   ·have d9:xv 9=Ec (!b6):=hd.at 9 rfl;exact Es sh U
  case hend=>
   intro xv W6 hp hd;simp only[EL,In,Ip,Ig,Ih];have a9:xv 9=Ec (!b6):=hd 9 Eb;have Ul:xv 10=Ec (!b6):=hd 10 Eb;rw[a9,Ul];clear hd a9 Ul;replace BB:=O hp;clear hp;clear vn;obtain rfl:b6=u:=by have h:=T6.out;revert h;cases b6<;>simp
   have vo:Ea (b7=([p 42,p 43,p 44,p 45].map (E .i64)).all (Uz 1 1000)):=O qy.out;go_wp2_with fail;refine iA (Ph:=fun _ wq=>El w1 wq) (Rel:=Oa) (Ij:=fun w w'=>w=w') [kp gp 42,kq (E I (p 42)),kp gp 43,kq (E I (p 43)),kp gp 44,kq (E I (p 44)),kp gp 45,kq (E I (p 45)),.dep (fun v w=> ∃b:Nat,v=EI (D ⟨b,0,Z⟩) 4 4/\H w b #[E I (p 42),E I (p 43),E I (p 44),E I (p 45)] 3) (fun v w w' h hr=>NU) (fun v w w' h hr=>aX),.dep (Um 1 1000) (fun v w w' h hr=>h.G hr) (fun v w w' h hr=>aX),kq (Ec b7),kq (Ec (!b7)),kq (Ec (!b7))] [B,B,B,B,B,B,B,B,B,B,B,B,B] U [] [(0,0),(0,0),(0,0),(0,0),(0,0),(0,0),(0,0),(0,0),(0,0),(0,0),(0,0),(0,0),(0,0)] Ed Ed Ed Ed Ed U_ Ed ?hPh ?h0 ?hstep ?hend;case hPh=> intro p_ w2 w3 h hr;exact bt h hr
   case h0=> exact bt BB.out (Jk W6)
   case hstep=>
    refine⟨?_,?_,?_,?_,?_,?_,?_,?_,?_,?_,?_,?_,?_,trivial⟩;all_goals intro xv wq p_ hlo hhi hp hd
    all_goals simp only[EL,In,Ip,Ig,Ih]
    ·exact Emq
    ·have d0:xv 0=Y (D ⟨gp,42,Z⟩):=hd.at 0 rfl;have cc:wq.cell? ⟨gp,42,Z⟩=D (E I (p 42)):=(PC.out _ hp 42 X X);exact Es NZ U
    ·exact Emq
    ·have d2:xv 2=Y (D ⟨gp,43,Z⟩):=hd.at 2 rfl;have cc:wq.cell? ⟨gp,43,Z⟩=D (E I (p 43)):=(PC.out _ hp 43 X X);exact Epm
    ·exact Emq
    ·have d4:xv 4=Y (D ⟨gp,44,Z⟩):=hd.at 4 rfl;have cc:wq.cell? ⟨gp,44,Z⟩=D (E I (p 44)):=(PC.out _ hp 44 X X);exact Es Hl U
    ·exact Emq
    ·have d6:xv 6=Y (D ⟨gp,45,Z⟩):=hd.at 6 rfl;have cc:wq.cell? ⟨gp,45,Z⟩=D (E I (p 45)):=(PC.out _ hp 45 X X);exact Es Bz U
    ·have d1:xv 1=E I (p 42):=hd.at 1 rfl;have d3:xv 3=E I (p 43):=hd.at 3 rfl;have d5:xv 5=E I (p 44):=hd.at 5 rfl;have d7:xv 7=E I (p 45):=hd.at 7 rfl;exact Zq (w':=wq.alloc (EJ #[E I (p 42),E I (p 43),E I (p 44),E I (p 45)] 3)) (Ei U) (by simp[go_sem,d1,d3,d5,d7]) (Ep wq _) ⟨wq.heap.size,U,H.new _ _ _⟩
    ·exact Ep_
    ·obtain⟨cap,e1,hok⟩:=Um.ok (hd.at 9 rfl:Um 1 1000 (xv 9) wq);obtain⟨b,e2,kb⟩: ∃b:Nat,xv 8=EI (D ⟨b,0,Z⟩) 4 4/\H wq b #[E I (p 42),E I (p 43),E I (p 44),E I (p 45)] 3:=hd.at 8 rfl;refine JR (f:=62) (args:= #[EI (D ⟨b,0,Z⟩) 4 4,.func (.func 80) #[] cap]) (Ei U) Na ?_;exact(oh _ cap ([p 42,p 43,p 44,p 45].map (E .i64)) (Uz 1 1000) b 0 4 4 wq U X (hok _ (tS U)) (fun i v hi=>by have:=(H.cell kb i).trans Ug;simpa using this)).mono fun e w2 ⟨he,hb⟩=>⟨Ec b7,he.trans (by rw[vo.out]),hb,U⟩
    ·have d10:xv 10=Ec b7:=hd.at 10 rfl;exact Eps
    ·have d11:xv 11=Ec (!b7):=hd.at 11 rfl;exact EpO
   case hend=>
    intro xv W7 hp hd;simp only[EL,In,Ip,Ig,Ih];have Oi:xv 11=Ec (!b7):=hd 11 Eb;have a12:xv 12=Ec (!b7):=hd 12 Eb;rw[Oi,a12];clear hd Oi a12;replace BB:=O hp;clear hp;clear vo;obtain rfl:b7=u:=by have h:=T7.out;revert h;cases b7<;>simp
    obtain⟨Nb,DQ⟩:=En (Xp (p 46) 1 1000);obtain⟨Nc,DR⟩:=En (Xp (p 47) 0 1000);obtain rfl:b8=(Nb&&Nc):=by rw[DH.out,DQ,DR];rfl
    replace DQ:=O DQ;replace DR:=O DR;obtain rfl:Nb=u:=by have h:=T8.out;revert h;cases Nb<;>simp
    obtain rfl:Nc=u:=by have h:=T8.out;revert h;cases Nc<;>simp
    go_wp2_with fail;refine iA (Ph:=fun _ wq=>El w1 wq) (Rel:=Oa) (Ij:=fun w w'=>w=w') [.dep (Um 1 1000) (fun v w w' h hr=>h.G hr) (fun v w w' h hr=>aX),kp gp 46,kq (E I (p 46)),kq (Ec u),kq (Ec B),kq (Ec B),.dep (Um 0 1000) (fun v w w' h hr=>h.G hr) (fun v w w' h hr=>aX),kp gp 47,kq (E I (p 47)),kq (Ec u),kq (Ec B),kq (Ec B),kq (Ec B)] [B,B,B,B,B,B,B,B,B,B,B,B,B] U [] [(0,0),(0,0),(0,0),(0,0),(0,0),(0,0),(0,0),(0,0),(0,0),(0,0),(0,0),(0,0),(0,0)] Ed Ed Ed Ed Ed U_ Ed ?hPh ?h0 ?hstep ?hend;case hPh=> intro p_ w2 w3 h hr;exact bt h hr
    case h0=> exact bt BB.out (Jk W7)
    case hstep=>
     refine⟨?_,?_,?_,?_,?_,?_,?_,?_,?_,?_,?_,?_,?_,trivial⟩;all_goals intro xv wq p_ hlo hhi hp hd
     all_goals simp only[EL,In,Ip,Ig,Ih]
     ·exact Ep_
     ·exact Emq
     ·have d1:xv 1=Y (D ⟨gp,46,Z⟩):=hd.at 1 rfl;have cc:wq.cell? ⟨gp,46,Z⟩=D (E I (p 46)):=(PC.out _ hp 46 X X);exact Es Do U
     ·have d2:xv 2=E I (p 46):=hd.at 2 rfl;obtain⟨wa,wb,e1,ca,cb⟩:Um 1 1000 (xv 0) wq:=hd.at 0 rfl;refine JR (f:=80) (args:= #[E I (p 46),Y (D ⟨wa,0,Z⟩),Y (D ⟨wb,0,Z⟩)]) (Ei U) (by simp[go_sem,e1,d2]) ?_;exact(rf (p 46) 1 1000 wa wb wq ca cb).mono fun e w2 ⟨he,hb⟩=>⟨Ec u,he.trans (by rw[DQ.out]),DT,U⟩
     ·have d3:xv 3=Ec u:=hd.at 3 rfl;exact EpU
     ·have d4:xv 4=Ec B:=hd.at 4 rfl;exact Ept
     ·have d5:xv 5=Ec B:=hd.at 5 rfl;refine JR (f:=66) (args:= #[E I 0,E I 1000]) (cX U U (congrArg D d5)) Ez ?_;exact Eo0
     ·have d5:xv 5=Ec B:=hd.at 5 rfl;exact IQ EM (cX U U (congrArg D d5)) Ez U
     ·have d5:xv 5=Ec B:=hd.at 5 rfl;have d7:xv 7=Y (D ⟨gp,47,Z⟩):=hd.at 7 rfl;have cc:wq.cell? ⟨gp,47,Z⟩=D (E I (p 47)):=(PC.out _ hp 47 X X);exact IQ EM (cX U U (congrArg D d5)) (by simp[go_sem,d7,cc]) U
     ·have d5:xv 5=Ec B:=hd.at 5 rfl;have d8:xv 8=E I (p 47):=hd.at 8 rfl;obtain⟨wa,wb,e1,ca,cb⟩:Um 0 1000 (xv 6) wq:=hd.at 6 rfl;refine JR (f:=80) (args:= #[E I (p 47),Y (D ⟨wa,0,Z⟩),Y (D ⟨wb,0,Z⟩)]) (cX U U (congrArg D d5)) (by simp[go_sem,e1,d8]) ?_;exact(rf (p 47) 0 1000 wa wb wq ca cb).mono fun e w2 ⟨he,hb⟩=>⟨Ec u,he.trans (by rw[DR.out]),DT,U⟩
     ·have d5:xv 5=Ec B:=hd.at 5 rfl;have d9:xv 9=Ec u:=hd.at 9 rfl;exact IQ EM (cX U U (congrArg D d5)) sh U
     ·have d5:xv 5=Ec B:=hd.at 5 rfl;have d10:xv 10=Ec B:=hd.at 10 rfl;exact Es (by simp[go_sem,d5,d10]) U
     ·have d11:xv 11=Ec B:=hd.at 11 rfl;exact EpO
    case hend=>
     intro xv W8 hp hd;simp only[EL,In,Ip,Ig,Ih];have Oi:xv 11=Ec B:=hd 11 Eb;have a12:xv 12=Ec B:=hd 12 Eb;rw[Oi,a12];clear hd Oi a12;replace BB:=O hp;clear hp;have HB9:Ea (b9=([p 48,p 49].map (E .i64)).all (Uz 1 3)):=O DK.out;go_wp2_with fail;refine iA (Ph:=fun _ wq=>El w1 wq) (Rel:=Oa) (Ij:=fun w w'=>w=w') [kp gp 48,kq (E I (p 48)),kp gp 49,kq (E I (p 49)),.dep (fun v w=> ∃b:Nat,v=EI (D ⟨b,0,Z⟩) 2 2/\H w b #[E I (p 48),E I (p 49)] 3) (fun v w w' h hr=>NU) (fun v w w' h hr=>aX),.dep (Um 1 3) (fun v w w' h hr=>h.G hr) (fun v w w' h hr=>aX),kq (Ec b9),kq (Ec (!b9)),kq (Ec (!b9))] [B,B,B,B,B,B,B,B,B] U [] [(0,0),(0,0),(0,0),(0,0),(0,0),(0,0),(0,0),(0,0),(0,0)] Ed Ed Ed Ed Ed U_ Ed ?hPh ?h0 ?hstep ?hend;case hPh=> intro p_ w2 w3 h hr;exact bt h hr
     case h0=> exact bt BB.out (Jk W8)
     case hstep=>
      refine⟨?_,?_,?_,?_,?_,?_,?_,?_,?_,trivial⟩;all_goals intro xv wq p_ hlo hhi hp hd
      all_goals simp only[EL,In,Ip,Ig,Ih]
      ·exact Emq
      ·have d0:xv 0=Y (D ⟨gp,48,Z⟩):=hd.at 0 rfl;have cc:wq.cell? ⟨gp,48,Z⟩=D (E I (p 48)):=(PC.out _ hp 48 X X);exact Es NZ U
      ·exact Emq
      ·have d2:xv 2=Y (D ⟨gp,49,Z⟩):=hd.at 2 rfl;have cc:wq.cell? ⟨gp,49,Z⟩=D (E I (p 49)):=(PC.out _ hp 49 X X);exact Epm
      ·have d1:xv 1=E I (p 48):=hd.at 1 rfl;have d3:xv 3=E I (p 49):=hd.at 3 rfl;exact Zq (w':=wq.alloc (EJ #[E I (p 48),E I (p 49)] 3)) (Ei U) (by simp[go_sem,d1,d3]) (Ep wq _) ⟨wq.heap.size,U,H.new _ _ _⟩
      ·refine JR (f:=66) (args:= #[E I 1,E I 3]) (Ei U) Ez ?_;exact(gQ 1 3 wq).mono fun e w2 ⟨v,he,hv,hb⟩=>⟨v,he,hb,hv⟩
      ·obtain⟨cap,e1,hok⟩:=Um.ok (hd.at 5 rfl:Um 1 3 (xv 5) wq);obtain⟨b,e2,kb⟩: ∃b:Nat,xv 4=EI (D ⟨b,0,Z⟩) 2 2/\H wq b #[E I (p 48),E I (p 49)] 3:=hd.at 4 rfl;refine JR (f:=62) (args:= #[EI (D ⟨b,0,Z⟩) 2 2,.func (.func 80) #[] cap]) (Ei U) Na ?_;exact(oh _ cap ([p 48,p 49].map (E .i64)) (Uz 1 3) b 0 2 2 wq U X (hok _ (tS U)) (fun i v hi=>by have:=(H.cell kb i).trans Ug;simpa using this)).mono fun e w2 ⟨he,hb⟩=>⟨Ec b9,he.trans (by rw[HB9.out]),hb,U⟩
      ·have d6:xv 6=Ec b9:=hd.at 6 rfl;exact Es nf U
      ·have d7:xv 7=Ec (!b9):=hd.at 7 rfl;exact Es gh U
     case hend=>
      intro xv W9 hp hd;simp only[EL,In,Ip,Ig,Ih];have a7:xv 7=Ec (!b9):=hd 7 Eb;have a8:xv 8=Ec (!b9):=hd 8 Eb;rw[a7,a8];clear hd a7 a8;replace BB:=O hp;clear hp;clear HB9;obtain rfl:b9=u:=by have h:=T9.out;revert h;cases b9<;>simp
      obtain⟨DW,DY⟩: ∃b,b=([p 51,p 52,p 53].map (E .i64)).all (Uz 0 1000):=⟨_,U⟩;obtain⟨D0,D2⟩:=En (Xp (p 54) 1 1000);have e10:Ea (b10=((p 50==0&&DW)&&D0)):=O (by rw[DL.out,DY,D2];rfl);replace DY:=O DY;replace D2:=O D2
      have Eh8:Ea (∀W,El w1 W-> ∀i v,([p 51,p 52,p 53].map (E .i64))[i]?=D v->W.cell? ⟨gp,51+i,Z⟩=D v):=O (fun W hW i v hi=>by
       match i,hi with
       |0,hi=>injection hi with hi;rw[<-hi];exact PC.out W hW 51 X X
       |1,hi=>injection hi with hi;rw[<-hi];exact PC.out W hW 52 X X
       |2,hi=>injection hi with hi;rw[<-hi];exact PC.out W hW 53 X X
       )
      have h50:p 50=0:=by have h:=M9.out;rw[e10.out] at h;simp at h;exact h.1.1
      have t50:(p 50 !=0)=B:=by simp[h50]
      obtain rfl:b10=(DW&&D0):=by rw[e10.out];simp[h50]
      clear e10 h50;obtain rfl:DW=u:=by have h:=M9.out;revert h;cases DW<;>simp
      obtain rfl:D0=u:=by have h:=M9.out;revert h;cases D0<;>simp
      go_wp2_with fail;refine iA (Ph:=fun _ wq=>El w1 wq) (Rel:=Oa) (Ij:=fun w w'=>w=w') [kp gp 50,kp gp 50,kq (E I (p 50)),kq (Ec B),kq (Ec B),kp gp 50,kq (EI (D ⟨gp,51,Z⟩) 3 3),.dep (Um 0 1000) (fun v w w' h hr=>h.G hr) (fun v w w' h hr=>aX),kq (Ec u),kq (Ec B),kq (Ec B),kq (Ec B),.dep (Um 1 1000) (fun v w w' h hr=>h.G hr) (fun v w w' h hr=>aX),kp gp 54,kq (E I (p 54)),kq (Ec u),kq (Ec B),kq (Ec B),kq (Ec B)] [B,B,B,B,B,B,B,B,B,B,B,B,B,B,B,B,B,B,B] U [] [(0,0),(0,0),(0,0),(0,0),(0,0),(0,0),(0,0),(0,0),(0,0),(0,0),(0,0),(0,0),(0,0),(0,0),(0,0),(0,0),(0,0),(0,0),(0,0)] Ed Ed Ed Ed Ed U_ Ed ?hPh ?h0 ?hstep ?hend;case hPh=> intro p_ w2 w3 h hr;exact bt h hr
      case h0=> exact bt BB.out (Jk W9)
      case hstep=>
       refine⟨?_,?_,?_,?_,?_,?_,?_,?_,?_,?_,?_,?_,?_,?_,?_,?_,?_,?_,?_,trivial⟩;all_goals intro xv wq p_ hlo hhi hp hd
       all_goals simp only[EL,In,Ip,Ig,Ih]
       ·exact Emq
       ·have d0:xv 0=Y (D ⟨gp,50,Z⟩):=hd.at 0 rfl;exact EpX
       ·have d1:xv 1=Y (D ⟨gp,50,Z⟩):=hd.at 1 rfl;have cc:wq.cell? ⟨gp,50,Z⟩=D (E I (p 50)):=(PC.out _ hp 50 X X);exact Es Do U
       ·have d2:xv 2=E I (p 50):=hd.at 2 rfl;exact Es (by simp[go_sem,d2,t50]) U
       ·have d3:xv 3=Ec B:=hd.at 3 rfl;exact EpU
       ·have d4:xv 4=Ec B:=hd.at 4 rfl;exact IQ EM (cX U U (congrArg D d4)) Ez U
       ·have d4:xv 4=Ec B:=hd.at 4 rfl;have d5:xv 5=Y (D ⟨gp,50,Z⟩):=hd.at 5 rfl;exact IQ EM (cX U U (congrArg D d4)) dq U
       ·have d4:xv 4=Ec B:=hd.at 4 rfl;refine JR (f:=66) (args:= #[E I 0,E I 1000]) (cX U U (congrArg D d4)) Ez ?_;exact Eo0
       ·have d4:xv 4=Ec B:=hd.at 4 rfl;have d6:xv 6=EI (D ⟨gp,51,Z⟩) 3 3:=hd.at 6 rfl;obtain⟨cap,e1,hok⟩:=Um.ok (hd.at 7 rfl:Um 0 1000 (xv 7) wq);refine JR (f:=62) (args:= #[EI (D ⟨gp,51,Z⟩) 3 3,.func (.func 80) #[] cap]) (cX U U (congrArg D d4)) (by simp[go_sem,e1,d6]) ?_;exact(oh _ cap ([p 51,p 52,p 53].map (E .i64)) (Uz 0 1000) gp 51 3 3 wq U X (hok _ (tS U)) (Eh8.out wq hp)).mono fun e w2 ⟨he,hb⟩=>⟨Ec u,he.trans (by rw[DY.out]),hb,U⟩
       ·have d4:xv 4=Ec B:=hd.at 4 rfl;have d8:xv 8=Ec u:=hd.at 8 rfl;exact IQ EM (cX U U (congrArg D d4)) gd U
       ·have d4:xv 4=Ec B:=hd.at 4 rfl;have d9:xv 9=Ec B:=hd.at 9 rfl;exact Es (by simp[go_sem,d4,d9]) U
       ·have d10:xv 10=Ec B:=hd.at 10 rfl;exact Eps
       ·have d11:xv 11=Ec B:=hd.at 11 rfl;refine JR (f:=66) (args:= #[E I 1,E I 1000]) (cX U U (congrArg D d11)) Ez ?_;exact EnL
       ·have d11:xv 11=Ec B:=hd.at 11 rfl;exact IQ EM (cX U U (congrArg D d11)) Ez U
       ·have d11:xv 11=Ec B:=hd.at 11 rfl;have d13:xv 13=Y (D ⟨gp,54,Z⟩):=hd.at 13 rfl;have cc:wq.cell? ⟨gp,54,Z⟩=D (E I (p 54)):=(PC.out _ hp 54 X X);exact IQ EM (cX U U (congrArg D d11)) (by simp[go_sem,d13,cc]) U
       ·have d11:xv 11=Ec B:=hd.at 11 rfl;have d14:xv 14=E I (p 54):=hd.at 14 rfl;obtain⟨wa,wb,e1,ca,cb⟩:Um 1 1000 (xv 12) wq:=hd.at 12 rfl;refine JR (f:=80) (args:= #[E I (p 54),Y (D ⟨wa,0,Z⟩),Y (D ⟨wb,0,Z⟩)]) (cX U U (congrArg D d11)) (by simp[go_sem,e1,d14]) ?_;exact(rf (p 54) 1 1000 wa wb wq ca cb).mono fun e w2 ⟨he,hb⟩=>⟨Ec u,he.trans (by rw[D2.out]),DT,U⟩
       ·have d11:xv 11=Ec B:=hd.at 11 rfl;have d15:xv 15=Ec u:=hd.at 15 rfl;exact IQ EM (cX U U (congrArg D d11)) wt U
       ·have d11:xv 11=Ec B:=hd.at 11 rfl;have d16:xv 16=Ec B:=hd.at 16 rfl;exact Es (by simp[go_sem,d11,d16]) U
       ·have d17:xv 17=Ec B:=hd.at 17 rfl;exact Es wu U
      case hend=>
       intro xv W10 hp hd;simp only[EL,In,Ip,Ig,Ih];have a17:xv 17=Ec B:=hd 17 Eb;have a18:xv 18=Ec B:=hd 18 Eb;rw[a17,a18];clear hd a17 a18;replace BB:=O hp;clear hp;have EEC:Ea (b11=Xp (p 55) 0 65535):=O DM.out;go_wp2_with fail;refine iA (Ph:=fun _ wq=>El w1 wq) (Rel:=Oa) (Ij:=fun w w'=>w=w') [.dep (Um 0 65535) (fun v w w' h hr=>h.G hr) (fun v w w' h hr=>aX),kp gp 55,kq (E I (p 55)),kq (Ec b11),kq (Ec (!b11)),kq (Ec (!b11))] [B,B,B,B,B,B] U [] [(0,0),(0,0),(0,0),(0,0),(0,0),(0,0)] Ed Ed Ed Ed Ed U_ Ed ?hPh ?h0 ?hstep ?hend;case hPh=> intro p_ w2 w3 h hr;exact bt h hr
       case h0=> exact bt BB.out (Jk W10)
       case hstep=>
        refine⟨?_,?_,?_,?_,?_,?_,trivial⟩;all_goals intro xv wq p_ hlo hhi hp hd
        all_goals simp only[EL,In,Ip,Ig,Ih]
        ·refine JR (f:=66) (args:= #[E I 0,E I 65535]) (Ei U) Ez ?_;exact(gQ 0 65535 wq).mono fun e w2 ⟨v,he,hv,hb⟩=>⟨v,he,hb,hv⟩
        ·exact Emq
        ·have d1:xv 1=Y (D ⟨gp,55,Z⟩):=hd.at 1 rfl;have cc:wq.cell? ⟨gp,55,Z⟩=D (E I (p 55)):=(PC.out _ hp 55 X X);exact Es Do U
        ·have d2:xv 2=E I (p 55):=hd.at 2 rfl;obtain⟨wa,wb,e1,ca,cb⟩:Um 0 65535 (xv 0) wq:=hd.at 0 rfl;refine JR (f:=80) (args:= #[E I (p 55),Y (D ⟨wa,0,Z⟩),Y (D ⟨wb,0,Z⟩)]) (Ei U) (by simp[go_sem,e1,d2]) ?_;exact(rf (p 55) 0 65535 wa wb wq ca cb).mono fun e w2 ⟨he,hb⟩=>⟨Ec b11,he.trans (by rw[EEC.out]),DT,U⟩
        ·have d3:xv 3=Ec b11:=hd.at 3 rfl;exact EpU
        ·have d4:xv 4=Ec (!b11):=hd.at 4 rfl;exact Ept
       case hend=>
        intro xv W11 hp hd;simp only[EL,In,Ip,Ig,Ih];have a4:xv 4=Ec (!b11):=hd 4 Eb;have a5:xv 5=Ec (!b11):=hd 5 Eb;rw[a4,a5];clear hd a4 a5;replace BB:=O hp;clear hp;clear EEC;obtain rfl:b11=u:=by have h:=T11.out;revert h;cases b11<;>simp
        go_wp2_with fail;go_ret;exact⟨by rw[HRR.out];rfl,bt B1.out BB.out⟩
def c0(p:Nat->Int):EB:=⟨⟨4,p 55,-1,0,0,0,0,B⟩,[],il (p 42) (p 49),0,0,p 39,FR,⟨1,0,0,0,0,0,0,0,0,FR⟩⟩
def rj:Dr:=⟨0,B,[0,0,0,0,0,0,0,0]⟩
theorem Nd:rj.ok:=⟨Eb,U,Eb⟩
def core0(g:Nat->V)(p:Nat->Int)(gq gt:Nat):Array V:=(aw (EK 56 g).toList (c0 p) gq gt rj rj rj (Er 32)).flatten.toArray
theorem Eh_(g:Nat->V)(p:Nat->Int)(gq gt:Nat):Tryz.prog.built 120 [(0,EZ (EK 56 g)),(1,EZ #[E I 4,E I (p 55),E I (-1),E I 0,E I 0,E I 0,E I 0,Ec B]),(2,Y (D ⟨gq,0,Z⟩)),(4,Y (D ⟨gt,0,Z⟩)),(7,E I (p 39)),(8,EZ #[E I 2,E I 4,E I 0]),(9,EZ #[E I 1,E I 0,E I 0,E I 0,E I 0,E I 0,E I 0,E I 0,E I 0,E I 2,E I 4,E I 0]),(10,EZ (Ej (Er 32)))]=D (core0 g p gq gt):=Ed
theorem D3{cap:Nat}{ys:List Int}(h:Own W lo A cap ys)(hn:ys.length=n)(h1:1<=n)(h64:n<=64):iq W lo (EI A n cap):=by obtain⟨g,cur,e,hg,hk,ht,hc⟩:=Tg h X;have:=Mu h;subst hn;exact⟨g,_,cap,cur,ys,by rw[e],hg,U,h1,h64,hc,this.2,hk,ht,h.2⟩
theorem M8{b1 b2 b3 b4 b5 b6 b7 b8 b9 b10 b11:Bool}(h:yg b1 b2 b3 b4 b5 b6 b7 b8 b9 b10 b11=0):b1=u/\b2=u/\b3=u/\b4=u/\b5=u/\b6=u/\b7=u/\b8=u/\b9=u/\b10=u/\b11=u:=by revert h;unfold yg;cases b1<;>cases b2<;>cases b3<;>cases b4<;>cases b5<;>cases b6<;>cases b7<;>cases b8<;>cases b9<;>cases b10<;>cases b11<;>simp
theorem gS{x lo hi:Int}:Xp x lo hi=u↔lo<=x/\x<=hi:=by unfold Xp;simp
theorem EiE{p:Nat->Int}{kl:Nat->Nat}(h:XX p kl=0):(∀i,9<=i->i<56->(Zf i:Int)<=p i/\p i<=U2 i/\(9<i->i<13->p i%2=0))/\ ∀i,5<=i->i<=8->1<=kl i/\kl i<=64:=by
 obtain⟨h1,h2,h3,h4,h5,h6,h7,h8,h9,h10,h11⟩:=M8 h;refine⟨fun i hi1 hi2=> ?_,fun i hi1 hi2=> ?_⟩;·simp only[yJ,Oc,beq_iff_eq,UL,Xu,ar,bO,rh,gS] at h3;simp only[yO,gR,ar,bO,tR,Uz,gS,Oc,Nat.reduceMul,bU,Nat.zero_mul,Nat.add_zero] at h4;simp only[yU,Oc,UL,Xu,ar,bO,Uz,gS] at h5;simp only[yX,Oc,UL,Xu,ar,bO,Uz,gS] at h6;simp only[yZ,Oc,UL,Xu,ar,bO,Uz,gS] at h7;simp only[ya,Oc,gS] at h8;simp only[yd,Oc,UL,Xu,ar,bO,Uz,gS] at h9;simp only[yf,Oc,beq_iff_eq,UL,Xu,ar,bO,Uz,gS] at h10;simp only[DD,gS] at h11;have hc:i=9\/i=10\/i=11\/i=12\/i=13\/i=14\/i=15\/i=16\/i=17\/i=18\/i=19\/i=20\/i=21\/i=22\/i=23\/i=24\/i=25\/i=26\/i=27\/i=28\/i=29\/i=30\/i=31\/i=32\/i=33\/i=34\/i=35\/i=36\/i=37\/i=38\/i=39\/i=40\/i=41\/i=42\/i=43\/i=44\/i=45\/i=46\/i=47\/i=48\/i=49\/i=50\/i=51\/i=52\/i=53\/i=54\/i=55:=X;rcases hc with rfl|rfl|rfl|rfl|rfl|rfl|rfl|rfl|rfl|rfl|rfl|rfl|rfl|rfl|rfl|rfl|rfl|rfl|rfl|rfl|rfl|rfl|rfl|rfl|rfl|rfl|rfl|rfl|rfl|rfl|rfl|rfl|rfl|rfl|rfl|rfl|rfl|rfl|rfl|rfl|rfl|rfl|rfl|rfl|rfl|rfl|rfl<;>simp[Zf,U2]<;>omega
 ·simp only[tV,Oc,gS] at h2;have hc:i=5\/i=6\/i=7\/i=8:=X;rcases hc with rfl|rfl|rfl|rfl<;>omega
theorem EiI:IW EU 24 3:=⟨⟨_,Tryz.underlying24,U⟩,Ed⟩
theorem EiJ(a b c:V)(W:M):(JY 24 (EZ #[a,b,c]) (E I 0)).run EU W= .ok a W:=Ed
theorem EiO(a b c:V)(W:M):(JY 24 (EZ #[a,b,c]) (E I 1)).run EU W= .ok b W:=Ed
theorem EiU(a b c:V)(W:M):(JY 24 (EZ #[a,b,c]) (E I 2)).run EU W= .ok c W:=Ed
def yi(w:M)(g:Nat->V)(kl:Nat->Nat):Prop:= ∀i,5<=i->i<=8-> ∃(A:Option Eu) (cap:Nat) (ys:List Int),g i=EI A (kl i) cap/\ys.length=kl i/\Row w A ys
theorem yj(h:Jr W lo gq L m)(hb:El W W'):Jr W' lo gq L m:=by obtain⟨v,came,k,r2,r3⟩:=h;exact⟨v,came,k.G hb,r2,ER r3 fun _ _ hk=>hk.G hb⟩
theorem D4{S:EC}(h:Jr W lo gq L m)(ho:EH gp W W')(K:H W gp cs S)(h1:152≠S)(h2:171≠S):Jr W' lo gq L m:=by obtain⟨v,came,k,r2,r3⟩:=h;exact⟨v,came,ho.Ek k (E5 k K h1),r2,ER r3 fun _ _ hk=>ho.Ek hk (E5 hk K h2)⟩
theorem EiX(pv:Array V)(e5:Int)(w:M)(hs:pv.size=56)(h5:pv[55]?=D (E I e5)): Ef EU 42 #[EZ pv] w fun e w'=>e=Eg (EZ #[E I 4,E I e5,E I (-1),E I 0,E I 0,E I 0,E I 0,Ec B])/\El w w':=by
 have K0:=O<|H.new w pv 28;have b2:=J9 w (EJ pv 28) (EJ #[E I 0,E I 0,E I 0,E I 0,E I 0,E I 0,E I 0,Ec B] 109);have c1:((w.alloc (EJ pv 28)).alloc (EJ #[E I 0,E I 0,E I 0,E I 0,E I 0,E I 0,E I 0,Ec B] 109)).cell? ⟨w.heap.size,55,Z⟩=D (E I e5):=by rw[(H.G K0.out (Ep _ _)).cell,h5]
 have KT:Ea (H ((w.alloc (EJ pv 28)).alloc (EJ #[E I 0,E I 0,E I 0,E I 0,E I 0,E I 0,E I 0,Ec B] 109)) (w.heap.size+1) #[E I 0,E I 0,E I 0,E I 0,E I 0,E I 0,E I 0,Ec B] 109):=O (by have:=H.new (w.alloc (EJ pv 28)) #[E I 0,E I 0,E I 0,E I 0,E I 0,E I 0,E I 0,Ec B] 109;simpa using this);have BB:=O b2;clear b2 hs h5 K0;go_enter Tryz.func42,Tryz.ntmps42;go_wp2_with (with_reducible refine I7 4 ?_);apply Eo;generalize (w.alloc (EJ pv 28)).alloc (EJ #[E I 0,E I 0,E I 0,E I 0,E I 0,E I 0,E I 0,Ec B] 109)=w1 at*;go_wp2_with fail;have TP:Ef EU 67 #[EZ #[E I 0,E I 0,E I 0,E I 0,E I 0,E I 0,E I 0,Ec B],E I 4,E I e5] w1 fun x w'=>x=Eg (EG.pass ⟨0,0,0,0,0,0,0,B⟩ 4 e5).a/\El w1 w':=F1 ⟨0,0,0,0,0,0,0,B⟩ 4 e5 w1;refine TP.mono ?_;rintro e w2 ⟨rfl,bb⟩;replace KT:=EQ KT bb;replace BB:=EW BB bb;clear bb c1;obtain⟨tv,Ia⟩: ∃tv,(EG.pass ⟨0,0,0,0,0,0,0,B⟩ 4 e5).a=EZ tv/\tv= #[E I 4,E I e5,E I (-1),E I 0,E I 0,E I 0,E I 0,Ec B]:=⟨_,U,U⟩;rw[Ia.1];have TS:Ea (tv.size=8):=O (by rw[Ia.2];rfl);have TO:Ea (tv.all (·.oneCell')=u):=O (by rw[Ia.2];simp[OC]);have OZ:=O Ia.2;clear Ia;go_wp2_with (with_reducible refine wS (cs:=tv) EV KT ?_ (hn:=TS.out) (h1:=TO.out));refine ET (Jl EV U _ _ (w.heap.size+1) tv U (KT.out.setRow tv) TS.out) U ?_;rw[OZ.out];exact⟨U,E3 BB.out X _⟩
theorem Nf:TM 0 0:=by unfold TM;omega
def EED(g:Nat->V)(p:Nat->Int)(kl:Nat->Nat)(w:M)(e:Ut)(w':M):Prop:=
 (XX p kl≠0/\e=Eg (Et #[Y Z,E I (XX p kl)]))\/(XX p kl=0/\ ∃(g2:Nat->V) (gc gq gt:Nat),e=Eg (Et #[Y (D ⟨gc,0,Z⟩),E I 0])/\JO w.heap.size g2 gc gq gt (c0 p) w'/\ ∀i,i<56->i<5\/8<i->g2 i=E I (p i))
structure ol(W:M)(lo gp k:Nat)(g g2:Nat->V):Prop where
 Ek:H W gp (EK 56 g2) 28
 num: ∀i,i<56->i<5\/8<i->g2 i=g i
 old: ∀i,5+k<=i->i<=8->g2 i=g i
 new: ∀i,5<=i->i<5+k->iq W lo (g2 i)
theorem ol.G(h:ol W lo gp k g g2)(hb:El W W'):ol W' lo gp k g g2:=
 ⟨h.Ek.G hb,h.num,h.old,fun i h1 h2=>(h.new i h1 h2).Ek fun _ _ hk=>hk.G hb⟩
theorem ol.set(h:ol W lo gp k g g2)(hk:k<4)(hv:iq W lo v):ol (W.setCell ⟨gp,5+k,Z⟩ v) lo gp (k+1) g (Uk g2 (5+k) v):=by
 have ho:=J6 (g:=gp) (W:=W) (5+k) v;have hb: ∀Y3,iq W lo Y3->iq (W.setCell ⟨gp,5+k,Z⟩ v) lo Y3:=fun Y3 hu=>hu.Ek fun _ _ hk=>ho.Ek hk (E5 hk h.Ek Eb);refine⟨?_,fun i h1 h2=> ?_,fun i h1 h2=> ?_,fun i h1 h2=> ?_⟩;·rw[<-ux];exact h.Ek.set _ _
 ·rw[m0 _ _ _ _ X];exact h.num i h1 h2
 ·rw[m0 _ _ _ _ X];exact h.old i X h2
 ·by_cases hi:i=5+k;·subst hi;rw[uy];exact hb _ hv
  ·rw[m0 _ _ _ _ hi];exact hb _ (h.new i h1 X)
theorem EiZ(g:Nat->V)(p:Nat->Int)(kl:Nat->Nat)(w:M)(hv:yh g p kl)(hk:yi w g kl)(hR:JP w)(hC:ZI w)(h2:2<=w.heap.size): Ef EU 23 #[EZ (EK 56 g)] w fun e w'=>EED g p kl w e w'/\El w w':=by
 have PV:=O hv;have KI:=O hk;have RC:=O<|Jm hR hC;have K0:=O<|H.new w (EK 56 g) 28;have tW:=Ep w (EJ (EK 56 g) 28);obtain⟨ck,hck⟩:=En (XX p kl);have CK:Ea (∀W,Ef EU 39 #[EZ (EK 56 g)] W fun e w'=>e=Eg (E I ck)/\El W w'):=O (fun W=>by rw[hck];exact Eh5 g p kl W hv);have rm:=O hck;clear hv hk hR hC hck;obtain⟨pv,hpv⟩:=En (EK 56 g);rw[<-hpv] at K0 tW CK⊢;have PS:Ea (pv.size=56):=O (by rw[hpv];simp);have HPV:=O hpv;clear hpv;go_enter Tryz.func23,Tryz.ntmps23;go_wp2_with (with_reducible refine I7 9 ?_);apply Eo;obtain⟨gp,Xj⟩:=En w.heap.size;rw[<-Xj] at K0⊢;have HGP:=O Xj;have KP:=O K0.out;have BB:=O tW;clear K0 tW Xj;generalize w.alloc (EJ pv 28)=w1 at*;go_wp2_with (with_reducible refine wL XY KP ?_ (hn:=PS.out));refine(CK.out _).mono ?_;rintro e w2 ⟨rfl,bb⟩;replace BB:=EW BB bb;replace KP:=EQ KP bb;clear bb CK PS;by_cases hc:ck=0
 case neg=>
  have t1:(ck !=0)=u:=by simp[hc]
  go_wp2_with fail;go_ret2;refine⟨Or.inl ⟨?_,?_⟩,BB.out⟩;·rw[<-rm.out];exact hc
  ·rw[<-rm.out];rfl
 subst hc;have OK:=O<|EiE rm.out.symm;rw[HPV.out] at KP;clear HPV;have c48:w2.cell? ⟨gp,48,Z⟩=D (E I (p 48)):=by rw[H.cell KP.out 48,cU,if_pos X,(PV.out.int 48 X X).1]
 have h48:=OK.out.1 48 X X;simp only[Zf,U2] at h48;go_wp2_with fail;refine(Ec3 w.heap.size (p 48) _ (by simp at h48;omega) BB.out.size).mono ?_;rintro e w3 ⟨⟨gq,rfl,hgq,qb⟩,bb⟩;have QB:=O qb;have HGQ:Ea (w.heap.size<=gq):=O<|EA BB.out.size hgq;replace BB:=EW BB bb;replace KP:=EQ KP bb;clear bb qb hgq c48 h48;obtain⟨A5,d5,ys5,e5,l5,r5⟩:=KI.out 5 X X;obtain⟨A6,d6,ys6,e6,l6,r6⟩:=KI.out 6 X X;obtain⟨A7,d7,ys7,e7,l7,r7⟩:=KI.out 7 X X;obtain⟨A8,d8,Qk,e8,l8,r8⟩:=KI.out 8 X X;have EX5:Ea ((EK 56 g).extract 5 (5+3)= #[EI A5 (kl 5) d5,EI A6 (kl 6) d6,EI A7 (kl 7) d7]):=O (by have e:(EK 56 g).extract 5 (5+3)= #[g 5,g 6,g 7]:=hM;rw[e,e5,e6,e7]);have E8:=O e8;have R5:=O r5;have R6:=O r6;have R7:=O r7;have R8:=O r8;have CB:Ea (ol w3 w.heap.size gp 0 g g):=O ⟨KP.out,fun _ _ _=>rfl,fun _ _ _=>rfl,fun i h1 h2=>X⟩;clear e5 e6 e7 e8 r5 r6 r7 r8;have k5:=OK.out.2 5 X X;have k6:=OK.out.2 6 X X;have k7:=OK.out.2 7 X X;have k8:=OK.out.2 8 X X;go_wp2_with (with_reducible refine wM (off:=5) (cs:= #[EI A5 (kl 5) d5,EI A6 (kl 6) d6,EI A7 (kl 7) d7]) EiI KP ?_ (he:=EX5.out));clear EX5 KP;go_loopw[25] (fun y wr=> ∃(k:Nat) (g2:Nat->V),k<=3/\y=E I k/\ol wr w.heap.size gp k g g2/\Jr wr w.heap.size gq [] (p 48)/\El w wr) (fun y _=>3-(Iv y).toNat);case atStart=>exact⟨0,g,X,U,CB.out,QB.out,BB.out⟩
 case round=>
  obtain⟨k,g2,hk,rfl,cb,qb,bb⟩:=hrel;replace CB:=O cb;replace QB:=O qb;replace BB:=O bb;clear cb qb bb;have hkk:k=0\/k=1\/k=2\/k=3:=X;rcases hkk with rfl|rfl|rfl|rfl
  ·have IX:=EiJ (EI A5 (kl 5) d5) (EI A6 (kl 6) d6) (EI A7 (kl 7) d7);simp only[show((0:Nat):Int)=0 from rfl];go_wp2_with fail;refine(Dd A5 ys5 (kl 5) d5 _ l5 (Iy R5.out BB.out) X).mono ?_;rintro e w4 ⟨⟨A',c',rfl,ow⟩,bb⟩;have KY:=O<|D3 (bJ ow (show w.heap.size<=wr.heap.size from BB.out.size)) l5 k5.1 k5.2;replace CB:=O<|CB.out.G bb;replace QB:=O<|yj QB.out bb;replace BB:=EW BB bb;clear ow bb IX;have cs:w4.cell? ⟨gp,5,Z⟩=D (g2 5):=by rw[H.cell CB.out.Ek 5,cU,if_pos X]
   have ff:w4.frozen? ⟨gp,5,Z⟩=B:=H.JX CB.out.Ek 5;have S4:=O<|CB.out.set (k:=0) X KY.out;have Q4:=O<|D4 QB.out (J6 (g:=gp) (W:=w4) 5 (EI A' (kl 5) c')) CB.out.Ek Eb Eb;have B4:=O<|BB.out.setCell (p:=⟨gp,5,Z⟩) D5 (EI A' (kl 5) c');go_wp2_with fail;exact⟨⟨1,_,X,Eh,S4.out,Q4.out,B4.out⟩,Zt⟩
  ·have IX:=EiO (EI A5 (kl 5) d5) (EI A6 (kl 6) d6) (EI A7 (kl 7) d7);simp only[show((1:Nat):Int)=1 from rfl];go_wp2_with fail;refine(Dd A6 ys6 (kl 6) d6 _ l6 (Iy R6.out BB.out) X).mono ?_;rintro e w4 ⟨⟨A',c',rfl,ow⟩,bb⟩;have KY:=O<|D3 (bJ ow (show w.heap.size<=wr.heap.size from BB.out.size)) l6 k6.1 k6.2;replace CB:=O<|CB.out.G bb;replace QB:=O<|yj QB.out bb;replace BB:=EW BB bb;clear ow bb IX;have cs:w4.cell? ⟨gp,6,Z⟩=D (g2 6):=by rw[H.cell CB.out.Ek 6,cU,if_pos X]
   have ff:w4.frozen? ⟨gp,6,Z⟩=B:=H.JX CB.out.Ek 6;have S4:=O<|CB.out.set (k:=1) X KY.out;have Q4:=O<|D4 QB.out (J6 (g:=gp) (W:=w4) 6 (EI A' (kl 6) c')) CB.out.Ek Eb Eb;have B4:=O<|BB.out.setCell (p:=⟨gp,6,Z⟩) D5 (EI A' (kl 6) c');go_wp2_with fail;exact⟨⟨2,_,X,Eh,S4.out,Q4.out,B4.out⟩,Zt⟩
  ·have IX:=EiU (EI A5 (kl 5) d5) (EI A6 (kl 6) d6) (EI A7 (kl 7) d7);simp only[show((2:Nat):Int)=2 from rfl];go_wp2_with fail;refine(Dd A7 ys7 (kl 7) d7 _ l7 (Iy R7.out BB.out) X).mono ?_;rintro e w4 ⟨⟨A',c',rfl,ow⟩,bb⟩;have KY:=O<|D3 (bJ ow (show w.heap.size<=wr.heap.size from BB.out.size)) l7 k7.1 k7.2;replace CB:=O<|CB.out.G bb;replace QB:=O<|yj QB.out bb;replace BB:=EW BB bb;clear ow bb IX;have cs:w4.cell? ⟨gp,7,Z⟩=D (g2 7):=by rw[H.cell CB.out.Ek 7,cU,if_pos X]
   have ff:w4.frozen? ⟨gp,7,Z⟩=B:=H.JX CB.out.Ek 7;have S4:=O<|CB.out.set (k:=2) X KY.out;have Q4:=O<|D4 QB.out (J6 (g:=gp) (W:=w4) 7 (EI A' (kl 7) c')) CB.out.Ek Eb Eb;have B4:=O<|BB.out.setCell (p:=⟨gp,7,Z⟩) D5 (EI A' (kl 7) c');go_wp2_with fail;exact⟨⟨3,_,X,Eh,S4.out,Q4.out,B4.out⟩,Zt⟩
  ·simp only[show((3:Nat):Int)=3 from rfl];have c8:wr.cell? ⟨gp,8,Z⟩=D (EI A8 (kl 8) d8):=by rw[H.cell CB.out.Ek 8,cU,if_pos X,CB.out.old 8 X X,E8.out]
   go_wp2_with fail;refine(Dd A8 Qk (kl 8) d8 _ l8 (Iy R8.out BB.out) X).mono ?_;rintro e w4 ⟨⟨A',c',rfl,ow⟩,bb⟩;have KY:=O<|D3 (bJ ow (show w.heap.size<=wr.heap.size from BB.out.size)) l8 k8.1 k8.2;replace CB:=O<|CB.out.G bb;replace QB:=O<|yj QB.out bb;replace BB:=EW BB bb;clear ow bb c8;have cs:w4.cell? ⟨gp,8,Z⟩=D (g2 8):=by rw[H.cell CB.out.Ek 8,cU,if_pos X]
   have ff:w4.frozen? ⟨gp,8,Z⟩=B:=H.JX CB.out.Ek 8;have S4:=O<|CB.out.set (k:=3) X KY.out;have Q4:=O<|D4 QB.out (J6 (g:=gp) (W:=w4) 8 (EI A' (kl 8) c')) CB.out.Ek Eb Eb;have B4:=O<|BB.out.setCell (p:=⟨gp,8,Z⟩) D5 (EI A' (kl 8) c');go_wp2_with fail;obtain⟨g3,hg3⟩: ∃g3,g3=Uk g2 (5+3) (EI A' (kl 8) c'):=⟨_,U⟩;rw[<-hg3] at S4;have K3:=O S4.out.Ek;clear cs ff CB QB BB KY hg3;generalize w4.setCell ⟨gp,8,Z⟩ (EI A' (kl 8) c')=w5 at*;have G3: ∀i,i<56->i<5\/8<i->g3 i=E I (p i):=fun i h1 h2=>(S4.out.num i h1 h2).trans (PV.out.int i h1 h2).1;have GN:=O G3;obtain⟨fG,yk⟩:=En (EK 56 g3);rw[<-yk] at K3;have yl:Ea (fG.size=56):=O (by rw[yk];simp);have P3: ∀i,i<56->i<5\/8<i->fG[i]?=D (E I (p i)):=fun i h1 h2=>by rw[yk,cU,if_pos h1,G3 i h1 h2]
   obtain⟨m5,tC⟩:=En (p 39);have C39:Ea (∀W,El w5 W->W.cell? ⟨gp,39,Z⟩=D (E I m5)):=O (fun W hW=>by rw[H.cell (H.G K3.out hW) 39,P3 39 X X,tC]);obtain⟨D6,htk⟩:=En (#[E I 4,E I (p 55),E I (-1),E I 0,E I 0,E I 0,E I 0,Ec B]:Array V);have TN:Ea (∀W,Ef EU 42 #[EZ fG] W fun e w'=>e=Eg (EZ D6)/\El W w'):=O (fun W=>by rw[htk];exact EiX fG (p 55) W yl.out (P3 55 X X));obtain⟨T0,hT0⟩:=En (il (p 42) (p 49));obtain⟨n0,hn0⟩:=En w5.heap.size;have X0:=O hn0;have TT:Ea (∀W,El w5 W->Ef EU 43 #[EZ fG] W fun e w'=> ∃g,n0<=g/\e=Eg (Y (D ⟨g,0,Z⟩))/\E2 w' g T0/\El W w'):=O (fun W hW=>by rw[hT0];refine(EZ3 fG (p 42) (p 49) W yl.out (P3 42 X X) (P3 49 X X)).mono ?_;rintro e w' ⟨g,h1,h2,h3,h4⟩;exact⟨g,EA (EA (OQ hn0) hW.size) h1,h2,h3,h4⟩);obtain⟨zh,Ng⟩:=En (Ej (Er 32));have OFN:Ea (∀W,Ef EU 45 #[EI Z 0 0] W fun e w'=>e=Eg (EZ zh)/\El W w'):=O (fun W=>by rw[Ng];exact of_nil W);have BPT:Ea (Tryz.prog.built 50 [(0,E I 1),(3,EZ #[E I 2,E I 4,E I 0])]=D #[E I 1,E I 0,E I 0,E I 0,E I 0,E I 0,E I 0,E I 0,E I 0,E I 2,E I 4,E I 0]):=O Ed;obtain⟨cv,hcv⟩:=En (core0 g3 p gq);have BC:Ea (∀gt:Nat,Tryz.prog.built 120 [(0,EZ fG),(1,EZ D6),(2,Y (D ⟨gq,0,Z⟩)),(4,Y (D ⟨gt,0,Z⟩)),(7,E I m5),(8,EZ #[E I 2,E I 4,E I 0]),(9,EZ #[E I 1,E I 0,E I 0,E I 0,E I 0,E I 0,E I 0,E I 0,E I 0,E I 2,E I 4,E I 0]),(10,EZ zh)]=D (cv gt)):=O (fun gt=>by rw[yk,htk,tC,Ng,hcv];exact Eh_ g3 p gq gt);have yn:=O hcv;have HT0:=O hT0;clear G3 yk P3 tC htk hT0 hn0 Ng hcv;refine iA (Ph:=fun _ wq=>El w5 wq) (Rel:=Oa) (Ij:=fun w w'=>w=w') [kq (EZ fG),kq (EZ fG),kq (EZ D6),kp gq 0,kq (EZ fG),.dep (fun v w=> ∃gt:Nat,v=Y (D ⟨gt,0,Z⟩)/\n0<=gt/\E2 w gt T0) (fun v w w' h hr=>EEN) (fun v w w' h hr=>aX),kp gp 39,kq (E I m5),kq (EZ #[E I 2,E I 4,E I 0]),kq (EZ #[E I 2,E I 4,E I 0]),kq (EZ #[E I 1,E I 0,E I 0,E I 0,E I 0,E I 0,E I 0,E I 0,E I 0,E I 2,E I 4,E I 0]),kq (EZ zh),.dep (fun v w=> ∃gt:Nat,v=EZ (cv gt)/\n0<=gt/\E2 w gt T0) (fun v w w' h hr=>EEN) (fun v w w' h hr=>aX),.dep (fun v w=> ∃gc gt:Nat,v=Y (D ⟨gc,0,Z⟩)/\n0<=gc/\n0<=gt/\H w gc (cv gt) 120/\E2 w gt T0) (fun v w w' h hr=>EEP) (fun v w w' h hr=>aX),.dep (fun v w=> ∃gc gt:Nat,v=Y (D ⟨gc,0,Z⟩)/\n0<=gc/\n0<=gt/\H w gc (cv gt) 120/\E2 w gt T0) (fun v w w' h hr=>EEP) (fun v w w' h hr=>aX),kq (E I 0)] [B,B,B,B,B,B,B,B,B,B,B,B,B,B,B,B] U [] [(0,0),(0,0),(0,0),(0,0),(0,0),(0,0),(0,0),(0,0),(0,0),(0,0),(0,0),(0,0),(0,0),(0,0),(0,0),(0,0)] Ed Ed Ed Ed Ed U_ Ed ?hPh ?h0 ?hstep ?hend;case hPh=> intro p_ w2 w3 h hr;exact bt h hr
   case h0=> exact Jk w5
   case hstep=>
    refine⟨?_,?_,?_,?_,?_,?_,?_,?_,?_,?_,?_,?_,?_,?_,?_,?_,trivial⟩;all_goals intro xv wq p_ hlo hhi hp hd
    all_goals simp only[EL,In,Ip,Ig,Ih]
    ·exact Eoi
    ·exact Eoi
    ·have d1:xv 1=EZ fG:=hd.at 1 rfl;refine JR (f:=42) (args:= #[xv 1]) (Ei U) Ez ?_;rw[d1];exact(TN.out wq).mono fun e w2 ⟨he,hb⟩=>⟨_,he,hb,U⟩
    ·exact Emq
    ·exact Eoi
    ·have d4:xv 4=EZ fG:=hd.at 4 rfl;refine JR (f:=43) (args:= #[xv 4]) (Ei U) Ez ?_;rw[d4];exact(TT.out wq hp).mono fun e w2 ⟨gt,hg,he,ht,hb⟩=>⟨_,he,hb,gt,U,hg,ht⟩
    ·exact Emq
    ·have d6:xv 6=Y (D ⟨gp,39,Z⟩):=hd.at 6 rfl;have cc:wq.cell? ⟨gp,39,Z⟩=D (E I m5):=(C39.out wq hp);exact Es Bz U
    ·exact EoU
    ·exact EoU
    ·have d9:xv 9=EZ #[E I 2,E I 4,E I 0]:=hd.at 9 rfl;exact IQ EM (Ei U) (Mn U (by simp only[UL,Xu,d9];exact BPT.out)) U
    ·refine JR (f:=45) (args:= #[EI Z 0 0]) (Ei U) Ez ?_;exact(OFN.out wq).mono fun e w2 ⟨he,hb⟩=>⟨_,he,hb,U⟩
    ·have d0:xv 0=EZ fG:=hd.at 0 rfl;have d2:xv 2=EZ D6:=hd.at 2 rfl;have d3:xv 3=Y (D ⟨gq,0,Z⟩):=hd.at 3 rfl;have d7:xv 7=E I m5:=hd.at 7 rfl;have d8:xv 8=EZ #[E I 2,E I 4,E I 0]:=hd.at 8 rfl;have d10:xv 10=EZ #[E I 1,E I 0,E I 0,E I 0,E I 0,E I 0,E I 0,E I 0,E I 0,E I 2,E I 4,E I 0]:=hd.at 10 rfl;have d11:xv 11=EZ zh:=hd.at 11 rfl;obtain⟨gt,e5_,l5_,t5_⟩: ∃gt:Nat,xv 5=Y (D ⟨gt,0,Z⟩)/\n0<=gt/\E2 wq gt T0:=hd.at 5 rfl;exact IQ EM (Ei U) (Mn U (by simp only[UL,Xu,d0,d2,d3,e5_,d7,d8,d10,d11];exact BC.out gt)) ⟨gt,U,l5_,t5_⟩
    ·obtain⟨gt,e12,TE,t12⟩: ∃gt:Nat,xv 12=EZ (cv gt)/\n0<=gt/\E2 wq gt T0:=hd.at 12 rfl;exact Zq (w':=wq.alloc (EJ (cv gt) 120)) (Ei U) (by simp[go_sem,e12]) (Ep wq _) ⟨wq.heap.size,gt,U,EA (OQ X0.out) hp.size,TE,H.new _ _ _,t12.G (Ep wq _)⟩
    ·exact Es Ez (hd.at 13 rfl: ∃gc gt:Nat,xv 13=Y (D ⟨gc,0,Z⟩)/\n0<=gc/\n0<=gt/\H wq gc (cv gt) 120/\E2 wq gt T0)
    ·exact Emq
   case hend=>
    intro xv W6 hp hd;simp only[EL,In,Ip,Ig,Ih];obtain⟨gc,gt,e14,l1,l2,kc,kt⟩: ∃gc gt:Nat,xv 14=Y (D ⟨gc,0,Z⟩)/\n0<=gc/\n0<=gt/\H W6 gc (cv gt) 120/\E2 W6 gt T0:=hd 14 Eb;have e15:xv 15=E I 0:=hd 15 Eb;rw[e14,e15];have KC:=O kc;have KT:=O kt;have QF:=O<|yj Q4.out hp;have SF:=O<|S4.out.G hp;have BF:=EW B4 hp;have HL:Ea (w.heap.size<=n0):=O (by rw[X0.out];exact B4.out.size);clear hd kc kt e14 e15 hp Q4 S4 B4 TN TT OFN BPT BC C39 K3;go_wp2_with fail;go_ret2;refine⟨Or.inr ⟨rm.out.symm,g3,gc,gq,gt,U,?_,GN.out⟩,BF.out⟩;have hl:=HL.out;refine⟨h2,⟨fun i h1 h3=> ?_,fun i h1 h3=> ?_⟩,?_,EA hl l1,HGQ.out,EA hl l2,⟨rj,rj,rj,Er 32,?_,Nd,Nd,Nd,U,Eb⟩,?_,?_,fun i h1 h3=>SF.out.new i h1 X,(RC.out.1).G BF.out,(RC.out.2).G BF.out⟩;·rw[GN.out i h1 h3];exact⟨U,(PV.out.int i h1 h3).2⟩
    ·have ho:=OK.out.1 i h1 h3;refine⟨(p i).toNat,?_,?_,?_,fun h4 h5=> ?_⟩;·rw[GN.out i h3 X,Int.toNat_of_nonneg X]
     ·omega
     ·omega
     ·have:=ho.2.2 h4 h5;omega
    ·have o55:=OK.out.1 55 X X;have o42:=OK.out.1 42 X X;have o49:=OK.out.1 49 X X;have o39:=OK.out.1 39 X X;simp only[Zf,U2] at o55 o42 o49 o39;refine⟨⟨fH,?_,fH,fH,fH,fH,fH,fH⟩,EZ1 _ _,fH,fH,fH,fH,fH,fH,?_,⟨Nh,Nh,Nh⟩,⟨mX,mX,mX,mX,mX,mX,mX,mX,mX⟩,?_⟩;·show 0<=p 55/\p 55<=65535;simp at o55;omega
     ·show 0<=p 39/\p 39<=4;simp at o39;omega
     ·refine⟨?_,⟨D7,D7,D7,D7⟩,fun i=> ?_⟩;·show 0<=p 42/\p 42<=1000;simp at o42;omega
      ·show TM ((il (p 42) (p 49)).EY i).a ((il (p 42) (p 49)).EY i).m;match i with
       |0=>exact Nf
       |1=>exact Nf
       |_+2=>exact Nf
    ·have:=KC.out;rw[yn.out] at this;exact this
    ·have:=KT.out;rw[HT0.out] at this;exact this
    ·have e48:pn g3 48=p 48:=by unfold pn;rw[GN.out 48 X X];rfl
     rw[e48];exact QF.out
theorem JO.mono(h:JO lo g gc gq gt c W)(hl:lo2<=lo)(h2:2<=lo2):JO lo2 g gc gq gt c W:=by obtain⟨v,came,k,r2,r3⟩:=h.Z2;refine⟨h2,h.ZJ,h.ok,EA hl h.lc,EA hl h.lq,EA hl h.lt,h.Ek,h.tab,⟨v,came,k,r2,oJ r3 hl⟩,fun i a b=> ?_,h.roots,h.cmds⟩;obtain⟨gk,n,cap,cur,ys,h1,h3,h4⟩:=h.keys i a b;exact⟨gk,n,cap,cur,ys,h1,EA hl h3,h4⟩
def Eil(vs:List Nat):List V:=vs.map (fun s=>Y (D ⟨s,0,Z⟩))++hX (3-vs.length) (Y Z)
def oo(gc:Nat)(vs:List Nat):Array V:=([Y (D ⟨gc,0,Z⟩),E I 0]++Eil vs).toArray
theorem Eim(gc:Nat)(vs:List Nat)(b:Nat)(h:vs.length<3):(oo gc vs).setIfInBounds (2+vs.length) (Y (D ⟨b,0,Z⟩))=oo gc (vs++[b]):=by
 match vs,h with
 |[],_=>rfl
 |[_],_=>rfl
 |[_,_],_=>rfl
structure j4(lo gm gc:Nat)(vs:List Nat)(W:M):Prop where
 Ek:H W gm (oo gc vs) 84
 st: ∀s∈vs,lo<=s/\H W s #[EI Z 0 0] 122
 nd:vs.Nodup
theorem j4.G(h:j4 lo gm gc vs W)(hb:Io W.heap.size W W'):j4 lo gm gc vs W':=
 ⟨h.Ek.G hb,fun s hs=>⟨(h.st s hs).1,H.G (h.st s hs).2 hb⟩,h.nd⟩
theorem j4.add{W2:M}(h:j4 lo gm gc vs W)(hb:Io W.heap.size W W2)(hl:lo<=b)(hn:W.heap.size<=b)(kb:H W2 b #[EI Z 0 0] 122)(h3:vs.length<3):j4 lo gm gc (vs++[b]) (W2.setCell ⟨gm,2+vs.length,Z⟩ (Y (D ⟨b,0,Z⟩))):=by
 have k2:=h.Ek.G hb;have on:=J6 (g:=gm) (W:=W2) (2+vs.length) (Y (D ⟨b,0,Z⟩));refine⟨by rw[<-Eim gc vs b h3];exact k2.set _ _,fun s hs=> ?_,?_⟩
 ·rcases XP.1 hs with hs|hs;·exact⟨(h.st s hs).1,on.Ek (H.G (h.st s hs).2 hb) (E5 (H.G (h.st s hs).2 hb) k2 Eb)⟩
  ·rw[ft.1 hs];exact⟨hl,on.Ek kb (E5 kb k2 Eb)⟩
 ·rw[List.nodup_append];refine⟨h.nd,Eh,fun s hs t ht e=> ?_⟩;rw[ft.1 ht] at e;have:=(h.st s hs).2.lt;omega
theorem Ein(gm:Nat)(j:Nat)(hj:j<3)(W:M):(Instr.indexAt 82 (Y (D ⟨gm,2,Z⟩)) (E I (j:Int))).run EU W= .ok (Y (D ⟨gm,2+j,Z⟩)) W:=by have:=Y1 gm ((j:Int)+1) j U hj W;rwa [Int.add_sub_cancel] at this
def Eio(p:Nat->Int)(kl:Nat->Nat)(w:M)(e:Ut)(w':M):Prop:=
 (XX p kl≠0/\ ∃gm,e=Eg (Y (D ⟨gm,0,Z⟩))/\w.heap.size<=gm/\H w' gm #[Y Z,E I (XX p kl),Y Z,Y Z,Y Z] 84)
 \/(XX p kl=0/\ ∃(g2:Nat->V) (a:XU),e=Eg (Y (D ⟨a.gm,0,Z⟩))/\Jh w.heap.size g2 a (c0 p) (fun _=>[]) w'/\ ∀i,i<56->i<5\/8<i->g2 i=E I (p i))
theorem Jh.Eip(h:j4 lo gm gc vs W)(C:JO lo g gc gq gt c W)(hm:lo<=gm)(h3:vs.length=3): ∃a:XU,a.gm=gm/\Jh lo g a c (fun _=>[]) W:=by
 match vs,h3 with
 |[s1,s2,s3],_=> have hn:=h.nd;simp only[mC,Ui,UP,or_false,not_or,not_false_eq_true,List.nodup_nil,and_true] at hn;have st: ∀s∈[s1,s2,s3],dO lo s [] W:=fun s hs=>⟨Z,0,(h.st s hs).2,X9 _ _⟩;exact⟨⟨gc,gq,gt,gm,s1,s2,s3⟩,U,⟨C,h.Ek,hm,(h.st s1 Eh).1,(h.st s2 Eh).1,(h.st s3 Eh).1,hn.1.1,hn.1.2,hn.2,st s1 Eh,st s2 Eh,st s3 Eh,fun _=>⟨by intro x hx;simp at hx,Eh⟩⟩⟩
theorem Eiq(gc:Nat)(vs:List Nat)(h:vs.length<3):(oo gc vs)[2+vs.length]?=D (Y Z):=by
 match vs,h with
 |[],_=>rfl
 |[_],_=>rfl
 |[_,_],_=>rfl
theorem EET(g:Nat->V)(p:Nat->Int)(kl:Nat->Nat)(w:M)(hv:yh g p kl)(hk:yi w g kl)(hR:JP w)(hC:ZI w)(h2:2<=w.heap.size): Ef EU 10 #[EZ (EK 56 g)] w fun e w'=>Eio p kl w e w'/\Io w.heap.size w w':=by
 have K0:=O<|H.new w (EK 56 g) 28;have b1:=Ep w (EJ (EK 56 g) 28);have CN:Ea (Ef EU 23 #[EZ (EK 56 g)] (w.alloc (EJ (EK 56 g) 28)) fun e w'=>EED g p kl (w.alloc (EJ (EK 56 g) 28)) e w'/\Io (w.alloc (EJ (EK 56 g) 28)).heap.size (w.alloc (EJ (EK 56 g) 28)) w'):=O<|EiZ g p kl _ hv (fun i h1 h2=>by obtain⟨A,cap,ys,e1,e2,e3⟩:=hk i h1 h2;exact⟨A,cap,ys,e1,e2,Iy e3 b1⟩) (hR.G b1) (hC.G b1) Jn;obtain⟨pv,hpv⟩:=En (EK 56 g);rw[<-hpv] at K0 b1 CN⊢;have PS:Ea (pv.size=56):=O (by rw[hpv];simp);have H2:=O h2;clear hpv hv hk hR hC h2;go_enter Tryz.func10,Tryz.ntmps10;obtain⟨gp,Xj⟩:=En w.heap.size;go_wp2_with (with_reducible refine wL XY K0 ?_ (hn:=PS.out));refine CN.out.mono ?_;rintro e w2 ⟨hn,b2⟩;have BB:=O<|bt b1 b2;have LW:=O (show w.heap.size<=(w.alloc (EJ pv 28)).heap.size from Eh);clear b1 b2 CN K0;rcases hn with⟨hc,rfl⟩|⟨hc,g2,gc,gq,gt,rfl,C,hg⟩
 ·obtain⟨ck,hck⟩:=En (XX p kl);rw[<-hck] at hc⊢;have rm:=O hck;have t1:(ck !=0)=u:=y_;have HC:=O hc;have bm:Tryz.prog.built 84 [(1,E I ck)]=D #[Y Z,E I ck,Y Z,Y Z,Y Z]:=Ed;clear hck hc;go_wp2_with (first|((with_reducible refine Is 15 ?_);refine I3 rfl 84 _ rfl #[Y Z,E I ck,Y Z,Y Z,Y Z] bm ?_));go_ret;refine⟨.inl ⟨?_,_,U,BB.out.size,?_⟩,bt BB.out (Ep _ _)⟩;·rw[<-rm.out];exact HC.out
  ·rw[<-rm.out];exact H.new _ _ _
 have bm:Tryz.prog.built 84 [(0,Y (D ⟨gc,0,Z⟩))]=D #[Y (D ⟨gc,0,Z⟩),E I 0,Y Z,Y Z,Y Z]:=Ed;have CC:=O<|C.mono LW.out H2.out;have HG:=O<|Jm hc hg;clear C hg hc;go_wp2_with (first|((with_reducible refine Is 18 ?_);refine I3 rfl 84 _ rfl #[Y (D ⟨gc,0,Z⟩),E I 0,Y Z,Y Z,Y Z] bm ?_));obtain⟨gm,hgm⟩:=En w2.heap.size;have K3:=O<|H.new w2 (oo gc []) 84;have b3:=Ep w2 (EJ (oo gc []) 84);change _=_ at hgm;rw[show(#[Y (D ⟨gc,0,Z⟩),E I 0,Y Z,Y Z,Y Z]:Array V)=oo gc [] from rfl];rw[<-hgm] at K3⊢;have tY:Ea (w.heap.size<=gm):=O (by rw[hgm];exact BB.out.size);clear hgm bm;generalize w2.alloc (EJ (oo gc []) 84)=w3 at*;replace CC:=O<|CC.out.G b3;replace BB:=EW BB b3;have SB:Ea (j4 w.heap.size gm gc [] w3):=O ⟨K3.out,fun _ h=>absurd h UP,List.nodup_nil⟩;obtain⟨lo,hlo⟩:=En w.heap.size;obtain⟨p0,hp0⟩:=En p;rw[<-hlo] at SB CC tY;rw[<-hp0] at CC;have Jw:Ea (Io lo w w3):=O (by rw[hlo];exact BB.out);have Z4:=O hlo;have HP0:=O hp0;clear b3 K3 hlo hp0 BB;have BB:=Jw;clear Jw;go_wp2_with fail;go_loopw[20] (fun Y3 wr=> ∃vs:List Nat,Y3=E I vs.length/\vs.length<=3/\j4 lo gm gc vs wr/\JO lo g2 gc gq gt (c0 p0) wr/\Io lo w wr) (fun Y3 _=>3-(Iv Y3).toNat);case atStart=>exact⟨[],U,Eh,SB.out,CC.out,BB.out⟩
 case round=>
  clear SB CC BB;obtain⟨vs,rfl,hv3,SB,CC,BB⟩:=hrel;replace SB:=O SB;replace CC:=O CC;replace BB:=O BB;by_cases hlt:vs.length<3
  ·have t8:decide ((vs.length:Int)<3)=u:=Ib X;have H3:=O hlt;have IX:=O<|fun W=>Ein gm vs.length hlt W;have mE:=O (show lo<=wr.heap.size by have:=SB.out.Ek.lt;have:=tY.out;omega);go_wp2_with fail;refine FY (Ph:=fun p wq=>match p with|0=>Io wr.heap.size wr wq|_=>(∃b:Nat,j4 lo gm gc (vs++[b]) wq/\JO lo g2 gc gq gt (c0 p0) wq/\Io lo w wq)) (Rel:=Oa) (Ij:=fun w w'=> ∀g c,H w g c 122->H w' g c 122) [kp gm 0,kq (E I vs.length),.dep (fun v w=> ∃b:Nat,v=Y (D ⟨b,0,Z⟩)/\lo<=b/\wr.heap.size<=b/\H w b #[EI Z 0 0] 122) (fun v w w' h hr=>by obtain⟨b,h1,h2,h3,h4⟩:=h;exact⟨b,h1,h2,h3,H.G h4 hr⟩) (fun v w w' h hr=>by obtain⟨b,h1,h2,h3,h4⟩:=h;exact⟨b,h1,h2,h3,hr _ _ h4⟩),kp gm 0,kp gm 2,kq (Y (D ⟨gm,2+vs.length,Z⟩)),.val (fun _=>True)] [6] [(0,0),(0,0),(0,0),(0,0),(0,0),(0,0),(0,0)] Ed Ed Ed Ed U_ Ed ?hPh ?h0 ?hstep ?hend
   case hPh=>
    intro p w2 w3 h hr;match p,h with
    |0,h=>exact bt h hr
    |_+1,⟨b,h1,h2,h3⟩=>exact⟨b,h1.G hr,h2.G hr,h3.trans (Below.mono hr (EA tY.out (ax h1.Ek.lt)))⟩
   case h0=> exact Jk wr
   case hstep=>
    refine⟨?_,?_,?_,?_,?_,?_,?_,trivial⟩;all_goals first|intro xv wq p9 hlo hhi hp hd|intro xv wq hp hd
    all_goals simp only[EL,In,Ip,Ig,Ih]
    ·obtain rfl:p9=0:=X;exact Emq
    ·obtain rfl:p9=0:=X;exact Emq
    ·obtain rfl:p9=0:=X;refine JR (f:=24) (args:= #[]) (Ei U) Ez ?_;exact(EhZ wq).mono fun e w2 h=>⟨_,h.1,by rw[h.2];exact Ep wq _,wq.heap.size,U,EA mE.out hp.size,hp.size,by rw[h.2];exact H.new _ _ _⟩
    ·obtain rfl:p9=0:=X;have d0:xv 0=Y (D ⟨gm,0,Z⟩):=hd.at 0 rfl;exact EpX
    ·obtain rfl:p9=0:=X;have d3:xv 3=Y (D ⟨gm,0,Z⟩):=hd.at 3 rfl;exact EpU
    ·obtain rfl:p9=0:=X;have d4:xv 4=Y (D ⟨gm,2,Z⟩):=hd.at 4 rfl;have d1:xv 1=E I vs.length:=hd.at 1 rfl;exact IQ EM (Ei U) (qC U d4 d1 IX.out) U
    ·have d5:xv 5=Y (D ⟨gm,2+vs.length,Z⟩):=hd.at 5 rfl;obtain⟨b,e2,h1,h2,h3⟩: ∃b:Nat,xv 2=Y (D ⟨b,0,Z⟩)/\lo<=b/\wr.heap.size<=b/\H wq b #[EI Z 0 0] 122:=hd.at 2 rfl;have k2:=H.G SB.out.Ek hp;have ff:wq.frozen? ⟨gm,2+vs.length,Z⟩=B:=H.JX k2 _;have cc:wq.cell? ⟨gm,2+vs.length,Z⟩=D (Y Z):=(H.cell k2 _).trans (Eiq gc vs H3.out);have ad:=SB.out.add hp h1 h2 h3 H3.out;have on:=J6 (g:=gm) (W:=wq) (2+vs.length) (Y (D ⟨b,0,Z⟩));refine FW (w':=wq.setCell ⟨gm,2+vs.length,Z⟩ (Y (D ⟨b,0,Z⟩))) (Ei U) (by simp[go_sem,d5,e2,cc,ff]) ⟨fun g2 c2 h4=>h4.other gm _ _ (dA h4 k2 Eb),b,ad,?_,?_⟩ trivial;·exact(CC.out.G hp).via (fun k cs S hS hk=>on.Ek hk (E5 hk k2 xT)) (on.bel lo tY.out (EA mE.out hp.size))
     ·exact(BB.out.trans (Below.mono hp mE.out)).trans (on.bel lo tY.out (EA mE.out hp.size))
   case hend=>
    intro xv w6 hp hd;simp only[EL,In,Ip,Ig,Ih,bU];obtain⟨b,s6,c6,b6⟩:=hp;clear hd;go_wp2_with fail;go_roundw;case rel=>exact⟨vs++[b],Eh,Jn,s6,c6,b6⟩
    case measure=>simp[Iv];omega
  ·have t8:decide ((vs.length:Int)<3)=B:=IJ X;go_wp2_with fail;go_ret;obtain⟨a,ha,Y8⟩:=Jh.Eip SB.out CC.out tY.out X;refine⟨.inr ⟨HG.out.1,g2,a,by rw[ha];rfl,?_,HG.out.2⟩,by rw[<-Z4.out];exact BB.out⟩;rw[<-Z4.out,<-HP0.out];exact Y8
def aK:List V:=[E I 4,E I 1,E I 0,E I 0,E I 0,E I 0,E I 2,E I 4,E I 0,E I 2,E I 4,E I 0]
theorem Eis:Od EU 38 #[E I 0,E I 0,E I 0,E I 0,E I 0,E I 0,E I 0,E I 0,E I 0,E I 0,E I 0,E I 0]:=by exact El7
theorem Eit:aK.toArray.all (·.oneCell')=u:=by simp[aK,OC]
theorem EEV(w:M):Ef EU 16 #[] w fun e w'=>e=Eg (EZ aK.toArray)/\Io w.heap.size w w':=by have BL:=O<|MI 2 4;have BF:Ea (Tryz.prog.built 38 [(0,E I 4),(1,E I 1),(3,EZ #[E I 2,E I 4,E I 0]),(4,EZ #[E I 2,E I 4,E I 0])]=D aK.toArray):=O Ed;obtain⟨fv,XE⟩:=En aK.toArray;have Ur:Ea (fv.size=12):=O (by rw[XE];rfl);have FO:Ea (fv.all (·.oneCell')=u):=O (by rw[XE];exact Eit);rw[<-XE] at BF⊢;clear XE;go_enter Tryz.func16,Tryz.ntmps16;go_wp2_with (with_reducible refine wA Eis (Ev.mk ?_));apply Eo;obtain⟨zv,hzv⟩:=En (#[E I 0,E I 0,E I 0,E I 0,E I 0,E I 0,E I 0,E I 0,E I 0,E I 0,E I 0,E I 0]:Array V);rw[<-hzv];have ZS:Ea (zv.size=12):=O (by rw[hzv];rfl);clear hzv;have K0:=O<|H.new w zv 38;have b0:=Ep w (EJ zv 38);generalize w.alloc (EJ zv 38)=w1 at*;go_wp2_with (first|((with_reducible refine Is 2 ?_);refine I3 rfl 36 _ rfl #[E I 2,E I 4,E I 0] BL.out ?_)|(with_reducible refine wA L7 (Ev.mk ?_)));apply Eo;have K1:=O<|H.new w1 #[E I 0,E I 0,E I 0] 36;have b1:=Ep w1 (EJ #[E I 0,E I 0,E I 0] 36);have K2:=O<|K0.out.G b1;have HN:=O (show w.heap.size<w1.heap.size by have:=K0.out.lt;omega);have b2:=O<|bt b0 b1;clear b0 b1 K0;obtain⟨gl,hgl⟩:=En w1.heap.size;rw[<-hgl] at K1 HN⊢;clear hgl;generalize w1.alloc (EJ #[E I 0,E I 0,E I 0] 36)=w2 at*;go_wp2_with (with_reducible refine wS (cs:= #[E I 2,E I 4,E I 0]) fo K1 (Ev.mk ?_) (h1:=Us));apply Eo;have KL:=O<|K1.out.setRow #[E I 2,E I 4,E I 0];have KF:=O<|H.setRow_other K2.out gl #[E I 2,E I 4,E I 0] Ob;have b3:=O<|E3 (g:=gl) b2.out Ob #[E I 2,E I 4,E I 0];clear K1 K2 b2;generalize w2.setRow gl #[E I 2,E I 4,E I 0]=w3 at*;go_wp2_with (first|(with_reducible refine wL fo KL ?_)|((with_reducible refine Is 5 ?_);refine I3 rfl 38 _ rfl fv BF.out ?_)|(with_reducible refine wS (cs:=fv) xW KF ?_ (ho:=ZS.out) (hn:=Ur.out) (h1:=FO.out)));exact ET (Jl xW U _ _ w.heap.size fv U (KF.out.setRow fv) Ur.out) U ⟨U,E3 (g:=w.heap.size) b3.out (E7 _) fv⟩
def rp:Array V:=(Jb aK (EI Z 0 0) (EI Z 0 0) (Er 32)).toArray
theorem EEW:rp.all (·.oneCell')=u:=by
 refine all_oneCell_toArray ?_;intro v hv;simp only[Jb,XP,da] at hv;rcases hv with hv|hv|⟨x,-,rfl⟩;·simp only[aK,Ui,UP,or_false] at hv;exact EoW
 ·simp only[Ui,UP,or_false] at hv;rcases hv with rfl|rfl<;>rfl
 ·rfl
theorem Eiu(gm:Nat)(x y1 y2 y3:V)(cv:Array V)(w:M)(K:H w gm #[Y Z,x,y1,y2,y3] 84): Ef EU 12 #[Y (D ⟨gm,0,Z⟩),EZ cv] w fun e w'=>e=Eg (EZ rp)/\Io w.heap.size w w':=by obtain⟨zt,jY⟩:=En ((Jb [E I 0,E I 0,E I 0,E I 0,E I 0,E I 0,E I 0,E I 0,E I 0,E I 0,E I 0,E I 0] (EI Z 0 0) (EI Z 0 0) (Er 32)).toArray:Array V);have ZT:Ea (Od EU 43 zt):=O MF;have ZS:Ea (zt.size=46):=O (by rw[jY];rfl);clear jY;obtain⟨fv,XE⟩:=En aK.toArray;obtain⟨tn,htn⟩:=En rp;have BN:Ea (Tryz.prog.built 43 [(0,EZ fv)]=D tn):=O (by rw[XE,htn];kernel_rfl);have NS:Ea (tn.size=46):=O (by rw[htn];rfl);have NO:Ea (tn.all (·.oneCell')=u):=O (by rw[htn];exact EEW);have CF:=O<|fun W=>EEV W;rw[<-XE] at CF;rw[<-htn];clear XE htn;have KE:=O<|H.new w cv 48;go_enter Tryz.func12,Tryz.ntmps12;go_wp2_with (with_reducible refine wA ZT.out (Ev.mk ?_));apply Eo;have b1:=J9 w (EJ cv 48) (EJ zt 43);have KR:Ea (H ((w.alloc (EJ cv 48)).alloc (EJ zt 43)) (w.heap.size+1) zt 43):=O EEU;obtain⟨gr,hgr⟩:=En (w.heap.size+1);rw[<-hgr] at KR⊢;have q_:=O (show w.heap.size<=gr from X);clear hgr KE;have KM:=H.G K b1;have BB:=O b1;generalize (w.alloc (EJ cv 48)).alloc (EJ zt 43)=w1 at*;have cc:w1.cell? ⟨gm,0,Z⟩=D (Y Z):=(H.cell KM 0).trans U;clear KM b1 K;go_wp2_with fail;refine(CF.out _).mono ?_;rintro e w2 ⟨rfl,b2⟩;replace KR:=O<|KR.out.G b2;replace BB:=EW BB b2;clear b2 cc CF;go_wp2_with (first|((with_reducible refine Is 13 ?_);refine I3 rfl 43 _ rfl tn BN.out ?_)|(with_reducible refine wS (cs:=tn) ZD KR ?_ (ho:=ZS.out) (hn:=NS.out) (h1:=NO.out)));exact ET (Jl ZD U _ _ gr tn U (KR.out.setRow tn) NS.out) U ⟨U,E3 (g:=gr) BB.out q_.out tn⟩
theorem EEY(c:EB)(q:V):(mO c q).toArray.size=31:=by simp[mO,Zk,Uy]
theorem EE0(c:EB)(A:Option Eu)(n d:Nat):(mO c (EI A n d)).toArray.all (·.oneCell')=u:=by simp[mO,Zk,Uy,OC]
theorem D8:X2.size=31:=Ed
theorem Ni:X2.all (·.oneCell')=u:=Ed
theorem Eiv(lo:Nat)(g:Nat->V)(a:XU)(c:EB)(rs:Int->List Int)(w:M)(Y8:Jh lo g a c rs w): Ef EU 13 #[Y (D ⟨a.gm,0,Z⟩)] w fun e w'=>(∃A d,e=Eg (EZ (mO c (EI A c.q.length d)).toArray)/\w'.ownsRow w.heap.size 3 1 (EI A c.q.length d) c.q.length (Zc ((Ju c.q).map One.s)))/\Io w.heap.size w w':=by have MM:=O Y8;have KR:=O<|H.new w X2 54;have b1:=Ep w (EJ X2 54);clear Y8;go_enter Tryz.func13,Tryz.ntmps13;go_wp2_with (with_reducible refine wA tK (Ev.mk ?_));apply Eo;have M1:=O<|MM.out.G b1;have BB:=O b1;clear b1 MM;generalize w.alloc (EJ X2 54)=w1 at*;have cc:w1.cell? ⟨a.gm,0,Z⟩=D (Y (D ⟨a.gc,0,Z⟩)):=(H.cell M1.out.Ek 0).trans U;go_wp2_with fail;refine(EgN lo g a.gc a.gq a.gt c _ M1.out.core).mono ?_;rintro e w2 ⟨⟨v,rfl,ow⟩,b2⟩;obtain⟨A,d,rfl⟩:=oX ow;obtain⟨sv,hsv⟩: ∃sv,sv=(mO c (EI A c.q.length d)).toArray:=⟨_,U⟩;have SS:Ea (sv.size=31):=O (by rw[hsv];exact EEY _ _);have SO:Ea (sv.all (·.oneCell')=u):=O (by rw[hsv];exact EE0 _ _ _ _);rw[<-hsv];have fg:=O hsv;have OW:=O<|oJ ow BB.out.size;replace KR:=O<|KR.out.G b2;replace BB:=EW BB b2;clear ow hsv b2 cc M1;go_wp2_with (with_reducible refine wS (cs:=sv) fB KR ?_ (ho:=D8) (hn:=SS.out) (h1:=SO.out));refine ET (Jl fB U _ _ w.heap.size sv U (KR.out.setRow sv) SS.out) U ⟨⟨A,d,by rw[fg.out],?_⟩,E3 (g:=w.heap.size) BB.out (E7 _) sv⟩;have on:=On (g:=w.heap.size) (W:=w2) sv;exact ER OW.out fun _ _ hk=>on.Ek hk (E5 hk KR.out Eb)
theorem Eiw(gm:Nat)(x y1 y2 y3:V)(w:M)(K:H w gm #[Y Z,x,y1,y2,y3] 84): Ef EU 13 #[Y (D ⟨gm,0,Z⟩)] w fun e w'=>e=Eg (EZ X2)/\Io w.heap.size w w':=by have KR:=O<|H.new w X2 54;have b1:=Ep w (EJ X2 54);have BZ:Ea (Tryz.prog.built 54 []=D X2):=O Ed;go_enter Tryz.func13,Tryz.ntmps13;go_wp2_with (with_reducible refine wA tK (Ev.mk ?_));apply Eo;have KM:=H.G K b1;have BB:=O b1;generalize w.alloc (EJ X2 54)=w1 at*;have cc:w1.cell? ⟨gm,0,Z⟩=D (Y Z):=(H.cell KM 0).trans U;clear KM b1 K;obtain⟨zv,hzv⟩:=En X2;have SS:Ea (zv.size=31):=O (by rw[hzv];exact D8);have SO:Ea (zv.all (·.oneCell')=u):=O (by rw[hzv];exact Ni);rw[<-hzv] at BZ KR;have HZV:=O hzv;clear hzv;go_wp2_with (first|((with_reducible refine Is 8 ?_);refine I3 rfl 54 _ rfl zv BZ.out ?_)|(with_reducible refine wS (cs:=zv) fB KR ?_ (ho:=SS.out) (hn:=SS.out) (h1:=SO.out)));exact ET (Jl fB U _ _ w.heap.size zv U (KR.out.setRow zv) SS.out) U ⟨by rw[HZV.out],E3 (g:=w.heap.size) BB.out (E7 _) zv⟩
def X4(g:Nat->V)(i:Nat):Int:=Iv (g i)
def mZ(g:Nat->V)(i:Nat):Nat:=lenOf (g i)
theorem Eiy(h: ∀i,9<=i->i<56-> ∃n:Nat,g i=E I n/\aW i n)(i:Nat)(h1:9<=i)(h2:i<56):(Zf i:Int)<=X4 g i/\X4 g i<=U2 i/\(9<i->i<13->X4 g i%2=0):=by obtain⟨n,e,a,b,c⟩:=h i h1 h2;unfold X4;rw[e];simp only[Iv];exact⟨X,X,fun x y=>by have:=c x y;omega⟩
theorem Eiz{a c:Nat}(h:1<=a/\a<=3/\1<=b/\b<=3/\1<=c/\c<=3/\a≠b/\a≠c/\b≠c):[E .i64 1,E I 2,E I 3].all (ri (a:Int) (b:Int) (c:Int))=u:=by simp only[ar,bO,ri,Ui,UP,or_false,Bool.and_true,Oc,decide_eq_true_eq];omega
theorem EE1(h:dg w g):XX (X4 g) (mZ g)=0:=by
 have ok:=Eiy h.int;obtain⟨a,b,c,e1,e2,e3,hp⟩:=h.perm;have k: ∀i,5<=i->i<=8->Xp (mZ g i) 1 64=u:=fun i h1 h2=>by obtain⟨A,n,cap,ys,base,e,_,_,x,y⟩:=h.keys i h1 h2;unfold mZ;rw[e];simp only[lenOf];exact gS.2 ⟨X,X⟩
 have r: ∀i,9<=i->i<56-> ∀lo hi:Int,lo<=Zf i->(U2 i:Int)<=hi->Xp (X4 g i) lo hi=u:=fun i h1 h2 lo hi h3 h4=>by have:=ok i h1 h2;exact gS.2 ⟨X,X⟩
 have b1:tT (X4 g)=u:=by unfold tT DC X4;rw[h.o0,h.o4,e1,e2,e3];simp only[Iv];rw[Eiz hp];rfl
 have b2:tV (mZ g)=u:=by unfold tV;rw[k 5 X X,k 6 X X,k 7 X X,k 8 X X];rfl
 have b3:yJ (X4 g)=u:=by have o9:=ok 9 X X;have o13:=ok 13 X X;have RF:=(ok 10 X X).2.2 X X;have RH:=(ok 11 X X).2.2 X X;have q12:=(ok 12 X X).2.2 X X;simp[Zf,U2] at o9 o13;simp only[yJ,UL,Xu,ar,bO,rh,Oc,beq_iff_eq];exact⟨⟨X,X⟩,⟨r 10 X X _ _ i_ jE,RF⟩,⟨r 11 X X _ _ i_ jE,RH⟩,⟨r 12 X X _ _ i_ jE,q12⟩,trivial⟩
 have b4:yO (X4 g)=u:=by simp only[yO,gR,ar,bO,tR,Uz,Oc,Nat.reduceMul,bU,Nat.zero_mul,Nat.add_zero];refine⟨⟨?_,?_,?_,?_,trivial⟩,⟨?_,?_,?_,?_,trivial⟩,⟨?_,?_,?_,?_,trivial⟩,⟨?_,?_,?_,?_,trivial⟩,⟨?_,?_,?_,?_,trivial⟩,trivial⟩<;>exact r _ X X _ _ i_ jE
 have b5:yU (X4 g)=u:=by simp only[yU,UL,Xu,ar,bO,Uz,Oc];refine⟨?_,?_,?_,?_,?_,trivial⟩<;>exact r _ X X _ _ i_ jE
 have b6:yX (X4 g)=u:=by simp only[yX,UL,Xu,ar,bO,Uz,Oc];refine⟨?_,?_,?_,trivial⟩<;>exact r _ X X _ _ i_ jE
 have b7:yZ (X4 g)=u:=by simp only[yZ,UL,Xu,ar,bO,Uz,Oc];refine⟨?_,?_,?_,?_,trivial⟩<;>exact r _ X X _ _ i_ jE
 have b8:ya (X4 g)=u:=by simp only[ya,Oc];constructor<;>exact r _ X X _ _ i_ jE
 have b9:yd (X4 g)=u:=by simp only[yd,UL,Xu,ar,bO,Uz,Oc];refine⟨?_,?_,trivial⟩<;>exact r _ X X _ _ i_ jE
 have b10:yf (X4 g)=u:=by have o50:=ok 50 X X;simp[Zf,U2] at o50;simp only[yf,UL,Xu,ar,bO,Uz,Oc,beq_iff_eq];refine⟨⟨X,?_,?_,?_,trivial⟩,?_⟩<;>exact r _ X X _ _ i_ jE
 have b11:DD (X4 g)=u:=r _ X X _ _ i_ jE;unfold XX;rw[b1,b2,b3,b4,b5,b6,b7,b8,b9,b10,b11];rfl
theorem EE3(h:dg w g):yh g (X4 g) (mZ g)/\yi w g (mZ g):=by
 obtain⟨a,b,c,e1,e2,e3,hp⟩:=h.perm;refine⟨⟨fun i h1 h2=> ?_,fun i h1 h2=> ?_,.inr (EE1 h)⟩,fun i h1 h2=> ?_⟩
 ·have hc:i=0\/i=1\/i=2\/i=3\/i=4\/9<=i:=X;unfold X4 JI;rcases hc with rfl|rfl|rfl|rfl|rfl|hc;·rw[h.o0];simp[Iv]
  ·rw[e1];exact Epj
  ·rw[e2];exact Epj
  ·rw[e3];exact Epj
  ·rw[h.o4];simp[Iv]
  ·obtain⟨n,e,_,x,_⟩:=h.int i hc h1;rw[e];simp only[Iv];have:U2 i<=65535:=by unfold U2;(repeat' split);all_goals omega
   exact⟨trivial,X⟩
 ·obtain⟨A,n,cap,ys,base,e,_⟩:=h.keys i h1 h2;exact⟨A,cap,by unfold mZ;rw[e];rfl⟩
 ·obtain⟨A,n,cap,ys,base,e,l,ho,_⟩:=h.keys i h1 h2;exact⟨A,cap,ys,by unfold mZ;rw[e];rfl,by unfold mZ;rw[e];exact l,ho.row⟩
theorem Jh.mono(h:Jh lo g a c rs W)(hl:lo2<=lo)(h2:2<=lo2):Jh lo2 g a c rs W:=by have st: ∀{s r},dO lo s r W->dO lo2 s r W:=fun⟨A,c,k,o⟩=>⟨A,c,k,bJ o hl⟩;exact⟨h.core.mono hl h2,h.Ek,EA hl h.lm,EA hl h.l1,EA hl h.l2,EA hl h.l3,h.n12,h.n13,h.n23,st h.st1,st h.st2,st h.rU,h.rX⟩
theorem EiD(g:Nat->V)(h: ∀i,i<56->(g i).oneCell'=u):(EK 56 g).all (·.oneCell')=u:=by rw[Array.all_eq_true_iff_forall_mem];intro v hv;obtain⟨i,hi,e⟩:=Array.mem_iff_getElem.1 hv;rw[<-e,r_];exact h i Ug
def oq:Array V:=EK 56 fun i=>if 5<=i/\i<=8 then .slice Z 0 0 else E I 0
theorem EiF:Od EU 28 oq:=by exact El7
def Nj:List EC:=[120,152,171,163,5,84,122]
theorem Jh.keep(h:Jh lo g a c rs W)(hb: ∀k cs S,Nj.contains S=u->H W k cs S->H W' k cs S)(hl:Io lo W W'):Jh lo g a c rs W':=by have st: ∀{s r},dO lo s r W->dO lo s r W':=fun h=>h.via (fun _ _=>hb _ _ _ Eb) (fun _ _=>hb _ _ _ Eb);refine⟨h.core.via (fun k cs S hS hk=>hb k cs S ?_ hk) hl,hb _ _ _ Eb h.Ek,h.lm,h.l1,h.l2,h.l3,h.n12,h.n13,h.n23,st h.st1,st h.st2,st h.rU,h.rX⟩;simp only[Bc,List.contains_eq_mem,Ui,UP,or_false,decide_eq_true_eq] at hS;rcases hS with rfl|rfl|rfl|rfl|rfl<;>decide
theorem Jh.only{gx:Nat}(h:Jh lo g a c rs W)(ho:EH gx W W')(K:H W gx cs T)(hT:Nj.contains T=B)(hl:lo<=gx):Jh lo g a c rs W':=
 h.keep (fun _ _ _ hS hk=>ho.Ek hk (E5 hk K EEJ)) (ho.bel lo hl (EA h.lm (ax h.Ek.lt)))
theorem dg.keep(h:dg w g)(hb: ∀k cs,H w k cs 5->H w' k cs 5):dg w' g:=
 ⟨h.o0,h.o4,h.perm,fun i h1 h2=>by obtain⟨A,n,cap,ys,base,e,l,ho,r⟩:=h.keys i h1 h2;exact⟨A,n,cap,ys,base,e,l,dJ ho hb,r⟩,h.int⟩
def EiG(g:Nat->V)(n0:Nat)(v:V)(W:M):Prop:=
 ∃(g2:Nat->V) (a:XU),v=Y (D ⟨a.gm,0,Z⟩)/\Jh n0 g2 a (c0 (X4 g)) (fun _=>[]) W/\ ∀i,i<56->i<5\/8<i->g2 i=E I (X4 g i)
theorem EiH(g:Nat->V)(n0:Nat)(w:M)(hf:dg w g)(hR:JP w)(hC:ZI w)(h2:2<=n0)(hn:n0<=w.heap.size): Ef EU 10 #[EZ (EK 56 g)] w fun e w'=>(∃v,e=Eg v/\EiG g n0 v w')/\Io w.heap.size w w':=by
 obtain⟨pv,kv⟩:=EE3 hf;refine(EET g _ _ w pv kv hR hC X).mono ?_;rintro e w' ⟨hm,hb⟩;rcases hm with⟨h1,-⟩|⟨-,g2,a,rfl,m,r⟩;·exact absurd (EE1 hf) h1
 ·exact⟨⟨_,U,g2,a,U,m.mono hn h2,r⟩,hb⟩
section
variable{P:Program}
theorem Nk{a:E6}(hg:o.guard=Z)(st T:EC)(x:UH)(n:Nat)(tv:Array V)(ho:o.op= .buildSlice st 1 #[(0,x)])(hx:a.eval x=EZ tv)(hs:tv.size=n) (hu:P.underlying st=D (.slice T)) (hi: ∃ie z,P.info? T=D ie/\ie.zero=D z/\ie.size=n) (hn:0<n) (hn2:n<=1000) (h:IZ P ops Q rest (a.put o.dst (EI (D ⟨w.heap.size,0,Z⟩) 1 1)) (w.alloc (EJ tv T))):IZ P ops Q (o::rest) a w:=by obtain⟨ie,z,h1,h2,h3⟩:=hi;subst h3;refine wpList_buildSlice hg st T 1 _ ho tv ie z hu h1 h2 X X ?_ h;have e:(#[((0:Nat),x)].map fun(i,x)=>(i,a.eval x)).toList=([Value.agg tv].zipIdx 0).map fun x=>(x.2,x.1):=uB;rw[e];have hz:1*ie.size=((Array.range (1*ie.size)).map (z.cells[· %z.cells.size]!)).size:=Eh;have:=Great.fill_whole hn [Value.agg tv] ((Array.range (1*ie.size)).map (z.cells[· %z.cells.size]!)) (by simp[Value.cells,hs]) Eh;rw[this];simp[Value.cells]
end
theorem EiK: ∃ie z,Tryz.prog.info? 43=D ie/\ie.zero=D z/\ie.size=46:=by
 have h:(Tryz.prog.info? 43).map (fun i=>(i.zero.isSome,i.size))=D (u,46):=Ed;cases hi:Tryz.prog.info? 43 with
 |none=>rw[hi] at h;cases h
 |some ie=> rw[hi] at h;simp only[j_,nk,Prod.mk.injEq] at h;obtain⟨z,hz⟩:=Option.isSome_iff_exists.1 h.1;exact⟨ie,z,U,hz,h.2⟩
theorem EiL: ∃i z,Tryz.prog.info? 43=D i/\i.zero=D z/\i.size=46/\i.bytes=176/\z.cells.size=46:=by
 have h:(Tryz.prog.info? 43).map (fun i=>(i.zero.isSome,(i.zero.map fun z=>z.cells.size),i.size,i.bytes))=D (u,D 46,46,176):=Ed;cases hi:Tryz.prog.info? 43 with
 |none=>rw[hi] at h;cases h
 |some ie=> rw[hi] at h;simp only[j_,nk,Prod.mk.injEq] at h;obtain⟨z,hz⟩:=Option.isSome_iff_exists.1 h.1;rw[hz] at h;simp only[j_,nk] at h;exact⟨ie,z,U,hz,h.2.2.1,h.2.2.2,h.2.1⟩
theorem EiM(gl base b2:Nat)(A:Option Eu)(n c:Nat)(xs:List V)(Y3:V)(m:Nat)(ys:List V)(w:M)(K:H w gl #[EI A n c] 91)(hown:w.ownsRow base 43 46 (EI A n c) n xs)(hu:w.ownsRow b2 43 46 Y3 m ys)(h1: ∀y∈ys,y.oneCell'=u)(hsz:n+m<=1000)(hb:base<=w.heap.size): Ef EU 28 #[Y (D ⟨gl,0,Z⟩),Y3] w fun e w'=>e=Eg (Et #[])/\ ∃A' c' w1,w'=w1.setCell ⟨gl,0,Z⟩ (EI A' (n+m) c')/\H w1 gl #[EI A n c] 91/\w1.ownsRow base 43 46 (EI A' (n+m) c') (n+m) (xs++ys)/\w.grownBy w1 (EI A n c).ownBlock:=by obtain⟨i,z,hI1,hI2,i8,i9,yo⟩:=EiL;obtain⟨Y4,d,rfl⟩:=oX hu;obtain⟨A9,c9,V5,hrun,oc,fF⟩:=Dl (P:=EU) (w:=w) base b2 60 60 43 i z 46 176 Tryz.underlying60 hI1 hI2 i8 i9 yo X (EI A n c) n xs hown (EI Y4 m d) m ys hu h1 OD X hb;have c0:w.cell? ⟨gl,0,Z⟩=D (EI A n c):=(H.cell K 0).trans U;have OWN:=O oc;have KG:=O<|rO hown fF K Eb;have GR:=O fF;clear oc fF hI1 hI2 i8 i9 yo K hown hu h1;go_enter Tryz.func28,Tryz.ntmps28;go_wp2_with ((with_reducible refine Is 10 ?_);(refine Ol (Ei U) (Up U U U hrun) ?_);refine Ev.mk ?_);apply Eo;clear hrun c0;have c1:V5.cell? ⟨gl,0,Z⟩=D (EI A n c):=(H.cell KG.out 0).trans U;have f1:V5.frozen? ⟨gl,0,Z⟩=B:=H.JX KG.out 0;go_wp2_with fail;go_end0;exact⟨U,A9,c9,V5,U,KG.out,OWN.out,GR.out⟩
theorem yp{a:E6}{cs:List V}(hT:IW P T n)(hw:I_ o (Jd ops a.tmps)=u)(hl:kf o a T b off)(hr:Ea (w.rangeAt b off cs))(hn:cs.length=n) (h:IZ P ops Q rest (a.put o.dst (EZ cs.toArray)) w):IZ P ops Q (o::rest) a w:=by
 obtain⟨⟨d,hu,hd⟩,hi⟩:=hT;unfold kf at hl;split at hl;·rename_i t x ho;obtain⟨rfl,hx⟩:=hl;refine Ol hw ?_ h;have hrun:=run_loadVar_mid w b off t cs d hr.out hu oS fM;unfold Iw;exact Em6
 ·exact EpD
def j5:JZ:=⟨0,0,[],B,0,0,0,0,B,B⟩
theorem Nl:Od EU 48 (j5.cells Z 0).toArray:=by intro ev o w ho;unfold Iw;simp only[ho];simp[go_sem];exact congrArg (fun c=>w.alloc (EJ c 48)) Ed
theorem EE4: ∃i z,Tryz.prog.info? 48=D i/\i.zero=D z/\i.size=10/\i.bytes=96/\z.cells.size=10:=by
 have h:(Tryz.prog.info? 48).map (fun i=>(i.zero.isSome,(i.zero.map fun z=>z.cells.size),i.size,i.bytes))=D (u,D 10,10,96):=Ed;cases hi:Tryz.prog.info? 48 with
 |none=>rw[hi] at h;cases h
 |some ie=> rw[hi] at h;simp only[j_,nk,Prod.mk.injEq] at h;obtain⟨z,hz⟩:=Option.isSome_iff_exists.1 h.1;rw[hz] at h;simp only[j_,nk] at h;exact⟨ie,z,U,hz,h.2.2.1,h.2.2.2,h.2.1⟩
abbrev gT:=List (JZ×Option Eu×Nat)
def rq(es:gT):List V:=es.flatMap fun x=>x.1.cells x.2.1 x.2.2
structure Xq(n0:Nat)(W:M)(A:Option Eu)(n c:Nat)(es:gT):Prop where
 own:W.ownsRow n0 48 10 (EI A n c) n (rq es)
 len:es.length=n
 each: ∀x∈es,x.1.ok/\x.1.b.length<=120/\Own W n0 x.2.1 x.2.2 x.1.b
theorem Xq.G{c:Nat}{es:gT}(h:Xq n0 W A n c es)(hb:Io W.heap.size W W'):Xq n0 W' A n c es:=
 ⟨ER h.own fun _ _ hk=>H.G hk hb,h.len,fun x hx=>⟨(h.each x hx).1,(h.each x hx).2.1,ZW (h.each x hx).2.2 hb⟩⟩
theorem Xq.keep{c:Nat}{es:gT}(h:Xq n0 W A n c es)(hb: ∀S,S=48\/S=5-> ∀k cs,H W k cs S->H W' k cs S):Xq n0 W' A n c es:=
 ⟨ER h.own (hb _ (.inl U)),h.len,fun x hx=>⟨(h.each x hx).1,(h.each x hx).2.1,dJ (h.each x hx).2.2 (hb _ (.inr U))⟩⟩
theorem JZ.ry(e:JZ)(A:Option Eu)(d:Nat):(e.cells A d).length=10:=rfl
theorem EiN(es:gT): ∀(i j:Nat),j<10-> ∀x,es[i]?=D x->(rq es)[i*10+j]?=(x.1.cells x.2.1 x.2.2)[j]?:=by
 induction es with
 |nil=>intro i j _ x h;simp at h
 |cons y t ih=>
  intro i j hj x h;rw[rq,kj];match i,h with
  |0,h=> simp only[kx,nk] at h;subst h;rw[bM D9,Nat.zero_mul,JV]
  |i+1,h=> rw[ak D9,JZ.ry,show(i+1)*10+j-10=i*10+j from X];exact ih i j hj x Un
theorem EiP(es:gT)(x:JZ×Option Eu×Nat):rq (es++[x])=rq es++x.1.cells x.2.1 x.2.2:=by simp[rq]
theorem Xq.at{c:Nat}{es:gT}(h:Xq n0 W A n c es)(i:Nat)(hi:i<n): ∃b x,A=D ⟨b,0,Z⟩/\es[i]?=D x/\x∈es/\n0<=b/\W.rangeAt b (i*10) (x.1.cells x.2.1 x.2.2):=by
 obtain⟨x,hx⟩: ∃x,es[i]?=D x:=⟨es[i]'(by rw[h.len];exact hi),Ok _⟩;rcases h.own.2 with⟨-,h0⟩|⟨g,cap,cur,hv,hb,hrest⟩;·omega
 ·injection hv with e1 e2 e3;subst e1 e3;refine⟨g,x,U,hx,dw hx,hb,fun j v hj=> ?_⟩
  have hjl:j<10:=by
   rcases JG j 10 with h|h;·exact h
   ·rw[aM D9] at hj;cases hj
  rw[h.own.cellAt (i*10+j) X,EiN es i j hjl x hx];exact hj
theorem EiQ(e:JZ)(A A2:Option Eu)(d d2:Nat)(n:Nat)(b:List Int)(h:b.length=n):(e.cells A d).toArray.setIfInBounds 2 (EI A2 n d2)=(JZ.cells {e with b:=b} A2 d2).toArray:=by subst h;rfl
theorem Xq.nil(n0:Nat)(w:M)(h:n0<=w.heap.size):Xq n0 (w.alloc (EJ #[] 48)) (D ⟨w.heap.size,0,Z⟩) 0 0 []:=
 ⟨pE w #[] 0 h OD U,U,fun x hx=>absurd hx (UP)⟩
theorem EE7(v:V)(w:M)(hv:qY w v): Ef EU 11 #[v] w fun e w'=>(∃A n c es,e=Eg (EI A n c)/\n<=60/\Xq w.heap.size w' A n c es)/\Io w.heap.size w w':=by
 obtain⟨A,m,cap,rfl,hx⟩:=hv;have HX:=O hx;obtain⟨n0,hn0⟩:=En w.heap.size;have E0:=O<|Xq.nil n0 w X;have B0:Ea (Io n0 w (w.alloc (EJ #[] 48))):=O (by rw[hn0];exact Ep w _);have B1:Ea (∀W,Io n0 w W->Io w.heap.size w W):=O (by rw[hn0];exact fun W h=>h);have B2:Ea (∀W,Io w.heap.size w W->Io n0 w W):=O (by rw[hn0];exact fun W h=>h);have HN:=O hn0;clear hx;rw[<-hn0];clear hn0;obtain⟨i,z,hI1,hI2,i8,i9,yo⟩:=EE4;have AP:=O<|fun(Y6:M) (Ax:Option Eu) (n c:Nat) (es:gT) (Bx:Option Eu) (x:JZ×Option Eu×Nat) (ho:Xq n0 Y6 Ax n c es) (hu:Y6.ownsRow n0 48 10 (EI Bx 1 1) 1 (x.1.cells x.2.1 x.2.2)) (h1:n<=60) (hb:n0<=Y6.heap.size)=>Dl (P:=EU) (w:=Y6) n0 n0 29 29 48 i z 10 96 Tryz.underlying29 hI1 hI2 i8 i9 yo X (EI Ax n c) n (rq es) ho.own (EI Bx 1 1) 1 (x.1.cells x.2.1 x.2.2) hu (fun y hy=>by have:=JZ.one x.1 x.2.1 x.2.2;rw[Array.all_eq_true_iff_forall_mem] at this;exact this y (by simpa using hy)) OD X hb;clear hI1 hI2 i8 i9 yo;go_enter Tryz.func11,Tryz.ntmps11;go_wp2_with fail;go_loopw[3,4] (fun x y wr=> ∃(i n c:Nat) (A:Option Eu) (es:gT),i<=60/\n<=i/\y=E I i/\x=EI A n c/\Xq n0 wr A n c es/\Io n0 w wr) (fun _ y _=>60-(Iv y).toNat);case atStart=>exact⟨0,0,0,_,_,X,X,U,U,E0.out,B0.out⟩
 case round=>
  clear E0 B0;obtain⟨i,n,c,Ao,es,EkM,hni,rfl,rfl,EE,BB⟩:=hrel;replace EE:=O EE;replace BB:=O BB;by_cases hlt:i<m
  ·by_cases hl2:i<60
   ·have t1:decide ((i:Int)<(m:Int))=u:=Ib X;have t2:decide ((i:Int)<60)=u:=Ib X;obtain⟨b,off,hA,hcx⟩:=HX.out.resolve_left X;obtain⟨e,Ab,d,hin,hoc⟩:=hcx i hlt;subst hA
    have RA:Ea (wr.rangeAt b (off+i*10) (e.cells Ab d)):=O (by
     intro j v hj
     have hjl:j<10:=by
      rcases JG j 10 with h|h;·exact h
      ·rw[aM D9] at hj;cases hj
     have hc:=(hoc j hjl).trans hj;rw[(B1.out wr BB.out).cell (XA _ _ hc)];exact hc)
    have IN:=O<|hin.G (B1.out wr BB.out);obtain⟨k,hk⟩:=En (min e.b.length 120);have hk1:k<=d:=by have:=hin.le;omega
    have ek:min (e.b.length:Int) 120=(k:Int):=X;have hk2:k<=e.b.length/\k<=120:=X;have hd:=hin.max;obtain⟨lb,hlb⟩:=En e.b.length;rw[<-hlb] at ek hk2;have HLB:=O hlb;have lF:Ea ((j5.cells Z 0).toArray.size=10):=O U;have ma:Ea ((e.cells Ab d).toArray.size=10):=O U;have yq:=O<|e.one Ab d;have c2:(e.cells Ab d).toArray[2]?=D (EI Ab lb d):=by rw[hlb];rfl
    obtain⟨cv,hcv⟩:=En ((e.cells Ab d).toArray);have yn:=O hcv;have CL:Ea ((e.cells Ab d).length=10):=O<|JZ.ry _ _ _;clear hcx hoc hin hk hlb;go_wp2_with (first|((with_reducible refine U0 48 ?_);(with_reducible refine yp (b:=b) (off:=off+i*10) (cs:=e.cells Ab d) gN ?_ ?_ RA ?_ ?_);(·exact Ei rfl);(·exact⟨rfl,rfl⟩);(·exact CL.out))|(with_reducible refine wA Nl (Ev.mk ?_)));apply Eo;rw[<-hcv] at ma yq c2⊢;clear hcv RA;have KE:=O<|H.new wr (j5.cells Z 0).toArray 48;have b1:=Ep wr (EJ (j5.cells Z 0).toArray 48);have cM:=O (show n0<=wr.heap.size from EE8);obtain⟨ge,hge⟩:=En wr.heap.size;rw[<-hge] at KE cM⊢;have HG2:=O (show wr.heap.size<=ge from X);clear hge;generalize wr.alloc (EJ (j5.cells Z 0).toArray 48)=w1 at*;go_wp2_with (with_reducible refine wS (cs:=cv) gN KE (Ev.mk ?_) (ho:=lF.out) (hn:=ma.out) (h1:=yq.out));apply Eo;have K1:=O<|KE.out.setRow cv;have b2:=E3 (g:=ge) b1 HG2.out cv;generalize w1.setRow ge cv=w2 at*;have EE2:=O<|EE.out.G b2;have Jw:=O<|BB.out.trans (b2.mono EE8);have RB:=O<|Iy IN.out.row b2;have yr:=O<|sY EE.out.own;clear KE b1 b2 EE BB;obtain⟨A5,c5,V5,hrun,Nm,EE_,-⟩:=zd (w2.alloc (EJ #[] 5)) w2.heap.size (D ⟨w2.heap.size,0,Z⟩) 0 [] (F6 w2 w2.heap.size (E7 _)) Ab d (e.b.take k) (Iy (oG RB.out k) (Ep w2 _)) (by have:=List.length_take_le k e.b;simp only[List.length_nil];omega) Eh 23;have hkl:(e.b.take k).length=k:=by rw[aj,<-HLB.out];omega
    rw[hkl] at hrun;simp only[List.length_nil,JV] at hrun;rw[Z8] at Nm;have OWN:=O Nm;have b5:=(Ep w2 (EJ #[] 5)).trans EE_;have f2:(w2.alloc (EJ #[] 5)).cell? ⟨ge,2,Z⟩=D (EI Ab lb d):=((K1.out.G (Ep w2 _)).cell 2).trans c2;have dh:=O hkl;clear Nm EE_ hkl;go_wp2_with ((with_reducible refine Is 29 ?_);(refine Ol (Ei U) (Up U U U hrun) ?_);refine Ev.mk ?_);apply Eo;clear hrun f2;have K5:=O<|K1.out.G b5;have jI:=O<|EE2.out.G b5;have HGV:=O<|show ge<V5.heap.size from K5.out.lt;have f5:V5.frozen? ⟨ge,2,Z⟩=B:=K5.out.JX 2;have g5:V5.cell? ⟨ge,2,Z⟩=D (EI Ab lb d):=(K5.out.cell 2).trans c2;go_wp2_with (with_reducible refine Pg 48 ?_);apply Eo;obtain⟨e2,he2⟩:=En ({e with b:=e.b.take k}:JZ);have hc2:cv.setIfInBounds 2 (EI A5 k c5)=(e2.cells A5 c5).toArray:=by rw[yn.out,he2];exact EiQ e Ab A5 d c5 k _ dh.out
    have K6:=O<|hc2▸K5.out.set 2 (EI A5 k c5);have ou:=J6 (g:=ge) (W:=V5) 2 (EI A5 k c5);have KU:=K5.out;have hb2:e2.b=e.b.take k:=by rw[he2]
    have EO:Ea (JZ.ok e2/\e2.b.length<=120/\Own (V5.setCell ⟨ge,2,Z⟩ (EI A5 k c5)) n0 A5 c5 e2.b):=O ⟨by rw[he2];exact⟨IN.out.ok.x0,IN.out.ok.x1,IN.out.ok.x2,IN.out.ok.x3⟩,by rw[hb2,dh.out];exact hk2.2,by rw[hb2];exact dJ (bJ OWN.out EIE) fun _ _ hk=>ou.Ek hk (E5 hk KU Eb)⟩;have rz:Ea (Xq n0 (V5.setCell ⟨ge,2,Z⟩ (EI A5 k c5)) Ao n c es):=O ⟨KD jI.out.own fun a ha=>ou.keep _ (Nat.ne_of_lt (Nat.lt_of_lt_of_le (yr.out a ha) HG2.out)) (sY jI.out.own a ha),jI.out.len,fun x hx=>⟨(jI.out.each x hx).1,(jI.out.each x hx).2.1,dJ (jI.out.each x hx).2.2 fun _ _ hk=>ou.Ek hk (E5 hk KU Eb)⟩⟩;have zc:=O<|(Jw.out.trans (b5.mono EIE)).trans (ou.bel n0 cM.out (by have:=cM.out;have:=HGV.out;omega));generalize V5.setCell ⟨ge,2,Z⟩ (EI A5 k c5)=w6 at*;have ra:=O<|show(e2.cells A5 c5).toArray.size=10 from rfl;have D_:=O (show∃ie z,Tryz.prog.info? 48=D ie/\ie.zero=D z/\ie.size=10 from EII);have b7:=Ep w6 (EJ (e2.cells A5 c5).toArray 48);have FE:=O (show n0<=w6.heap.size by have:=zc.out.size;have:=HN.out;omega);obtain⟨A8,c8,V8,EIJ,EIU,gr8⟩:=AP.out (w6.alloc (EJ (e2.cells A5 c5).toArray 48)) Ao n c es (D ⟨w6.heap.size,0,Z⟩) (e2,A5,c5) (rz.out.G b7) (pE w6 _ 1 FE.out OD U) X (by simp;have:=FE.out;omega);have OW8:=O EIU;have GR8:=O gr8;clear EIU gr8 AP;obtain⟨v2,hv2⟩:=En ((e2.cells A5 c5).toArray);rw[<-hv2] at K6 ra EIJ;have wG:=O hv2;clear hv2 hc2;go_wp2_with (first|(with_reducible refine wL gN K6 ?_ (hn:=ra.out))|((with_reducible refine Is 33 ?_);(refine Nk rfl 29 48 _ 10 v2 rfl rfl ra.out Tryz.underlying29 D_.out X X ?_))|((with_reducible refine Is 34 ?_);(refine Ol (Ei rfl) (Up rfl rfl rfl EIJ) ?_)));refine⟨⟨i+1,n+1,c8,A8,es++[(e2,A5,c5)],X,X,Eh,U,⟨?_,?_,?_⟩,?_⟩,Jv⟩;·rw[EiP];exact OW8.out
    ·rw[I2,rz.out.len];rfl
    ·intro x hx;have keep: ∀A c b,Own w6 n0 A c b->Own V8 n0 A c b:=fun A c b h=>dJ h fun _ _ hk=>rO (rz.out.G b7).own GR8.out (H.G hk b7) Eb;rcases XP.1 hx with hx|hx;·exact⟨(rz.out.each x hx).1,(rz.out.each x hx).2.1,keep _ _ _ (rz.out.each x hx).2.2⟩
     ·rw[ft.1 hx];exact⟨EO.out.1,EO.out.2.1,keep _ _ _ EO.out.2.2⟩
    ·exact(zc.out.trans (b7.mono FE.out)).trans (My (rz.out.G b7).own GR8.out (by simp;have:=FE.out;omega))
   ·have t1:decide ((i:Int)<(m:Int))=u:=Ib X;have t2:decide ((i:Int)<60)=B:=IJ X;exact Eo5
  ·have t1:decide ((i:Int)<(m:Int))=B:=IJ X;exact Eo5
theorem EiW{fn:Func}{p q r:Tmp}(hT:IW EU T n)(h:fn.results= #[.tmp q,.cell p T,.tmp r])(tmps:Array V)(w:M)(g:Nat)(cs:Array V)(v Y3:V) (hp:tmps.getD p I6=Y (D ⟨g,0,Z⟩)) (hq:tmps.getD q I6=v) (hr:tmps.getD r I6=Y3) (hg:H w g cs T) (hn:cs.size=n):(Xa fn tmps).run EU w= .ok (Et #[v,EZ cs,Y3]) w:=by
 have hp':tmps[p]?.getD I6=Y (D ⟨g,0,Z⟩):=mF;have hq':tmps[q]?.getD I6=v:=rP;have hr':tmps[r]?.getD I6=Y3:=by simpa using hr
 simp[Xa,h,hp',hq',hr',asAddr,AA hT hg hn]
theorem EiY(gm:Nat)(v:V)(w:M)(h:w.cell? ⟨gm,1,Z⟩=D v): Ef EU 29 #[Y (D ⟨gm,0,Z⟩)] w fun e w'=>e=Eg v/\Io w.heap.size w w':=by go_enter Tryz.func29,Tryz.ntmps29;go_wp2_with fail;go_ret;exact⟨U,IE _ _⟩
theorem Ei0:Od EU 91 #[EI Z 0 0]:=by intro ev o w ho;unfold Iw;simp only[ho];simp[go_sem]
structure FI(n0 gm:Nat)(code:Int)(S:M->Prop)(Y5 PS:Array V->Prop):Prop where
 keep: ∀W W',S W->(∀k cs T,Nj.contains T=u->H W k cs T->H W' k cs T)->Io n0 W W'->S W'
 step: ∀W (e:JZ) A d,S W->e.ok->Own W 0 A d e.b->e.b.length<=120->Ef EU 12 #[Y (D ⟨gm,0,Z⟩),EZ (e.cells A d).toArray] W fun en w'=> ∃tv:Array V,en=Eg (EZ tv)/\tv.size=46/\tv.all (·.oneCell')=u/\Y5 tv/\S w'/\JN n0 W.heap.size W w'
 site: ∀W,S W->Ef EU 13 #[Y (D ⟨gm,0,Z⟩)] W fun en w'=> ∃sv:Array V,en=Eg (EZ sv)/\sv.size=31/\sv.all (·.oneCell')=u/\PS sv/\Io W.heap.size W w'
 code: ∀W,S W->W.cell? ⟨gm,1,Z⟩=D (E I code)
theorem FI.G{code:Int}{S:M->Prop}{PS:Array V->Prop}(h:FI n0 gm code S Y5 PS)(hs:S W)(hb:Io W.heap.size W W')(hn:n0<=W.heap.size):S W':=
 h.keep W W' hs (fun _ _ _ _ hk=>hk.G hb) (hb.mono hn)
def gV(Jy:List (Array V)):List V:=Jy.flatMap Array.toList
theorem Ei1(Jy:List (Array V))(t:Array V):gV (Jy++[t])=gV Jy++t.toList:=by simp[gV]
structure mc(n0 gl:Nat)(n:Nat)(Y5:Array V->Prop)(W:M):Prop where
 ex: ∃(A:Option Eu) (c:Nat) (Jy:List (Array V)),H W gl #[EI A n c] 91/\W.ownsRow n0 43 46 (EI A n c) n (gV Jy)/\Jy.length=n/\ ∀tv∈Jy,Y5 tv/\tv.size=46
theorem mc.keep(h:mc n0 gl n Y5 W)(hb: ∀S,S=91\/S=43-> ∀k cs,H W k cs S->H W' k cs S):mc n0 gl n Y5 W':=by obtain⟨A,c,Jy,k,o,r⟩:=h;exact⟨A,c,Jy,hb _ (.inl U) _ _ k,ER o (hb _ (.inr U)),r⟩
theorem mc.G(h:mc n0 gl n Y5 W)(hb:Io W.heap.size W W'):mc n0 gl n Y5 W':=h.keep fun _ _ _ _ hk=>hk.G hb
def FJ(gl gm:Nat)(n0 n:Nat)(code:Int)(Y5 PS:Array V->Prop)(j:Nat)(v:V)(w:M):Prop:=match j with
 |0=>v=Y (D ⟨gl,0,Z⟩)
 |1=> ∃(A:Option Eu) (c:Nat) (Jy:List (Array V)),v=EI A n c/\w.ownsRow n0 43 46 (EI A n c) n (gV Jy)/\Jy.length=n/\ ∀tv∈Jy,Y5 tv/\tv.size=46
 |2=>v=Y (D ⟨gm,0,Z⟩)
 |3=> ∃sv:Array V,v=EZ sv/\sv.size=31/\sv.all (·.oneCell')=u/\PS sv
 |4=>v=Y (D ⟨gm,0,Z⟩)
 |_=>v=E I code
theorem Ei2(gl gm:Nat)(n0 n:Nat)(code:Int)(Y5 PS:Array V->Prop): ∀j v w w',j<6->FJ gl gm n0 n code Y5 PS j v w->Oa w w'->FJ gl gm n0 n code Y5 PS j v w':=by
 intro j v w w' hi h hb;unfold FJ at*;split at h;case h_2=>obtain⟨A,c,Jy,e,o,r⟩:=h;exact⟨A,c,Jy,e,ER o fun _ _ hk=>H.G hk hb,r⟩
 all_goals exact h
theorem Ei3(pv:Array V)(Y5:Array V->Prop)(PS:Int->Array V->Prop)(b0:Nat)(A0:Option Eu)(n c0:Nat)(es:gT)(w:M)(hp:pv.size=56)(hn:n<=60)(hE:Xq b0 w A0 n c0 es) (hN: ∀W,Io w.heap.size w W->Ef EU 10 #[EZ pv] W fun e w'=>(∃gm code S,e=Eg (Y (D ⟨gm,0,Z⟩))/\FI w.heap.size gm code S Y5 (PS code)/\S w')/\Io W.heap.size W w'): Ef EU 14 #[EZ pv,EI A0 n c0] w fun e w'=>(∃A c Jy sv code,e=Eg (Et #[EI A n c,EZ sv,E I code])/\w'.ownsRow w.heap.size 43 46 (EI A n c) n (gV Jy)/\Jy.length=n/\(∀tv∈Jy,Y5 tv/\tv.size=46)/\sv.size=31/\PS code sv)/\Io w.heap.size w w':=by
 obtain⟨n0,hn0⟩:=En w.heap.size;rw[<-hn0] at hN⊢;have CN:=O hN;have HN:=O hn0;have HP:=O hp;have K0:=O<|H.new w pv 28;have b1:=Ep w (EJ pv 28);have EE:=O hE;clear hN hn0 hp hE;go_enter Tryz.func14,Tryz.ntmps14;go_wp2_with (with_reducible refine wA tK (Ev.mk ?_));apply Eo;obtain⟨zs,hzs⟩:=En X2;rw[<-hzs];have ZS:Ea (zs.size=31):=O FU;clear hzs;have FX:Ea (H ((w.alloc (EJ pv 28)).alloc (EJ zs 54)) (w.heap.size+1) zs 54):=O (by have:=H.new (w.alloc (EJ pv 28)) zs 54;simpa using this);have b2:=Ep (w.alloc (EJ pv 28)) (EJ zs 54);have KP:=O<|K0.out.G b2;have bb:=bt b1 b2;replace EE:=O<|EE.out.G bb;have BB:Ea (Io n0 w ((w.alloc (EJ pv 28)).alloc (EJ zs 54))):=O (by rw[HN.out];exact bb);have Nn:Ea (n0<=w.heap.size+1):=O Ob;clear b1 b2 bb K0;obtain⟨gs,hgs⟩:=En (w.heap.size+1);obtain⟨gp,Xj⟩:=En w.heap.size;rw[<-hgs] at FX Nn⊢;rw[<-Xj] at KP⊢;clear hgs Xj;generalize (w.alloc (EJ pv 28)).alloc (EJ zs 54)=w2 at*;go_wp2_with (with_reducible refine wL XY KP ?_ (hn:=HP.out));refine(CN.out _ BB.out).mono ?_;rintro e w3 ⟨⟨gm,code,S,rfl,rs,ss⟩,b3⟩;have RS:=O rs;have SS:=O ss;have KS:=O<|FX.out.G b3;replace EE:=O<|EE.out.G b3;have HS2:=O (show n0<=w2.heap.size by have:=Nn.out;have:=FX.out.lt;omega);replace BB:=O<|BB.out.trans (b3.mono HS2.out);have LN:=O<|EA HS2.out b3.size;clear rs ss b3 KP FX CN HS2;go_wp2_with (with_reducible refine wA Ei0 (Ev.mk ?_));apply Eo;have Np:=O<|H.new w3 #[EI Z 0 0] 91;have b4:=Ep w3 (EJ #[EI Z 0 0] 91);have l_:=O<|show n0<=w3.heap.size from LN.out;obtain⟨gl,hgl⟩:=En w3.heap.size;rw[<-hgl] at Np l_⊢;clear hgl;replace SS:=O<|RS.out.G SS.out b4 LN.out;replace KS:=O<|KS.out.G b4;replace EE:=O<|EE.out.G b4;replace BB:=O<|BB.out.trans (b4.mono LN.out);replace LN:=O<|EA LN.out b4.size;have TL:Ea (mc n0 gl 0 Y5 (w3.alloc (EJ #[EI Z 0 0] 91))):=O ⟨Z,0,[],Np.out,cJ _ _ _ _,U,fun tv h=>absurd h (UP)⟩;clear b4 Np;generalize w3.alloc (EJ #[EI Z 0 0] 91)=w4 at*;go_wp2_with fail;go_loopw[15] (fun y wr=> ∃i:Nat,i<=n/\y=E I i/\S wr/\H wr gs zs 54/\Xq b0 wr A0 n c0 es/\mc n0 gl i Y5 wr/\Io n0 w wr/\n0<=wr.heap.size) (fun y _=>n-(Iv y).toNat);case atStart=>exact⟨0,X,U,SS.out,KS.out,EE.out,TL.out,BB.out,LN.out⟩
 case round=>
  clear SS KS EE TL BB LN;obtain⟨i,hin,rfl,SS,KS,EE,TL,BB,LN⟩:=hrel;replace SS:=O SS;replace KS:=O KS;replace EE:=O EE;replace TL:=O TL;replace BB:=O BB;replace LN:=O LN;by_cases hlt:i<n
  ·have t1:decide ((i:Int)<(n:Int))=u:=Ib X;obtain⟨b,x,hA,hx1,hx2,-,hra⟩:=EE.out.at i hlt;obtain⟨eo,el,ew⟩:=EE.out.each x hx2;subst hA;have RA:=O hra;have OW:=O ew;have EO:=O<|Jm eo el;have CL:Ea ((x.1.cells x.2.1 x.2.2).length=10):=O<|JZ.ry _ _ _;have ma:Ea ((x.1.cells x.2.1 x.2.2).toArray.size=10):=O U;have yq:=O<|x.1.one x.2.1 x.2.2;have lF:Ea ((j5.cells Z 0).toArray.size=10):=O U;have gW:=O<|fun W (hs:S W) (ho:Own W 0 x.2.1 x.2.2 x.1.b)=>RS.out.step W x.1 x.2.1 x.2.2 hs eo ho el;clear hx1 hra ew eo el;go_wp2_with (first|((with_reducible refine U0 48 ?_);(with_reducible refine yp (b:=b) (off:=i*10) (cs:=x.1.cells x.2.1 x.2.2) gN ?_ ?_ RA ?_ ?_);(·exact Ei rfl);(·exact⟨rfl,rfl⟩);(·exact CL.out))|(with_reducible refine wA Nl (Ev.mk ?_)));apply Eo;have KE:=O<|H.new wr (j5.cells Z 0).toArray 48;have b1:=Ep wr (EJ (j5.cells Z 0).toArray 48);obtain⟨cv,hcv⟩:=En ((x.1.cells x.2.1 x.2.2).toArray);obtain⟨ge,hge⟩:=En wr.heap.size;rw[<-hcv] at ma yq⊢;simp only[<-hcv] at gW;rw[<-hge] at KE⊢;have HG2:=O (show wr.heap.size<=ge from X);clear hge hcv RA;generalize wr.alloc (EJ (j5.cells Z 0).toArray 48)=w1 at*;go_wp2_with (with_reducible refine wS (cs:=cv) gN KE (Ev.mk ?_) (ho:=lF.out) (hn:=ma.out) (h1:=yq.out));apply Eo;have KE1:=O<|KE.out.setRow cv;have b2:=E3 (g:=ge) b1 HG2.out cv;generalize w1.setRow ge cv=w2 at*;replace SS:=O<|RS.out.G SS.out b2 LN.out;replace KS:=O<|KS.out.G b2;replace EE:=O<|EE.out.G b2;replace TL:=O<|TL.out.G b2;replace BB:=O<|BB.out.trans (b2.mono LN.out);replace OW:=O<|bJ (ZW OW.out b2) (bY _);replace LN:=O<|EA LN.out b2.size;clear KE b1 b2;go_wp2_with (with_reducible refine wL gN KE1 ?_ (hn:=ma.out));refine(gW.out _ SS.out OW.out).mono ?_;rintro e w5 ⟨tv,rfl,ts,tn,tg,ss,mm⟩;have TS:=O ts;have TO:=O tn;have TG:=O tg;have FZ:=O ss;have Fa:=O<|mm.Ek _ _ _ KS.out.lt Eb Eb KS.out;have jI:=O<|EE.out.keep fun S hS k cs hk=>mm.Ek k cs S hk.lt ox ox hk;have TL5:=O<|TL.out.keep fun S hS k cs hk=>mm.Ek k cs S hk.lt ox ox hk;have Fb:=O<|BB.out.trans mm.bel;have j6:=O<|EA LN.out mm.bel.size;clear ts tn tg ss mm SS KS EE TL BB LN KE1 OW gW;go_wp2_with ((with_reducible refine Is 22 ?_);(refine Nk U 60 43 _ 46 tv U U TS.out Tryz.underlying60 EiK X X ?_);refine Ev.mk ?_);apply Eo;have b6:=Ep w5 (EJ tv 43);have Nq:=O<|pE (base:=n0) (e:=43) (size:=46) w5 tv 1 j6.out OD (by rw[TS.out]);obtain⟨gt,hgt⟩:=En w5.heap.size;rw[<-hgt] at Nq⊢;clear hgt;replace FZ:=O<|RS.out.G FZ.out b6 j6.out;replace Fa:=O<|Fa.out.G b6;replace jI:=O<|jI.out.G b6;obtain⟨A,c,Jy,kl,own,tl1,tl2⟩:=(TL5.out.G b6).ex;have KL:=O kl;have OWN:=O own;have TVS:=O<|Jm tl1 tl2;replace Fb:=O<|Fb.out.trans (b6.mono j6.out);replace j6:=O<|EA j6.out b6.size;clear b6 kl own tl1 tl2 TL5;generalize w5.alloc (EJ tv 43)=w6 at*;go_wp2_with fail;refine(EiM gl n0 n0 A i c (gV Jy) (EI (D ⟨gt,0,Z⟩) 1 1) 1 tv.toList w6 KL.out OWN.out Nq.out (fun y hy=>by have:=TO.out;rw[Array.all_eq_true_iff_forall_mem] at this;exact this y (by simpa using hy)) X j6.out).mono ?_;rintro e w9 ⟨rfl,A9,c9,w7,rfl,k7,EIg,gr⟩;have on:=J6 (g:=gl) (W:=w7) 0 (EI A9 (i+1) c9);have EkN:=O l_.out;have b7:=My OWN.out gr j6.out;have kp: ∀k cs T,T≠43->T≠91->H w6 k cs T->H (w7.setCell ⟨gl,0,Z⟩ (EI A9 (i+1) c9)) k cs T:=fun k cs T h1 h2 hk=>on.Ek (rO OWN.out gr hk h1) (E5 (rO OWN.out gr hk h1) k7 h2);have b8:Io n0 w6 (w7.setCell ⟨gl,0,Z⟩ (EI A9 (i+1) c9)):=b7.trans (on.bel n0 l_.out (EA j6.out b7.size));have SS9:=O<|RS.out.keep _ _ FZ.out (fun k cs T hT hk=>kp k cs T (by rintro rfl;revert hT;decide) (by rintro rfl;revert hT;decide) hk) b8;have yt:=O<|kp _ _ _ Eb Eb Fa.out;have EE9:=O<|jI.out.keep fun S hS k cs hk=>kp k cs S ox ox hk;have Nr:=O<|Fb.out.trans b8;have Ns:=O<|EA j6.out b8.size
   have Fc:Ea (mc n0 gl (i+1) Y5 (w7.setCell ⟨gl,0,Z⟩ (EI A9 (i+1) c9))):=O ⟨A9,c9,Jy++[tv],k7.set 0 _,by rw[Ei1];exact ER EIg fun _ _ hk=>on.Ek hk (E5 hk k7 Eb),by rw[I2,TVS.out.1];rfl,fun t ht=>by
    rcases XP.1 ht with ht|ht;·exact TVS.out.2 t ht
    ·rw[ft.1 ht];exact⟨TG.out,TS.out⟩⟩
   clear on b7 b8 kp k7 EIg gr FZ Fa jI Fb j6 KL OWN Nq;generalize w7.setCell ⟨gl,0,Z⟩ (EI A9 (i+1) c9)=w8 at*;go_wp2_with fail;exact⟨⟨i+1,X,Eh,SS9.out,yt.out,EE9.out,Fc.out,Nr.out,Ns.out⟩,Jv⟩
  ·have t1:decide ((i:Int)<(n:Int))=B:=IJ X;obtain rfl:i=n:=X;go_wp2_with fail;refine aQ EM Ed 6 Ed Eh Eb (FJ gl gm n0 i code Y5 (PS code)) (Ei2 _ _ _ _ _ _ _) ?_ ?_
   ·simp only[X6,Ir,Im,EL,In,Ip,Ig,Ih,and_true];refine⟨?_,?_,?_,?_,?_,?_⟩;all_goals intro v w' hb hd
    ·exact Elz
    ·have d0:v 0=Y (D ⟨gl,0,Z⟩):=hd.at 0 rfl;obtain⟨A,c,Jy,k,o,r⟩:=(TL.out.G hb).ex;have hc:w'.cell? ⟨gl,0,Z⟩=D (EI A i c):=(k.cell 0).trans U;exact IU EM (Ei U) (by simp[go_sem,d0,hc]) ⟨A,c,Jy,U,o,r⟩
    ·exact Elz
    ·have d2:v 2=Y (D ⟨gm,0,Z⟩):=hd.at 2 rfl;refine Ot (f:=13) (args:= #[v 2]) (Ei U) Ez ?_;rw[d2];exact(RS.out.site w' (RS.out.G SS.out hb LN.out)).mono fun e w'' ⟨sv,he,h1,h2,h3,hb'⟩=>⟨_,he,hb',sv,U,h1,h2,h3⟩
    ·exact Elz
    ·have d4:v 4=Y (D ⟨gm,0,Z⟩):=hd.at 4 rfl;refine Ot (f:=29) (args:= #[v 4]) (Ei U) Ez ?_;rw[d4];exact(EiY gm _ w' (RS.out.code w' (RS.out.G SS.out hb LN.out))).mono fun e w'' ⟨he,hb'⟩=>⟨_,he,hb',U⟩
   ·intro v w9 hb hr;obtain⟨A,c,Jy,d1,own,tl⟩: ∃(A:Option Eu) (c:Nat) (Jy:List (Array V)),v 1=EI A i c/\w9.ownsRow n0 43 46 (EI A i c) i (gV Jy)/\Jy.length=i/\ ∀tv∈Jy,Y5 tv/\tv.size=46:=hr 1 X;obtain⟨sv,d3,sz,so,ps⟩: ∃sv:Array V,v 3=EZ sv/\sv.size=31/\sv.all (·.oneCell')=u/\PS code sv:=hr 3 X;have d5:v 5=E I code:=hr 5 X;simp only[Ir,Im,IL,IG,EL,In,Ip,Ig,Ih];rw[d1,d3,d5];have yt:=O<|KS.out.G hb;have Nr:=O<|BB.out.trans (hb.mono LN.out);have OWN:=O own;have Fc:=O tl;have SZ:=O sz;have SO:=O so;have PP:=O ps;have Ns:=O<|EA LN.out hb.size;clear own tl sz so ps hr hb d1 d3 d5 SS KS EE TL BB;go_wp2_with (with_reducible refine wS (cs:=sv) fB yt ?_ (ho:=ZS.out) (hn:=SZ.out) (h1:=SO.out));have on:=On (g:=gs) (W:=w9) sv;refine ET (v:=Et #[EI A i c,EZ sv,E I code]) (EiW fB U _ _ gs sv _ _ U U U (yt.out.setRow sv) SZ.out) U ?_;exact⟨⟨A,c,Jy,sv,code,U,ER OWN.out fun _ _ hk=>on.Ek hk (E5 hk yt.out Eb),Fc.out.1,Fc.out.2,SZ.out,PP.out⟩,Nr.out.trans (on.bel n0 Nn.out Ns.out)⟩
def Nt(p:Nat->Int)(kl:Nat->Nat)(code:Int)(sv:Array V):Prop:=
 (XX p kl≠0/\code=XX p kl/\sv=X2)\/(XX p kl=0/\code=0/\ ∃(c:EB) (A:Option Eu) (n d:Nat),sv=(mO c (EI A n d)).toArray/\p 55<=c.tok.e/\0<=c.tok.h/\c.tok.h<=4)
theorem Ei6(p:Nat->Int)(kl:Nat->Nat)(n0 gm:Nat)(hc:XX p kl≠0):FI n0 gm (XX p kl) (fun W=>n0<=W.heap.size/\H W gm #[Y Z,E I (XX p kl),Y Z,Y Z,Y Z] 84) (fun tv=>XX p kl≠0->tv=rp) (Nt p kl (XX p kl)):=by
 refine⟨fun W W' h hb hl=>⟨EA h.1 hl.size,hb _ _ _ Eb h.2⟩,fun W e A d h _ _ _=> ?_,fun W h=> ?_,fun W h=>(H.cell h.2 1).trans U⟩;·refine(Eiu gm _ _ _ _ _ W h.2).mono ?_;rintro en w' ⟨rfl,hb⟩;exact⟨_,U,iV aK _ _ _ U U,EEW,fun _=>rfl,⟨EA h.1 hb.size,h.2.G hb⟩,JN.Ew hb h.1⟩
 ·refine(Eiw gm _ _ _ _ W h.2).mono ?_;rintro en w' ⟨rfl,hb⟩;exact⟨_,U,D8,Ni,.inl ⟨hc,U,U⟩,hb⟩
theorem Ei7(g:Nat->V)(p:Nat->Int)(kl:Nat->Nat)(b0:Nat)(A0:Option Eu)(n c0:Nat)(es:gT)(w:M)(hch:XX p kl≠0)(hv:yh g p kl)(hk:yi w g kl)(hR:JP w)(hC:ZI w)(h2:2<=w.heap.size)(hn:n<=60)(hE:Xq b0 w A0 n c0 es): Ef EU 14 #[EZ (EK 56 g),EI A0 n c0] w fun e w'=>(∃A c Jy sv code,e=Eg (Et #[EI A n c,EZ sv,E I code])/\w'.ownsRow w.heap.size 43 46 (EI A n c) n (gV Jy)/\Jy.length=n/\(∀tv∈Jy,(XX p kl≠0->tv=rp)/\tv.size=46)/\sv.size=31/\Nt p kl code sv)/\Io w.heap.size w w':=by
 refine Ei3 (EK 56 g) (fun tv=>XX p kl≠0->tv=rp) (Nt p kl) b0 A0 n c0 es w Eh hn hE fun W hb=> ?_;have hkW:yi W g kl:=fun i h1 h2=>by obtain⟨A,cap,ys,e1,e2,e3⟩:=hk i h1 h2;exact⟨A,cap,ys,e1,e2,Iy e3 hb⟩
 refine(EET g p kl W hv hkW (hR.G hb) (hC.G hb) (EA h2 hb.size)).mono ?_;rintro e w' ⟨hm,hb2⟩;refine⟨?_,hb2⟩;rcases hm with⟨h1,gm,rfl,hl,K⟩|⟨h1,g2,a,rfl,Y8,-⟩;·exact⟨gm,_,_,U,Ei6 p kl _ gm h1,EA hb.size hb2.size,K⟩
 ·exact absurd h1 hch
theorem Ei8(x0 x1 x2 x3 x4 x5 x6 x7 x8 x9 nE qz y0 y1 y2 y3 y4 y5 y6 y7 y8 y9 Nu Nv:Int)(W:M): ∃r:Bool,(binOp .eql 38 (EZ #[E I x0,E I x1,E I x2,E I x3,E I x4,E I x5,E I x6,E I x7,E I x8,E I x9,E I nE,E I qz]) (EZ #[E I y0,E I y1,E I y2,E I y3,E I y4,E I y5,E I y6,E I y7,E I y8,E I y9,E I Nu,E I Nv])).run EU W= .ok (Ec r) W/\((x0=y0/\x1=y1/\x2=y2/\x3=y3/\x4=y4/\x5=y5/\x6=y6/\x7=y7/\x8=y8/\x9=y9/\nE=Nu/\qz=Nv)->r=u):=by
 have h2:(Op.equalIn (9999) 25 (EZ #[E I x2,E I x3,E I x4,E I x5]) (EZ #[E I y2,E I y3,E I y4,E I y5])).run EU W= .ok (decide (x2=y2/\x3=y3/\x4=y4/\x5=y5)) W:=Rz _ _ _ _ _ _ _ _ _ W;by_cases e0:x0=y0
 ·by_cases e1:x1=y1
  ·by_cases e2:x2=y2/\x3=y3/\x4=y4/\x5=y5
   ·by_cases e6:x6=y6
    ·by_cases e7:x7=y7
     ·by_cases e8:x8=y8
      ·by_cases e9:x9=y9
       ·by_cases e10:nE=Nu
        ·by_cases e11:qz=Nv;·refine⟨u,?_,fun _=>rfl⟩;rw[Ib e2] at h2;simp[go_sem,e0,e1,h2,e6,e7,e8,e9,e10,e11]
         ·refine⟨B,?_,fun h=>absurd (h.2.2.2.2.2.2.2.2.2.2.2) e11⟩;rw[Ib e2] at h2;simp[go_sem,e0,e1,h2,e6,e7,e8,e9,e10,e11]
        ·refine⟨B,?_,fun h=>absurd (h.2.2.2.2.2.2.2.2.2.2.1) e10⟩;rw[Ib e2] at h2;simp[go_sem,e0,e1,h2,e6,e7,e8,e9,e10]
       ·refine⟨B,?_,fun h=>absurd (h.2.2.2.2.2.2.2.2.2.1) e9⟩;rw[Ib e2] at h2;simp[go_sem,e0,e1,h2,e6,e7,e8,e9]
      ·refine⟨B,?_,fun h=>absurd (h.2.2.2.2.2.2.2.2.1) e8⟩;rw[Ib e2] at h2;simp[go_sem,e0,e1,h2,e6,e7,e8]
     ·refine⟨B,?_,fun h=>absurd (h.2.2.2.2.2.2.2.1) e7⟩;rw[Ib e2] at h2;simp[go_sem,e0,e1,h2,e6,e7]
    ·refine⟨B,?_,fun h=>absurd (h.2.2.2.2.2.2.1) e6⟩;rw[Ib e2] at h2;simp[go_sem,e0,e1,h2,e6]
   ·refine⟨B,?_,fun h=>absurd (⟨h.2.2.1,h.2.2.2.1,h.2.2.2.2.1,h.2.2.2.2.2.1⟩) e2⟩;rw[IJ e2] at h2;simp[go_sem,e0,e1,h2]
  ·refine⟨B,?_,fun h=>absurd (h.2.1) e1⟩;simp[go_sem,e0,e1]
 ·refine⟨B,?_,fun h=>absurd (h.1) e0⟩;simp[go_sem,e0]
section
variable{P:Program}{ops:Array Oper}{Q:Exit->Act->World->Prop}{w:World}{rest:List Oper}
theorem Ei9{r:Bool}(ho:o.op= .binOp .eql T x y Y3)(hm:P.eqGuardType P.depth T=B)(hq:(binOp .eql T (EZ xs) (EZ ys)).run P w= .ok (Ec r) w)(ev:UH->V)(h1:ev x=EZ xs)(h2:ev y=EZ ys):(Iw ev o).run P w= .ok (.value (Ec r)) w:=by unfold Iw;simp only[ho,h1,h2,Ud,run_eqGuard_agg _ _ _ _ _ _ _ hm,Uf,hq,UU]
end
section
variable{P:Program}{a:Act}{o:Oper}{C:World->Prop}{K:Act->Prop}
theorem Ei_{r:Bool}(ho:o.op= .binOp .eql T x y Y3)(hm:P.eqGuardType P.depth T=B)(hq: ∀W,(binOp .eql T (EZ xs) (EZ ys)).run P W= .ok (Ec r) W)(h1:a.eval x=EZ xs)(h2:a.eval y=EZ ys)(hk:K (a.put o.dst (Ec r))):o.quiet P a C K:=by refine⟨_,fun w hw=> ?_,hk⟩;have:=Ei9 (w:=w) ho hm (hq w) a.eval h1 h2;unfold Oper.quietAt;rw[this];first|exact⟨rfl,rfl⟩|rfl
end
theorem EjE{l:List Int}(hl:l.length=12)(W:M):(binOp .eql 38 (EZ (l.map (E .i64)).toArray) (EZ (l.map (E .i64)).toArray)).run EU W= .ok (Ec u) W:=by
 match l,hl with
 |[x0,x1,x2,x3,x4,x5,x6,x7,x8,x9,nE,qz],_=> obtain⟨r,h1,h2⟩:=Ei8 x0 x1 x2 x3 x4 x5 x6 x7 x8 x9 nE qz x0 x1 x2 x3 x4 x5 x6 x7 x8 x9 nE qz W;rw[h2 ⟨U,U,U,U,U,U,U,U,U,U,U,U⟩] at h1;exact h1
theorem EjI(W:M):(binOp .eql 38 (EZ aK.toArray) (EZ aK.toArray)).run EU W= .ok (Ec u) W:=EjE (l:=[4,1,0,0,0,0,2,4,0,2,4,0]) U W
def mf:JZ:=⟨3,0,[],B,0,0,0,0,B,B⟩
theorem EjJ:Tryz.prog.built 28 []=D oq:=Ed
theorem EIh:Tryz.prog.built 48 [(0,E I 3)]=D (mf.cells Z 0).toArray:=Ed
theorem EjO{a:E6}{K:E6->Prop}{g:Nat}{cs:List V}(hT:IW P T n)(x:UH)(ho:o.op= .load T x)(hx:a.eval x=Y (D ⟨g,off,Z⟩))(hg:Ea (W.rangeAt g off cs))(hn:cs.length=n) (hk:K (a.put o.dst (EZ cs.toArray))):o.quiet P a (fun w'=> ∃x,w'=Ey W x) K:=by
 obtain⟨⟨d,hu,hd⟩,hi⟩:=hT;refine⟨_,fun w hw=> ?_,hk⟩;obtain⟨y,rfl⟩:=hw;have hr:(Ey W y).rangeAt g off cs:=fun j v hj=>by have h:=hg.out j v hj;rw[(ED y).cell (XA _ _ h)];exact h
 have hrun:=run_loadVar_mid (Ey W y) g off T cs d hr hu oS fM;unfold Oper.quietAt Iw;exact Eoh
theorem EjU(Jy:List (Array V)): ∀(i j:Nat),(∀tv∈Jy,tv.size=46)->j<46-> ∀tv,Jy[i]?=D tv->(gV Jy)[i*46+j]?=tv[j]?:=by
 induction Jy with
 |nil=>intro i j _ _ x h;simp at h
 |cons y t ih=>
  intro i j hs hj x h;have hy:y.toList.length=46:=by rw[Array.length_toList];exact hs y (hO ..)
  rw[gV,kj];match i,h with
  |0,h=> simp only[kx,nk] at h;subst h;rw[bM (by rw[hy];omega),Nat.zero_mul,JV,Array.getElem?_toList]
  |i+1,h=> rw[ak (by rw[hy];omega),hy,show(i+1)*46+j-46=i*46+j from X];exact ih i j (fun tv ht=>hs tv (ai _ ht)) hj x Un
theorem EjX{c:Nat}{Jy:List (Array V)}(h:w.ownsRow b 43 46 (EI A n c) n (gV Jy))(hl:Jy.length=n)(hs: ∀tv∈Jy,tv.size=46)(hi:i<n): ∃g tv,A=D ⟨g,0,Z⟩/\tv∈Jy/\ ∀j,j<46->w.cell? ⟨g,i*46+j,Z⟩=tv[j]?:=by
 obtain⟨tv,hx⟩: ∃tv,Jy[i]?=D tv:=⟨_,Ok X⟩;rcases h.2 with⟨-,h0⟩|⟨g,cap,cur,hv,-,hh,hc,hrest⟩;·omega
 ·injection hv with e1 e2 e3;subst e1 e3;exact⟨g,tv,U,dw hx,fun j hj=>by rw[h.cellAt (i*46+j) X,EjU Jy i j hs hj tv hx]⟩
theorem EjZ(w:M)(hR:JP w)(hC:ZI w)(h2:2<=w.heap.size): Ef EU 8 #[] w fun e w'=>e=Eg (Ec u)/\Io w.heap.size w w':=by
 have D_:=O (show∃ie z,Tryz.prog.info? 48=D ie/\ie.zero=D z/\ie.size=10 from EII);obtain⟨ev,hev⟩:=En ((mf.cells Z 0).toArray);obtain⟨pz,hpz⟩:=En oq;have BP:=O EjJ;have BE:=O EIh;rw[<-hev] at BE;rw[<-hpz] at BP;have ES:Ea (ev.size=10):=O (by rw[hev];rfl);have b1:=Ep w (EJ ev 48)
 have hE:Xq 0 (w.alloc (EJ ev 48)) (D ⟨w.heap.size,0,Z⟩) 1 1 [(mf,Z,0)]:=⟨by
  have:=pE (base:=0) (e:=48) (size:=10) w ev 1 (bY _) OD (by rw[ES.out]);rw[hev] at this⊢;exact this,U,fun x hx=>by
  rw[ft.1 hx];exact⟨⟨oy,oy,oy,oy⟩,by simp[mf],X9 _ _⟩⟩
 have RA:=O<|Ei7 (fun i=>if 5<=i/\i<=8 then .slice Z 0 0 else E I 0) (fun _=>0) (fun _=>0) 0 _ 1 1 _ _ Eb ⟨fun i h1 h2=>⟨if_neg X,nP⟩,fun i h1 h2=>⟨Z,0,if_pos ⟨h1,h2⟩⟩,.inl Eb⟩ (fun i h1 h2=>⟨Z,0,[],if_pos ⟨h1,h2⟩,U,oF _ _⟩) (hR.G b1) (hC.G b1) (EA h2 b1.size) X hE;have BB:=O b1;rw[show EK 56 (fun i=>if 5<=i/\i<=8 then EI Z 0 0 else E I 0)=pz by rw[hpz];rfl] at RA;have CH:XX (fun _=>0) (fun _=>0)=40:=Eb;clear hE hR hC h2 b1 hpz hev;go_enter Tryz.func8,Tryz.ntmps8;go_wp2_with (first|((with_reducible refine Is 5 ?_);refine I3 rfl 28 _ rfl pz BP.out ?_)|((with_reducible refine Is 6 ?_);refine I3 rfl 48 _ rfl ev BE.out ?_)|((with_reducible refine Is 7 ?_);(refine Nk rfl 29 48 _ 10 ev rfl rfl ES.out Tryz.underlying29 D_.out X X ?_)));refine RA.out.mono ?_;rintro e w3 ⟨⟨A,c,Jy,sv,code,rfl,own,tl,Nw,sz,ps⟩,b3⟩
 obtain⟨rfl,rfl⟩:code=40/\sv=X2:=by
  rcases ps with⟨_,h1,h2⟩|⟨h1,_⟩;·exact⟨by rw[h1,CH],h2⟩
  ·rw[CH] at h1;cases h1
 obtain⟨g,tv,rfl,hm,hc⟩:=EjX own tl (fun tv h=>(Nw tv h).2) (i:=0) X;obtain rfl:=(Nw tv hm).1 (by rw[CH];decide)
 have RA0:Ea (w3.rangeAt g 0 aK):=O (by
  intro j v hj
  have hjl:j<12:=by
   rcases JG j 12 with h|h;·exact h
   ·rw[aM (by simp[aK];omega)] at hj;cases hj
  have h2:=hc j X;rw[Nat.zero_mul] at h2;rw[h2,rp,Jb,Og,bM (by simp[aK];omega)];exact hj)
 have B3:=EW BB b3;clear own tl Nw sz ps hm hc b3 RA CH D_ BB BP BE;obtain⟨zs,hzs⟩:=En X2;have ZS:Ea (zs.size=31):=O FU;have ZO:Ea (zs.all (·.oneCell')=u):=O (by rw[hzs];exact Ni);have ZT:Ea (Od EU 54 zs):=O Nx;rw[<-hzs];clear hzs;have KS:=O<|H.new w3 zs 54;go_wp2_with (with_reducible first|refine wA ZT.out ?_|refine wS (cs:=zs) fB KS (Ev.mk ?_) (ho:=ZS.out) (hn:=ZS.out) (h1:=ZO.out));apply Eo;have B4:=O<|E3 (g:=w3.heap.size) (Ep w3 (EJ zs 54)) (E7 _) zs;have RA4:Ea (((w3.alloc (EJ zs 54)).setRow w3.heap.size zs).rangeAt g 0 aK):=O fun j v hj=>by have h:=RA0.out j v hj;rw[B4.out.cell (XA _ _ h)];exact h
 have B5:=EW B3 B4.out;clear RA0 B3 B4 KS;generalize (w3.alloc (EJ zs 54)).setRow w3.heap.size zs=w4 at*;have FL:Ea (aK.length=12):=O U;have FA:=O<|fun W=>EEV W;have FQ:=O EjI;obtain⟨fx,hfx⟩:=En aK;rw[<-hfx] at RA4 FL FA FQ;clear hfx;go_wp2_with fail;refine Xs Ed Ed ?_
 repeat (first
  |go_big_quiet_skip
  |(go_big_quiet_want
    first
     |(refine EjO (T:=38) (g:=g) (off:=0) xW _ rfl rfl RA4 ?_ ?_;(·exact FL.out);go_simp;go_big_quiet_on)
     |(refine Ei_ rfl Ed FQ.out rfl rfl ?_;go_simp;go_big_quiet_on)
     |(go_big_quiet_op
       first
        |go_big_quiet_on
        |go_big_quiet_call (with_reducible refine ag (FA.out _)))))
 refine IM ?_;intro _ hw';obtain⟨y9,rfl⟩:=hw';have Em:=ED y9;generalize Ey w4 y9=w5 at*;go_wp2_with fail;go_ret;exact⟨U,bt B5.out Em⟩
theorem EIk(l:List Rec)(i:Nat)(x:Rec)(h:l[i]?=D x)(j:Nat)(hj:j<6):(Uh l)[i*6+j]?=x.v[j]?:=by
 induction l generalizing i with
 |nil=>simp at h
 |cons y r ih=>
  cases i with
  |zero=> obtain rfl:y=x:=Un;rw[Uh,kj,Nat.zero_mul,JV,bM Bf]
  |succ i=> rw[Uh,kj,ak Bf];rw[show(i+1)*6+j-y.v.length=i*6+j from Bf];exact ih i Un
theorem Eja{base c:Nat}{l:List Rec}{x:Rec}(h:W.ownsRow base 58 6 (EI A n c) n (Uh l))(hx:l[i]?=D x): ∃g,A=D ⟨g,0,Z⟩/\n<=c/\c<=9223372036854775807/\W.cell? ⟨g,i*6,Z⟩=D (E I x.k)/\W.cell? ⟨g,i*6+1,Z⟩=D (E I x.s)/\W.cell? ⟨g,i*6+2,Z⟩=D (E I x.q):=by
 have hi:=(UG.1 hx).1;have h0:=h;rcases h.2 with⟨hv,h1⟩|⟨g,cap',cur,hv,hg,hh,hl,hm,hs,ht⟩;·have:=h.1;rw[ui,h1] at this;omega
 ·injection hv with h1 h2 h3;subst h1;subst h3;have e:=fun j hj=>EIk l i x hx j hj;have cl: ∀j Y3,(Uh l)[j]?=D Y3->W.cell? ⟨g,j,Z⟩=D Y3:=fun j Y3 hu=>by have:=h0.cells (g:=g) U j Y3 hu;rwa [show(⟨g,0,Z⟩:Eu).add j=⟨g,j,Z⟩ from XB] at this
  exact⟨g,U,hl,by unfold maxLen at hm;exact hm,cl (i*6) _ ((e 0 X).trans U),cl (i*6+1) _ ((e 1 X).trans U),cl (i*6+2) _ ((e 2 X).trans U)⟩
theorem Ejb{α:Type}(p:α->Bool)(l:List α)(i:Nat)(x:α)(h:l[i]?=D x):(l.take (i+1)).any p=((l.take i).any p||p x):=by rw[nm,h];simp
theorem EIl(h:ZI w):2<=w.heap.size:=XA _ _ (h 0 X)
theorem uz.G{f:Nat->V}(h:uz w f)(hb:Io w.heap.size w w'):uz w' f:=
 ⟨h.int,fun i h1 h2=>by obtain⟨A,xs,cap,e,l1,l2,r,x⟩:=h.key i h1 h2;exact⟨A,xs,cap,e,l1,l2,Iy r hb,x⟩⟩
theorem qY.G(h:qY w v)(hb:Io w.heap.size w w'):qY w' v:=by obtain⟨A,l,c,rfl,h⟩:=h;refine⟨A,l,c,U,h.imp id fun⟨b,off,e,h⟩=>⟨b,off,e,fun i hi=> ?_⟩⟩;obtain⟨e,a,d,h1,h2⟩:=h i hi;refine⟨e,a,d,h1.G hb,fun j hj=> ?_⟩;have h3:=h2 j hj;obtain⟨v,hv⟩: ∃v,(e.cells a d)[j]?=D v:=⟨_,Ok (by rw[JZ.ry];exact hj)⟩;rw[hv] at h3⊢;rw[hb.cell (XA _ _ h3)];exact h3
theorem Xq.EIm{b0:Nat}{c:Nat}{es:gT}(h:Xq b0 W A n c es)(m:JN lo W.heap.size W W'):Xq b0 W' A n c es:=
 h.keep fun S hS k cs hk=>m.Ek k cs S hk.lt ox ox hk
def bH(b:Nat)(c:EB)(sv:Array V)(W:M):Prop:= ∃(A:Option Eu) (d:Nat),sv=(mO c (EI A c.q.length d)).toArray/\W.ownsRow b 3 1 (EI A c.q.length d) c.q.length (Zc ((Ju c.q).map One.s))
theorem bH.keep(h:bH b c sv W)(hb: ∀k cs,H W k cs 3->H W' k cs 3):bH b c sv W':=by obtain⟨A,d,e,o⟩:=h;exact⟨A,d,e,ER o hb⟩
theorem bH.G(h:bH b c sv W)(hb:Io W.heap.size W W'):bH b c sv W':=h.keep fun _ _ hk=>hk.G hb
theorem bH.lower{b':Nat}(h:bH b c sv W)(hb:b'<=b):bH b' c sv W:=by obtain⟨A,d,e,o⟩:=h;exact⟨A,d,e,oJ o hb⟩
theorem bH.size(h:bH b c sv W):sv.size=31:=by obtain⟨A,d,e,o⟩:=h;rw[e];exact EEY _ _
theorem bH.one(h:bH b c sv W):sv.all (·.oneCell')=u:=by obtain⟨A,d,e,o⟩:=h;rw[e];exact EE0 _ _ _ _
theorem EIn(lo:Nat)(g:Nat->V)(a:XU)(c:EB)(rs:Int->List Int)(w:M)(Y8:Jh lo g a c rs w): Ef EU 13 #[Y (D ⟨a.gm,0,Z⟩)] w fun e w'=>(∃sv,e=Eg (EZ sv)/\bH w.heap.size c sv w')/\Io w.heap.size w w':=
 (Eiv lo g a c rs w Y8).mono fun _ _ ⟨⟨A,d,he,ho⟩,hb⟩=>⟨⟨_,he,A,d,U,ho⟩,hb⟩
end Go.Proofs.YtclmichaaiohjaaGreatDoor
