import Derived.Test.YtclmichaaiohjaaGreatDoorP07
set_option maxRecDepth 100000
set_option linter.unusedVariables false
set_option linter.unusedSimpArgs false
set_option maxHeartbeats 6400000
namespace Go.Proofs.YtclmichaaiohjaaGreatDoor
open RowKit
open _root_.Array renaming getElem?_eq_some_iff->Ja
open Bool renaming true->G,false->Y
open Go renaming World->H,Calls->Ef,TypeId->Ez,Value->M,bodyPost_ret->EQ,Oper->EK,below_setRow->E2,rounds_succ->Ib
open Act renaming put->Ic
open Ending renaming returned->Eg
open IntKind renaming i64->I
open Lib renaming hid->J
open Obj renaming cells->EI
open Go.Proofs.Tryz renaming prog->EJ
open Region renaming wanted->IQ
open RowKit renaming Hid->Ea
open RowKit.Below renaming refl->E6
open Value renaming bool->Eb,int->E,agg->EU,tuple->Es,pointer->V
open List renaming take_succ_cons->Il,take_zero->Ij,setIfInBounds_toArray->Ig,length_append->IL,set_cons_succ->IJ,set_cons_zero->IU,drop_succ_cons->Iz,drop_zero->Ix
open Nat renaming le_trans->Ey,le_refl->E5
open Option renaming some->X,none->Z
open KQ
variable{W W' w w0 w':H}{lo gq id gr hi gc gt gs ns b n0:Nat}{g:Nat->M}{L L':List One}{most s r a m:Int}{c0 tv:Array M}{T:EM}{t t2:EL}{Ph:Nat->H->Prop}{l:List EK}{a0:Act}{tags:List Bool}{c:EA}{rs:List Rec}{p:Pt}{v:M}
theorem JZ.only{g:Nat}(h:JZ W lo gq L most)(ho:EG g W W'){T:Ez}(K:D W g c0 T)(h1:T≠171)(h2:T≠152):JZ W' lo gq L most:=by obtain⟨v,came,k2,r2,r3⟩:=h;exact⟨v,came,ho.Em k2 (E7 k2 K (Ne.symm h2)),r2,EW r3 fun _ _ hk=>ho.Em hk (E7 hk K (Ne.symm h1))⟩
theorem Is.l_{g:Nat}(h:Is lo w W)(ho:EG g W W')(hg:w.heap.size<=g)(lw:lo<=w.heap.size):Is lo w W':=by
 refine⟨h.bel.trans (ho.bel lo U (Ey lw h.bel.size)),fun k hk hn=> ?_,fun k c S hb=> ?_⟩;·exact(ho.keep k U (Nat.lt_of_lt_of_le hk h.bel.size)).trans (h.keep k hk hn)
 ·obtain⟨c',hb'⟩:=h.stay k c S hb;exact⟨c',ho.Em hb' xj⟩
def EL.js(t:EL)(a m:Int):EL:={t with la:=a,lm:=m}
def mE(t:EL)(t':EL)(how:Int):Prop:=
 (how=0/\ ∃a m,0<=a/\a<=1000/\0<=m/\m<=1000/\t'=t.js a m)\/
 (how=6/\t.h≠4/\65535<=t.e/\t'=t.ZK)\/
 (how=5/\t.h≠4/\t.e<65535/\ ∃s,0<=s/\s<5/\s≠t.h/\t'=t.pass s (t.e+1))
theorem Du{t':EL}(h:t.Ow s=(t',0)):0<=s/\s<5/\s≠t.h/\t.e<65535/\t'=t.pass s (t.e+1):=by
 unfold EL.Ow at h;split at h;·simp at h
 ·split at h;·simp at h
  ·split at h;·simp at h
   ·simp only[Prod.mk.injEq,and_true] at h;exact⟨U,U,by assumption,U,h.symm⟩
theorem EZY:Tryz.prog.built 107 []=X #[E I 0,E I 0]:=Ec
theorem EZ0(lo gq:Nat)(L:List One)(most:Int)(g:Nat->M)(pl:Int)(hpl:g 43=E I pl)(rY:0<=pl/\pl<=1000)(t:EL)(tok:t.ok)(there:Bool)(w:H)(lq:lo<=gq)(Q:JZ w lo gq L most)(hl:L.length<=3): Ef EJ 151 #[EU (EH 56 g),t.a,V (X ⟨gq,0,Z⟩),Eb there] w fun e' w'=>(∃t' how L',e'=Eg (Es #[t'.a,E I how])/\mE t t' how/\O4 L' L/\JZ w' lo gq L' most)/\Is lo w w':=by
 have HQ:=J Q;have HL:=J hl;have LQ:=J lq;have lw:=J (show lo<=w.heap.size from lR);have dj:=J hpl;have XK:=J rY;have fF:=J tok;have CF:=J<|fun(t:EL) W (q:JZ W lo gq L most) he=>QI lo gq L most t W lq q hl he;have CZ:=J<|fun(t:EL) W he=>qO t W he;have CG:=J<|fun(t:EL) s W he=>ny t s W he;clear Q hl lq hpl rY tok;obtain⟨h,e,o,oa,om,la,lm,b⟩:=t;have HLP:Ea (∀t' how,mE ⟨h,e,o,oa,om,la,lm,b⟩ t' how->mE ⟨h,e,o,oa,om,la,lm,b⟩ t' how):=J<|fun _ _ h=>h;obtain⟨P0,Z9⟩:=En (mE ⟨h,e,o,oa,om,la,lm,b⟩:EL->Int->Prop);rw[<-Z9];replace Z9:=J Z9;clear HLP;have QU:=EZY;unfold EL.a Oo;simp only;obtain⟨pv,hpv⟩:=En (EH 56 g);rw[<-hpv];have PC:Ea (pv[43]?=X (E I pl)):=J (by rw[hpv,<-dj.out];simp[EH]);have PS:Ea (pv.size=56):=J (by rw[hpv];simp[EH]);clear hpv;go_enter Tryz.func151,Tryz.ntmps151;go_wp2_with (with_reducible refine I2 13 ?_);refine Ed.in ?_;generalize hW:World.alloc _ _=w1 at*;have KP:Ea (D w1 (w.heap.size) pv 28):=J (by subst hW;repeat (first|exact D.new _ _ _|exact D.new' _ _ _ Ek|refine D.alloc ?_ _));have KT:Ea (D w1 (w.heap.size+1) #[E I h,E I e,E I o,E I oa,E I om,E I la,E I lm,Eb b] 109):=J (by subst hW;repeat (first|exact D.new _ _ _|exact D.new' _ _ _ Ek|refine D.alloc ?_ _));have KR:Ea (D w1 (w.heap.size+1+1) #[E I 0,E I 0,E I 0,E I 0,E I 0,E I 0,E I 0,Eb Y] 109):=J (by subst hW;repeat (first|exact D.new _ _ _|exact D.new' _ _ _ Ek|refine D.alloc ?_ _));have b1:Ea (Eh w w1):=J (by subst hW;(repeat (first|exact E6 _ _|(refine Below.alloc ?_ Io _)|(refine Below.setCell ?_ Io _))));clear hW;obtain⟨gk,Xx⟩:=En (w.heap.size+1);obtain⟨gp,O8⟩:=En w.heap.size;rw[<-Xx] at KT KR⊢;rw[<-O8] at KP;rw[show w.heap.size=gp from O8.symm];have LK:=J (show w.heap.size<=gk from U);clear Xx O8;have Q1:=J<|HQ.out.B b1.out;have MM:=J<|Is.Eu b1.out lw.out;clear b1;have ch:w1.cell? ⟨gk,0,Z⟩=X (E I h):=(D.cell KT.out 0).trans O;by_cases h4:h=4;·have t1:(h==4)=G:=dX;have H4:=J h4;clear h4;have TH:=J<|UR KT.out (o:=5) (n:=2) Ek;go_wp2_with (first|((with_reducible refine In 18 ?_);refine IP rfl 107 _ rfl #[E I 0,E I 0] QU ?_)|(with_reducible refine JI 107 ?_);(with_reducible refine wpList_store_mid O 107 _ _ O gk 5 #[E I 0,E I 0] ?_ ?_ ?_ ?_ ?_ ?_);(·rfl);(·rfl);(·exact TH.out);(·exact bM.2);(·simp[Value.oneCell']);refine Ed.mk ?_);refine Ed.in ?_;have Xy:Ea (D (w1.setCells gk 5 [E I 0,E I 0]) gk #[E I h,E I e,E I o,E I oa,E I om,E I 0,E I 0,Eb b] 109):=J<|Xg (post:=[Eb b]) [E I 0,E I 0] [E I la,E I lm] [E I h,E I e,E I o,E I oa,E I om] 5 w1 KT.out O O;have ON:=J<|JX (g:=gk) [E I 0,E I 0] 5 w1;replace KP:=J<|ON.out.Em KP.out (E7 KP.out KT.out EZ);replace KR:=J<|ON.out.Em KR.out U;replace Q1:=J<|Q1.out.only ON.out KT.out EZ EZ;replace MM:=J<|MM.out.l_ ON.out LK.out lw.out;clear KT TH ON;have KT:=Xy;clear Xy;generalize w1.setCells gk 5 [E I 0,E I 0]=w2 at*;go_wp2_with (first|((with_reducible refine UB 109 ?_);(with_reducible refine XP (g:=gk) EP ?_ ?_ KT ?_ ?_);(·exact Ei rfl);(·exact⟨rfl,rfl⟩);(·exact rfl))|((with_reducible refine JI 109 ?_);(with_reducible refine X7 (g:=gk+1) (cs:= #[E I h,E I e,E I o,E I oa,E I om,E I 0,E I 0,Eb b]) EP ?_ ?_ KR ?_ ?_ ?_ ?_);(·exact Ei rfl);(·exact⟨rfl,rfl,rfl⟩);(·rfl);(·exact rfl);(·exact(bR _ _ _ _ _ _ _ _))));refine EQ (O0 EP O _ _ (gk+1) #[E I h,E I e,E I o,E I oa,E I om,E I 0,E I 0,Eb b] (E I 0) O O (KR.out.setRow _) O) O ?_;refine⟨⟨(⟨h,e,o,oa,om,0,0,b⟩:EL),0,L,O,(by rw[Z9.out];exact .inl ⟨O,0,0,U,U,U,U,O⟩),O4.refl _,?_⟩,MM.out.Um _ Zw lw.out KR.out EZ EZ⟩;exact Ejo
 ·have t1:(h==4)=Y:=dX;cases there with
  |true=> have TH:=J<|UR KT.out (o:=5) (n:=2) Ek;go_wp2_with (first|((with_reducible refine In 18 ?_);refine IP rfl 107 _ rfl #[E I 0,E I 0] QU ?_)|(with_reducible refine JI 107 ?_);(with_reducible refine wpList_store_mid O 107 _ _ O gk 5 #[E I 0,E I 0] ?_ ?_ ?_ ?_ ?_ ?_);(·rfl);(·rfl);(·exact TH.out);(·exact bM.2);(·simp[Value.oneCell']);refine Ed.mk ?_);refine Ed.in ?_;have Xy:Ea (D (w1.setCells gk 5 [E I 0,E I 0]) gk #[E I h,E I e,E I o,E I oa,E I om,E I 0,E I 0,Eb b] 109):=J<|Xg (post:=[Eb b]) [E I 0,E I 0] [E I la,E I lm] [E I h,E I e,E I o,E I oa,E I om] 5 w1 KT.out O O;have ON:=J<|JX (g:=gk) [E I 0,E I 0] 5 w1;replace KP:=J<|ON.out.Em KP.out (E7 KP.out KT.out EZ);replace KR:=J<|ON.out.Em KR.out U;replace Q1:=J<|Q1.out.only ON.out KT.out EZ EZ;replace MM:=J<|MM.out.l_ ON.out LK.out lw.out;clear KT TH ON;have KT:=Xy;clear Xy;generalize w1.setCells gk 5 [E I 0,E I 0]=w2 at*;go_wp2_with (first|((with_reducible refine UB 109 ?_);(with_reducible refine XP (g:=gk) EP ?_ ?_ KT ?_ ?_);(·exact Ei rfl);(·exact⟨rfl,rfl⟩);(·exact rfl))|((with_reducible refine JI 109 ?_);(with_reducible refine X7 (g:=gk+1) (cs:= #[E I h,E I e,E I o,E I oa,E I om,E I 0,E I 0,Eb b]) EP ?_ ?_ KR ?_ ?_ ?_ ?_);(·exact Ei rfl);(·exact⟨rfl,rfl,rfl⟩);(·rfl);(·exact rfl);(·exact(bR _ _ _ _ _ _ _ _))));refine EQ (O0 EP O _ _ (gk+1) #[E I h,E I e,E I o,E I oa,E I om,E I 0,E I 0,Eb b] (E I 0) O O (KR.out.setRow _) O) O ?_;refine⟨⟨(⟨h,e,o,oa,om,0,0,b⟩:EL),0,L,O,(by rw[Z9.out];exact .inl ⟨O,0,0,U,U,U,U,O⟩),O4.refl _,?_⟩,MM.out.Um _ Zw lw.out KR.out EZ EZ⟩;exact Q1.out.Ul _ KR.out EZ EZ
  |false=>
   have clm:w1.cell? ⟨gk,6,Z⟩=X (E I lm):=(D.cell KT.out 6).trans O;by_cases hz:lm=0
   ·subst hz;have cp:w1.cell? ⟨gp,43,Z⟩=X (E I pl):=(D.cell KP.out 43).trans PC.out;go_wp2_with fail;(with_reducible refine(uH pl _).mono ?_);rintro e8 w2 ⟨rfl,b2⟩;replace KT:=EN KT b2;replace KR:=EN KR b2;replace KP:=EN KP b2;replace Q1:=J<|Q1.out.B b2;replace MM:=J<|MM.out.trans (Is.Eu b2 (Ey lw.out MM.out.bel.size));have HM:Ea (0<=max pl 0/\max pl 0<=1000):=J (by have:=XK.out;omega);generalize max pl 0=mp at*;clear b2 cp clm ch;have TH:=J<|UR KT.out (o:=5) (n:=2) Ek;go_wp2_with ((with_reducible refine JI 107 ?_);(with_reducible refine wpList_store_mid O 107 _ _ O gk 5 #[E I 0,E I mp] ?_ ?_ ?_ ?_ ?_ ?_);(·rfl);(·rfl);(·exact TH.out);(·exact bM.2);(·simp[Value.oneCell']);refine Ed.mk ?_);refine Ed.in ?_;have Xy:Ea (D (w2.setCells gk 5 [E I 0,E I mp]) gk #[E I h,E I e,E I o,E I oa,E I om,E I 0,E I mp,Eb b] 109):=J<|Xg (post:=[Eb b]) [E I 0,E I mp] [E I la,E I 0] [E I h,E I e,E I o,E I oa,E I om] 5 w2 KT.out O O;have ON:=J<|JX (g:=gk) [E I 0,E I mp] 5 w2;replace KP:=J<|ON.out.Em KP.out (E7 KP.out KT.out EZ);replace KR:=J<|ON.out.Em KR.out U;replace Q1:=J<|Q1.out.only ON.out KT.out EZ EZ;replace MM:=J<|MM.out.l_ ON.out LK.out lw.out;clear KT TH ON;have KT:=Xy;clear Xy;generalize w2.setCells gk 5 [E I 0,E I mp]=w3 at*;have HB:Ea (0<=0/\0<=1000/\0<=mp/\mp<=1000):=J (by have:=HM.out;omega);go_wp2_with (((with_reducible refine UB 107 ?_);(with_reducible refine iY (g:=gk) (off:=5) (cs:= #[E I 0,E I mp]) bM ?_ ?_ KT ?_ ?_ ?_);(·exact Ei O);(·exact⟨O,O⟩);(·rfl);(·simp)));(with_reducible refine(uK 0 mp _ r_ r_).mono ?_);rintro e8 w4 ⟨rfl,b4⟩;replace KT:=EN KT b4;replace KR:=EN KR b4;replace KP:=EN KP b4;replace Q1:=J<|Q1.out.B b4;replace MM:=J<|MM.out.trans (Is.Eu b4 (Ey lw.out MM.out.bel.size));clear b4;have TH:=J<|UR KT.out (o:=5) (n:=2) Ek;go_wp2_with ((with_reducible refine JI 107 ?_);(with_reducible refine wpList_store_mid O 107 _ _ O gk 5 #[E I (sat 0 mp),E I mp] ?_ ?_ ?_ ?_ ?_ ?_);(·rfl);(·rfl);(·exact TH.out);(·exact bM.2);(·simp[Value.oneCell']);refine Ed.mk ?_);refine Ed.in ?_;have Xy:Ea (D (w4.setCells gk 5 [E I (sat 0 mp),E I mp]) gk #[E I h,E I e,E I o,E I oa,E I om,E I (sat 0 mp),E I mp,Eb b] 109):=J<|Xg (post:=[Eb b]) [E I (sat 0 mp),E I mp] [E I 0,E I mp] [E I h,E I e,E I o,E I oa,E I om] 5 w4 KT.out O O;have ON:=J<|JX (g:=gk) [E I (sat 0 mp),E I mp] 5 w4;replace KP:=J<|ON.out.Em KP.out (E7 KP.out KT.out EZ);replace KR:=J<|ON.out.Em KR.out U;replace Q1:=J<|Q1.out.only ON.out KT.out EZ EZ;replace MM:=J<|MM.out.l_ ON.out LK.out lw.out;clear KT TH ON;have KT:=Xy;clear Xy;generalize w4.setCells gk 5 [E I (sat 0 mp),E I mp]=w5 at*;have HB2:Ea (0<=sat 0 mp/\sat 0 mp<=1000):=J QX;generalize sat 0 mp=a2 at*;go_wp2_with (((with_reducible refine UB 107 ?_);(with_reducible refine iY (g:=gk) (off:=5) (cs:= #[E I a2,E I mp]) bM ?_ ?_ KT ?_ ?_ ?_);(·exact Ei O);(·exact⟨O,O⟩);(·rfl);(·simp)));(with_reducible refine(uL a2 mp _).mono ?_);rintro e8 w6 ⟨rfl,b6⟩;replace KT:=EN KT b6;replace KR:=EN KR b6;replace KP:=EN KP b6;replace Q1:=J<|Q1.out.B b6;replace MM:=J<|MM.out.trans (Is.Eu b6 (Ey lw.out MM.out.bel.size));clear b6;cases fR:decide (mp<=a2) with
    |false=> clear fR;go_wp2_with (first|((with_reducible refine UB 109 ?_);(with_reducible refine XP (g:=gk) EP ?_ ?_ KT ?_ ?_);(·exact Ei rfl);(·exact⟨rfl,rfl⟩);(·exact rfl))|((with_reducible refine JI 109 ?_);(with_reducible refine X7 (g:=gk+1) (cs:= #[E I h,E I e,E I o,E I oa,E I om,E I a2,E I mp,Eb b]) EP ?_ ?_ KR ?_ ?_ ?_ ?_);(·exact Ei rfl);(·exact⟨rfl,rfl,rfl⟩);(·rfl);(·exact rfl);(·exact(bR _ _ _ _ _ _ _ _))));refine EQ (O0 EP O _ _ (gk+1) #[E I h,E I e,E I o,E I oa,E I om,E I a2,E I mp,Eb b] (E I 0) O O (KR.out.setRow _) O) O ?_;refine⟨⟨(⟨h,e,o,oa,om,a2,mp,b⟩:EL),0,L,O,(by rw[Z9.out];have:=HB.out;have:=HB2.out;exact .inl ⟨O,a2,mp,U,U,U,U,O⟩),O4.refl _,?_⟩,MM.out.Um _ Zw lw.out KR.out EZ EZ⟩;exact Q1.out.Ul _ KR.out EZ EZ
    |true=>
     clear fR;have ce:w6.cell? ⟨gk,1,Z⟩=X (E I e):=(D.cell KT.out 1).trans O;by_cases he:65535<=e;·have t3:decide (65535<=e)=G:=Ia he;go_wp2_with (first|((with_reducible refine UB 109 ?_);(with_reducible refine XP (g:=gk) EP ?_ ?_ KT ?_ ?_);(·exact Ei rfl);(·exact⟨rfl,rfl⟩);(·exact rfl)));have Dv:Ef EJ 96 #[EU #[E I h,E I e,E I o,E I oa,E I om,E I a2,E I mp,Eb b]] w6 _:=CZ.out (⟨h,e,o,oa,om,a2,mp,b⟩:EL) w6 (by show _<=e;omega);(with_reducible refine Dv.mono ?_);rintro e8 w7 ⟨rfl,b7⟩;replace KT:=EN KT b7;replace KR:=EN KR b7;replace KP:=EN KP b7;replace Q1:=J<|Q1.out.B b7;replace MM:=J<|MM.out.trans (Is.Eu b7 (Ey lw.out MM.out.bel.size));clear b7 ce;rcases Xw ((⟨h,e,o,oa,om,a2,mp,b⟩:EL).ZK) with⟨rv,Iy,RS,RO⟩;rw[Iy];have RS:=J RS;have RO:=J RO;have OC:=J Iy;clear Iy;go_wp2_with (first|((with_reducible refine JI 109 ?_);(with_reducible refine X7 (g:=gk+1) (cs:=rv) EP ?_ ?_ KR ?_ ?_ ?_ ?_);(·exact Ei rfl);(·exact⟨rfl,rfl,rfl⟩);(·rfl);(·exact RS.out);(·exact RO.out)));refine EQ (O0 EP O _ _ (gk+1) rv (E I 6) O O (KR.out.setRow _) RS.out) O ?_;refine⟨⟨(⟨h,e,o,oa,om,a2,mp,b⟩:EL).ZK,6,L,congrArg (fun v=>Ending.returned (Es #[v,E I 6])) OC.out.symm,QZ,O4.refl _,?_⟩,MM.out.Um _ Zw lw.out KR.out EZ EZ⟩;exact Ejo
     ·have t3:decide (65535<=e)=Y:=E9 he;go_wp2_with (first|((with_reducible refine UB 109 ?_);(with_reducible refine XP (g:=gk) EP ?_ ?_ KT ?_ ?_);(·exact Ei rfl);(·exact⟨rfl,rfl⟩);(·exact rfl)));have Dw:Ef EJ 181 #[EU #[E I h,E I e,E I o,E I oa,E I om,E I a2,E I mp,Eb b],V (X ⟨gq,0,Z⟩)] w6 _:=CF.out (⟨h,e,o,oa,om,a2,mp,b⟩:EL) w6 Q1.out xm;(with_reducible refine Dw.mono ?_);rintro e8 w7 ⟨⟨t3,cd,L',rfl,hf,sq,q7⟩,m7⟩;rcases Xw t3 with⟨rv,Iy,RS,RO⟩;rw[Iy];have RS:=J RS;have RO:=J RO;have OC:=J Iy;have HF:=J hf;have SQ:=J sq;replace Q1:=J q7;replace KT:=J<|m7.Em KT.out EZ EZ;replace KR:=J<|m7.Em KR.out EZ EZ;replace MM:=J<|MM.out.trans m7;clear m7 q7 sq hf Iy ce KP;have sE:=J KR.out.lt;go_wp2_with (with_reducible refine aT 109 ?_);refine Ed.in ?_;generalize hW:World.alloc _ _=wm at*;have KB:Ea (D wm (w7.heap.size) #[E I 0,E I 0,E I 0,E I 0,E I 0,E I 0,E I 0,Eb Y] 109):=J (by subst hW;repeat (first|exact D.new _ _ _|exact D.new' _ _ _ Ek|refine D.alloc ?_ _));have bq:Ea (Eh w7 wm):=J Qa;clear hW;obtain⟨J9,aB⟩:=En w7.heap.size;rw[<-aB] at KB⊢;have Zx:=J (show w7.heap.size<=J9 from U);clear aB;go_wp2_with (((with_reducible refine JI 109 ?_);(with_reducible refine X7 (g:=J9) (cs:=rv) EP ?_ ?_ KB ?_ ?_ ?_ ?_);(·exact Ei O);(·exact⟨O,O,O⟩);(·rfl);(·exact RS.out);(·exact RO.out);refine Ed.mk ?_));refine Ed.in ?_;replace KB:=J<|KB.out.setRow rv;replace bq:=J<|E2 (g:=J9) bq.out Zx.out rv;generalize wm.setRow J9 rv=w8 at*;replace KT:=EN KT bq.out;replace KR:=EN KR bq.out;replace Q1:=J<|Q1.out.B bq.out;replace MM:=J<|MM.out.trans (Is.Eu bq.out (Ey lw.out MM.out.bel.size));clear bq;have oB:=J (show J9≠gk+1 from Qb);have Z_:=J (show w.heap.size<=J9 from Qc);clear Zx sE;by_cases hcd:cd=0
      ·subst hcd
       have fz:Ea (∃s,0<=s/\s<5/\s≠h/\t3=(⟨h,e,o,oa,om,la,0,b⟩:EL).pass s (e+1)):=J (by
        rcases HF.out with⟨a1,-⟩|⟨-,x,-,a2⟩;·exact absurd O a1
        ·obtain⟨g1,g2,g3,-,g5⟩:=Du a2;exact⟨x.s,g1,g2,g3,g5⟩)
       go_wp2_with (first|((with_reducible refine UB 109 ?_);(with_reducible refine XP (g:=J9) EP ?_ ?_ KB ?_ ?_);(·exact Ei rfl);(·exact⟨rfl,rfl⟩);(·exact RS.out))|((with_reducible refine JI 109 ?_);(with_reducible refine X7 (g:=gk+1) (cs:=rv) EP ?_ ?_ KR ?_ ?_ ?_ ?_);(·exact Ei rfl);(·exact⟨rfl,rfl,rfl⟩);(·rfl);(·exact RS.out);(·exact RO.out)));exact Ei7
      ·have t9:(cd !=0)=G:=aC;go_wp2_with (first|((with_reducible refine UB 109 ?_);(with_reducible refine XP (g:=gk) EP ?_ ?_ KT ?_ ?_);(·exact Ei rfl);(·exact⟨rfl,rfl⟩);(·exact rfl)));have Dx:Ef EJ 140 #[EU #[E I h,E I e,E I o,E I oa,E I om,E I a2,E I mp,Eb b],E I 4] w8 _:=CG.out (⟨h,e,o,oa,om,a2,mp,b⟩:EL) 4 w8 xm;(with_reducible refine Dx.mono ?_);rintro e8 w9 ⟨rfl,b9⟩;replace KT:=EN KT b9;replace KR:=EN KR b9;replace KB:=EN KB b9;replace Q1:=J<|Q1.out.B b9;replace MM:=J<|MM.out.trans (Is.Eu b9 (Ey lw.out MM.out.bel.size));clear b9;cases hg:(⟨h,e,o,oa,om,a2,mp,b⟩:EL).Ow 4 with|mk t5 sI=>
       have h50:sI=0/\t5=(⟨h,e,o,oa,om,la,0,b⟩:EL).pass 4 (e+1):=by exact EkR
       rcases Xw t5 with⟨XM,mI,bh,iZ⟩;exact Eh3
   ·have t2:(lm==0)=Y:=by simp[hz]
    have HB:Ea (0<=la/\la<=1000/\0<=lm/\lm<=1000):=J (by have h1:=fF.out.la;have h2:=fF.out.lm;simp only at h1 h2;omega);go_wp2_with (((with_reducible refine UB 107 ?_);(with_reducible refine iY (g:=gk) (off:=5) (cs:= #[E I la,E I lm]) bM ?_ ?_ KT ?_ ?_ ?_);(·exact Ei O);(·exact⟨O,O⟩);(·rfl);(·simp)));(with_reducible refine(uK la lm _ r_ r_).mono ?_);rintro e8 w4 ⟨rfl,b4⟩;replace KT:=EN KT b4;replace KR:=EN KR b4;replace KP:=EN KP b4;replace Q1:=J<|Q1.out.B b4;replace MM:=J<|MM.out.trans (Is.Eu b4 (Ey lw.out MM.out.bel.size));clear b4;have TH:=J<|UR KT.out (o:=5) (n:=2) Ek;go_wp2_with ((with_reducible refine JI 107 ?_);(with_reducible refine wpList_store_mid O 107 _ _ O gk 5 #[E I (sat la lm),E I lm] ?_ ?_ ?_ ?_ ?_ ?_);(·rfl);(·rfl);(·exact TH.out);(·exact bM.2);(·simp[Value.oneCell']);refine Ed.mk ?_);refine Ed.in ?_;have Xy:Ea (D (w4.setCells gk 5 [E I (sat la lm),E I lm]) gk #[E I h,E I e,E I o,E I oa,E I om,E I (sat la lm),E I lm,Eb b] 109):=J<|Xg (post:=[Eb b]) [E I (sat la lm),E I lm] [E I la,E I lm] [E I h,E I e,E I o,E I oa,E I om] 5 w4 KT.out O O;have ON:=J<|JX (g:=gk) [E I (sat la lm),E I lm] 5 w4;replace KP:=J<|ON.out.Em KP.out (E7 KP.out KT.out EZ);replace KR:=J<|ON.out.Em KR.out U;replace Q1:=J<|Q1.out.only ON.out KT.out EZ EZ;replace MM:=J<|MM.out.l_ ON.out LK.out lw.out;clear KT TH ON;have KT:=Xy;clear Xy;generalize w4.setCells gk 5 [E I (sat la lm),E I lm]=w5 at*;have HB2:Ea (0<=sat la lm/\sat la lm<=1000):=J QX;generalize sat la lm=a2 at*;go_wp2_with (((with_reducible refine UB 107 ?_);(with_reducible refine iY (g:=gk) (off:=5) (cs:= #[E I a2,E I lm]) bM ?_ ?_ KT ?_ ?_ ?_);(·exact Ei O);(·exact⟨O,O⟩);(·rfl);(·simp)));(with_reducible refine(uL a2 lm _).mono ?_);rintro e8 w6 ⟨rfl,b6⟩;replace KT:=EN KT b6;replace KR:=EN KR b6;replace KP:=EN KP b6;replace Q1:=J<|Q1.out.B b6;replace MM:=J<|MM.out.trans (Is.Eu b6 (Ey lw.out MM.out.bel.size));clear b6;cases fR:decide (lm<=a2) with
    |false=> clear fR;go_wp2_with (first|((with_reducible refine UB 109 ?_);(with_reducible refine XP (g:=gk) EP ?_ ?_ KT ?_ ?_);(·exact Ei rfl);(·exact⟨rfl,rfl⟩);(·exact rfl))|((with_reducible refine JI 109 ?_);(with_reducible refine X7 (g:=gk+1) (cs:= #[E I h,E I e,E I o,E I oa,E I om,E I a2,E I lm,Eb b]) EP ?_ ?_ KR ?_ ?_ ?_ ?_);(·exact Ei rfl);(·exact⟨rfl,rfl,rfl⟩);(·rfl);(·exact rfl);(·exact(bR _ _ _ _ _ _ _ _))));refine EQ (O0 EP O _ _ (gk+1) #[E I h,E I e,E I o,E I oa,E I om,E I a2,E I lm,Eb b] (E I 0) O O (KR.out.setRow _) O) O ?_;refine⟨⟨(⟨h,e,o,oa,om,a2,lm,b⟩:EL),0,L,O,(by rw[Z9.out];have:=HB.out;have:=HB2.out;exact .inl ⟨O,a2,lm,U,U,U,U,O⟩),O4.refl _,?_⟩,MM.out.Um _ Zw lw.out KR.out EZ EZ⟩;exact Q1.out.Ul _ KR.out EZ EZ
    |true=>
     clear fR;have ce:w6.cell? ⟨gk,1,Z⟩=X (E I e):=(D.cell KT.out 1).trans O;by_cases he:65535<=e;·have t3:decide (65535<=e)=G:=Ia he;go_wp2_with (first|((with_reducible refine UB 109 ?_);(with_reducible refine XP (g:=gk) EP ?_ ?_ KT ?_ ?_);(·exact Ei rfl);(·exact⟨rfl,rfl⟩);(·exact rfl)));have Dv:Ef EJ 96 #[EU #[E I h,E I e,E I o,E I oa,E I om,E I a2,E I lm,Eb b]] w6 _:=CZ.out (⟨h,e,o,oa,om,a2,lm,b⟩:EL) w6 (by show _<=e;omega);(with_reducible refine Dv.mono ?_);rintro e8 w7 ⟨rfl,b7⟩;replace KT:=EN KT b7;replace KR:=EN KR b7;replace KP:=EN KP b7;replace Q1:=J<|Q1.out.B b7;replace MM:=J<|MM.out.trans (Is.Eu b7 (Ey lw.out MM.out.bel.size));clear b7 ce;rcases Xw ((⟨h,e,o,oa,om,a2,lm,b⟩:EL).ZK) with⟨rv,Iy,RS,RO⟩;rw[Iy];have RS:=J RS;have RO:=J RO;have OC:=J Iy;clear Iy;go_wp2_with (first|((with_reducible refine JI 109 ?_);(with_reducible refine X7 (g:=gk+1) (cs:=rv) EP ?_ ?_ KR ?_ ?_ ?_ ?_);(·exact Ei rfl);(·exact⟨rfl,rfl,rfl⟩);(·rfl);(·exact RS.out);(·exact RO.out)));refine EQ (O0 EP O _ _ (gk+1) rv (E I 6) O O (KR.out.setRow _) RS.out) O ?_;refine⟨⟨(⟨h,e,o,oa,om,a2,lm,b⟩:EL).ZK,6,L,congrArg (fun v=>Ending.returned (Es #[v,E I 6])) OC.out.symm,QZ,O4.refl _,?_⟩,MM.out.Um _ Zw lw.out KR.out EZ EZ⟩;exact Ejo
     ·have t3:decide (65535<=e)=Y:=E9 he;go_wp2_with (first|((with_reducible refine UB 109 ?_);(with_reducible refine XP (g:=gk) EP ?_ ?_ KT ?_ ?_);(·exact Ei rfl);(·exact⟨rfl,rfl⟩);(·exact rfl)));have Dw:Ef EJ 181 #[EU #[E I h,E I e,E I o,E I oa,E I om,E I a2,E I lm,Eb b],V (X ⟨gq,0,Z⟩)] w6 _:=CF.out (⟨h,e,o,oa,om,a2,lm,b⟩:EL) w6 Q1.out xm;(with_reducible refine Dw.mono ?_);rintro e8 w7 ⟨⟨t3,cd,L',rfl,hf,sq,q7⟩,m7⟩;rcases Xw t3 with⟨rv,Iy,RS,RO⟩;rw[Iy];have RS:=J RS;have RO:=J RO;have OC:=J Iy;have HF:=J hf;have SQ:=J sq;replace Q1:=J q7;replace KT:=J<|m7.Em KT.out EZ EZ;replace KR:=J<|m7.Em KR.out EZ EZ;replace MM:=J<|MM.out.trans m7;clear m7 q7 sq hf Iy ce KP;have sE:=J KR.out.lt;go_wp2_with (with_reducible refine aT 109 ?_);refine Ed.in ?_;generalize hW:World.alloc _ _=wm at*;have KB:Ea (D wm (w7.heap.size) #[E I 0,E I 0,E I 0,E I 0,E I 0,E I 0,E I 0,Eb Y] 109):=J (by subst hW;repeat (first|exact D.new _ _ _|exact D.new' _ _ _ Ek|refine D.alloc ?_ _));have bq:Ea (Eh w7 wm):=J Qa;clear hW;obtain⟨J9,aB⟩:=En w7.heap.size;rw[<-aB] at KB⊢;have Zx:=J (show w7.heap.size<=J9 from U);clear aB;go_wp2_with (((with_reducible refine JI 109 ?_);(with_reducible refine X7 (g:=J9) (cs:=rv) EP ?_ ?_ KB ?_ ?_ ?_ ?_);(·exact Ei O);(·exact⟨O,O,O⟩);(·rfl);(·exact RS.out);(·exact RO.out);refine Ed.mk ?_));refine Ed.in ?_;replace KB:=J<|KB.out.setRow rv;replace bq:=J<|E2 (g:=J9) bq.out Zx.out rv;generalize wm.setRow J9 rv=w8 at*;replace KT:=EN KT bq.out;replace KR:=EN KR bq.out;replace Q1:=J<|Q1.out.B bq.out;replace MM:=J<|MM.out.trans (Is.Eu bq.out (Ey lw.out MM.out.bel.size));clear bq;have oB:=J (show J9≠gk+1 from Qb);have Z_:=J (show w.heap.size<=J9 from Qc);clear Zx sE;by_cases hcd:cd=0
      ·subst hcd
       have fz:Ea (∃s,0<=s/\s<5/\s≠h/\t3=(⟨h,e,o,oa,om,la,lm,b⟩:EL).pass s (e+1)):=J (by
        rcases HF.out with⟨a1,-⟩|⟨-,x,-,a2⟩;·exact absurd O a1
        ·obtain⟨g1,g2,g3,-,g5⟩:=Du a2;exact⟨x.s,g1,g2,g3,g5⟩)
       go_wp2_with (first|((with_reducible refine UB 109 ?_);(with_reducible refine XP (g:=J9) EP ?_ ?_ KB ?_ ?_);(·exact Ei rfl);(·exact⟨rfl,rfl⟩);(·exact RS.out))|((with_reducible refine JI 109 ?_);(with_reducible refine X7 (g:=gk+1) (cs:=rv) EP ?_ ?_ KR ?_ ?_ ?_ ?_);(·exact Ei rfl);(·exact⟨rfl,rfl,rfl⟩);(·rfl);(·exact RS.out);(·exact RO.out)));exact Ei7
      ·have t9:(cd !=0)=G:=aC;go_wp2_with (first|((with_reducible refine UB 109 ?_);(with_reducible refine XP (g:=gk) EP ?_ ?_ KT ?_ ?_);(·exact Ei rfl);(·exact⟨rfl,rfl⟩);(·exact rfl)));have Dx:Ef EJ 140 #[EU #[E I h,E I e,E I o,E I oa,E I om,E I a2,E I lm,Eb b],E I 4] w8 _:=CG.out (⟨h,e,o,oa,om,a2,lm,b⟩:EL) 4 w8 xm;(with_reducible refine Dx.mono ?_);rintro e8 w9 ⟨rfl,b9⟩;replace KT:=EN KT b9;replace KR:=EN KR b9;replace KB:=EN KB b9;replace Q1:=J<|Q1.out.B b9;replace MM:=J<|MM.out.trans (Is.Eu b9 (Ey lw.out MM.out.bel.size));clear b9;cases hg:(⟨h,e,o,oa,om,a2,lm,b⟩:EL).Ow 4 with|mk t5 sI=>
       have h50:sI=0/\t5=(⟨h,e,o,oa,om,la,lm,b⟩:EL).pass 4 (e+1):=by exact EkR
       rcases Xw t5 with⟨XM,mI,bh,iZ⟩;exact Eh3
section
variable{P:Program}{ops:Array Oper}{Q:Exit->Act->World->Prop}
theorem EZ3{Rel If:H->H->Prop}{cs:List Nat}{ks:List (Nat×Nat)}(hB:bN ops=G)(hK:fj ops cs ks=G)(hlk: ∀(i lo hi:Nat),ks[i]?=X (lo,hi)->lo<=cs.length){F:(Nat->M)->Act}{R:Nat->(Nat->M)->H->Prop} (hPh: ∀b w w',Ph b w->Rel w w'->Ph b w') (hF: ∀i o x v,i<ops.size->ops[i]?=X o->(F x).put o.dst v=F (Jv x i v)) (hR: ∀i x w w',i<ops.size->R i x w->Rel w w'->R i x w') (hR2: ∀i x w w' c,i<ops.size->c∈cs->i≠c->bP ops ops.size i c=Y->R i x w->If w w'->R i x w') (hD: ∀i x y w,i<ops.size->(∀k,(k=i\/fh ops i k)->x k=y k)->R i x w->R i y w) (hcw: ∀c o x,c∈cs->ops[c]?=X o->IQ o (yielded ops (F x).tmps)=G) (hstep: ∀(i:Nat) (o:EK) (lo hi:Nat),ops[i]?=X o->ks[i]?=X (lo,hi)->uS Ph Rel If P ops Q F R (decide (i∈cs)) lo hi i o) (hend: ∀x w,Ph cs.length w->(∀i,i<ops.size->R i x w)->wpList P ops Q [] (F x) w): ∀(fuel:Nat) (listed:Array Bool) (x:Nat->M) (w:H),(Of ops listed).length<=fuel->listed.size=ops.size->ZF ops listed->Ph (cnt cs listed) w-> (∀i,i<ops.size->listed.getD i G=G->R i x w)->wpAny P .any ops Q fuel listed (F x) w:=by
 obtain⟨hcs,hcn,hKs⟩:=uR hK
 have done: ∀(fuel:Nat) (listed:Array Bool) (x:Nat->M) (w:H),(∀j,j<ops.size->listed.getD j G=G)->Ph (cnt cs listed) w->(∀i,i<ops.size->listed.getD i G=G->R i x w)->wpAny P .any ops Q fuel listed (F x) w:=by
  intro fuel listed x w hall hb hr;have hcl:cnt cs listed=cs.length:=by exact Emh
  rw[hcl] at hb;exact Em2
 intro fuel;induction fuel with
 |zero=>
  intro listed x w hf hs hcl hb hr;refine done 0 listed x w (fun j hj=> ?_) hb hr;cases hlj:listed.getD j G;·exact Ek9
  ·rfl
 |succ fuel ih=>
  intro listed x w hf hs hcl hb hr;by_cases hall: ∀j,j<ops.size->listed.getD j G=G;·exact El3
  ·refine⟨fun h0=> ?_,fun i hi=> ?_⟩
   ·exfalso
    have hex: ∃j,j<ops.size/\listed.getD j G=Y:=by
     apply Classical.byContradiction;intro hno
     exact hall fun j hj=>by
      cases hlj:listed.getD j G;·exact absurd ⟨j,hj,hlj⟩ hno
      ·rfl
    have hmin: ∃j,(j<ops.size/\listed.getD j G=Y)/\ ∀k,k<j-> ¬(k<ops.size/\listed.getD k G=Y):=by
     obtain⟨j,hj⟩:=hex;induction j using Nat.strongRecOn with
     |ind j aR=>
      by_cases h: ∃k,k<j/\(k<ops.size/\listed.getD k G=Y);·exact EjN
      ·exact Ejr
    obtain⟨j,⟨hjn,hj⟩,hlt⟩:=hmin;have ho:ops[j]?=X ops[j]:=Array.getElem?_eq_getElem hjn
    have:j∈Region.ready .any ops listed:=by
     refine mem_ready.2 ⟨hj,_,ho,fun e he hbe=> ?_⟩;have h1:=no hB ho e he hbe;have h2:=hlt e.on h1;have h3:e.on<listed.size:=U;cases hlj:listed.getD e.on G;·exact absurd ⟨U,hlj⟩ h2
     ·simpa[h3] using hlj
    rw[h0] at this;cases this
   ·obtain⟨h1,o,ho,aa⟩:=mem_ready.1 hi;have hin:=(Ja.1 ho).1;have hdr:i6 R o x w:=by intro e he hb';have h3:=aa e he hb';have h4:=no hB ho e he hb';have h5:e.on<listed.size:=U;exact hr e.on U kI
    obtain⟨lo,hi',hk,hkc⟩:=hKs i hin;have st:=hstep i o lo hi' ho hk;have qE:=hcl.set hs hi;have hset:(listed.setIfInBounds i G).getD i G=G:=by exact Eka
    have next: ∀v w',Ph (cnt cs (listed.setIfInBounds i G)) w'->(∀j,j<ops.size->j≠i->listed.getD j G=G->R j x w')->R i (Jv x i v) w'->wpAny P .any ops Q fuel (listed.setIfInBounds i G) ((F x).put o.dst v) w':=by
     intro v w' hb' hrs hv;rw[hF i o x v hin ho];have hlt:=iT hs hin h1;refine ih _ _ w' U dE qE hb' (fun j hj hl=> ?_);by_cases hji:j=i;·subst hji;exact hv
     ·rw[getD_set_ne G (fun e=>hji e.symm)] at hl;refine hD j x _ w' hj (fun q hq=> ?_) (hrs j hj hji hl);rw[fc];intro hqi;rw[hqi] at hq;rcases hq with hq|⟨oj,e,hoj,he,hbe,pY⟩;·exact hji hq.symm
      ·exact EkH
    have early: ∀j c,cs[j]?=X c->c≠i->j<lo->listed.getD c G=G:=by
     intro j c hj hne hlt;rcases((hkc j c hj).2 hne).1 with h|h;·omega
     ·exact ElT
    have late: ∀j c,cs[j]?=X c->c≠i->hi'<=j->listed.getD c G=Y:=by
     intro j c hj hne hle;rcases((hkc j c hj).2 hne).2 with h|h;·omega
     ·cases hlc:listed.getD c G;·rfl
      ·exact Elm
    by_cases hic:i∈cs
    ·obtain⟨j0,hj0⟩:=List.mem_iff_getElem?.1 hic;obtain⟨e1,e2⟩:=(hkc j0 i hj0).1 rfl;have hjl:=(List.getElem?_eq_some_iff.1 hj0).1;have uniq: ∀j,cs[j]?=X i->j=j0:=by intro j hj;have YI:=(List.getElem?_eq_some_iff.1 hj).1;have h5:=(List.getElem?_eq_some_iff.1 hj).2;have h6:=(List.getElem?_eq_some_iff.1 hj0).2;exact(List.getElem_inj hcn).1 (h5.trans h6.symm)
     have hcnt:cnt cs listed=lo:=by
      refine Nat.le_antisymm (i8 cs lo fun j c hj hc=> ?_) (p8 cs lo U fun j c hj hc=> ?_)
      ·by_cases e:c=i;·subst e;exact h1
       ·exact late j c hc e U
      ·by_cases e:c=i;·subst e;have:=uniq j hc;omega
       ·exact early j c hc e hj
     rw[Ia hic] at st;rw[hcnt] at hb;have st:=st x w hb hdr;unfold wpOp;simp only[ho];unfold UJ at st;rw[if_pos (hcw i o x hic ho)] at st⊢;refine .inl (Oper.wp_mono (fun a' w' h'=> ?_) st);obtain⟨v,rfl,⟨hb',uT⟩,hv⟩:=h';exact next v w' (by rw[uQ U h1 cs hcn hic,hcnt];exact uT) (fun j hj hji hl=>hR2 j _ w w' i hj hic hji (by cases hrb:bP ops ops.size j i with|false=>rfl|true=>exact absurd (np hcl _ j i hrb hj hl) (by rw[h1];decide)) (hr j hj hl) hb') hv
    ·rw[E9 hic] at st;have hne: ∀j c,cs[j]?=X c->c≠i:=fun j c hj e=>hic Km;have hlo2:lo<=cnt cs listed:=p8 cs lo (hlk i lo hi' hk) fun j c hj hc=>early j c hc (hne j c hc) hj;have AX:cnt cs listed<=hi':=i8 cs hi' fun j c hj hc=>late j c hc (hne j c hc) hj;have st:=st x w _ hlo2 AX hb hdr;unfold wpOp;simp only[ho];unfold UJ at st;split;·rename_i hw;rw[if_pos hw] at st;refine .inl (Oper.wp_mono (fun a' w' h'=> ?_) st);obtain⟨v,rfl,hb',hv⟩:=h';exact next v w' Ko (fun j hj _ hl=>hR j _ w w' hj (hr j hj hl) hb') hv
     ·exact Elx
end
section
variable{P:Program}{Q:Exit->Act->World->Prop}
theorem Qd{Rel If:H->H->Prop}(cs:List Nat)(ks:List (Nat×Nat))(hm:P.follows .mixedOrders=G)(hB:bN l.toArray=G)(hK:fj l.toArray cs ks=G)(hlk:(ks.all fun p=>decide (p.1<=cs.length))=G)(hnd:(OU l).Nodup)(R:Nat->(Nat->M)->H->Prop) (hcg:(cs.all fun c=>match l[c]? with|some o=>o.guard.isNone|none=>false)=G) (hPh: ∀b w w',Ph b w->Rel w w'->Ph b w') (hR: ∀i x w w',i<l.length->R i x w->Rel w w'->R i x w') (hR2: ∀i x w w' c,i<l.length->c∈cs->i≠c->bP l.toArray l.toArray.size i c=Y->R i x w->If w w'->R i x w') (hD: ∀i x y w,i<l.length->(∀k,(k=i\/fh l.toArray i k)->x k=y k)->R i x w->R i y w) (h0:Ph 0 w0.drew) (hstep:bQ Ph Rel If P l.toArray Q (fun x=>EB l 0 x a0) R cs 0 l ks) (hend: ∀x w,Ph cs.length w->(∀i,i<l.length->R i x w)->wpList P l.toArray Q [] (EB l 0 x a0) w):(Code.region id l.toArray G).wp P Q a0 w0:=by
 have kX:EB l 0 (held l a0) a0=a0:=fd a0 _ 0 _ (fun k o ho d hd=>by unfold held;rw[Nat.zero_add,ho];simp only[hd]);refine wp_region_any hm ?_
 have key:=EZ3 (P:=P) (Q:=Q) (ops:=l.toArray) (Ph:=Ph) (Rel:=Rel) (If:=If) (cs:=cs) (ks:=ks) (F:=fun x=>EB l 0 x a0) (R:=R) hB hK (by
  intro i lo hi h;have:=List.all_eq_true.1 hlk (lo,hi) (List.mem_iff_getElem?.2 ⟨i,h⟩);simpa using this) hPh
  (fun i o x v hi ho=>by have:=gw l 0 i x a0 o v hnd kO;rw[Nat.zero_add] at this;exact this) (fun i x w w' hi=>hR i x w w' Om) (fun i x w w' c hi hc hne hrb=>hR2 i x w w' c Om hc hne hrb) (fun i x y w hi=>hD i x y w Om)
  (fun c o x hc ho=>by
   have h1:=List.all_eq_true.1 hcg c hc;have:l[c]?=X o:=kO;rw[this] at h1;simp only at h1;unfold IQ;cases hg:o.guard with
   |none=>rfl
   |some g=>rw[hg] at h1;cases h1)
  (fun i o lo hi ho hk=>by have:=bQ.at l ks 0 hstep i o lo hi kO hk;rwa [Nat.zero_add] at this)
  (fun x w hp hr=>hend x w hp fun i hi=>hr i Om)
  l.toArray.size (Array.replicate l.toArray.size Y) (held l a0) w0.drew ?_ Ek ?_ ?_ ?_
 ·simp only[kX] at key;exact key
 ·exact Ejh
 ·intro j o ho h;by_cases hj:j<l.toArray.size;·have:j<l.length:=uD;simp[this] at h
  ·exact absurd (Ja.1 ho).1 hj
 ·have hz:cnt cs (Array.replicate l.toArray.size Y)=0:=by
   refine Nat.le_zero.1 (i8 cs 0 fun j c _ hj=> ?_);have:=(uR hK).1 c (List.mem_iff_getElem?.2 ⟨j,hj⟩);have h2:c<l.length:=by exact Ek_
   simp[h2]
  rw[hz];exact h0
 ·intro i hi h;have:i<l.length:=Om;simp[this] at h
inductive dy(Rel If:H->H->Prop) where
 |val (p:M->Prop)
 |dep (s:M->H->Prop) (h1: ∀v w w',s v w->Rel w w'->s v w') (h2: ∀v w w',s v w->If w w'->s v w')
 |late (s:M->H->Prop) (h1: ∀v w w',s v w->Rel w w'->s v w')
instance{Rel If}(x):CoeDep KQ (KQ.kq x) (dy Rel If):=⟨.val fun v=>v=x⟩
instance{Rel If}(g i):CoeDep KQ (KQ.kp g i) (dy Rel If):=⟨.val fun v=>v=V (X ⟨g,i,Z⟩)⟩
def dy.jt{Rel If:H->H->Prop}:dy Rel If->Bool
 | .late _ _=>G
 |_=>Y
def RQ{Rel If:H->H->Prop}(K:Nat->dy Rel If)(i:Nat)(x:Nat->M)(w:H):Prop:=match K i with
 | .val p=>p (x i)
 | .dep s _ _=>s (x i) w
 | .late s _=>s (x i) w
def kQ{Rel If:H->H->Prop}(Ks:List (dy Rel If))(i:Nat):dy Rel If:=Ks.getD i (.val fun _=>True)
def Qf(ops:Array EK)(cs:List Nat)(tags:List Bool):Bool:=(List.range tags.length).all fun i=> !(tags.getD i Y)||cs.all fun c=>decide (i=c)||bP ops ops.size i c
theorem EZ4{Rel If:H->H->Prop}{Ks:List (dy Rel If)}(h:Ks.map dy.jt=tags)(i:Nat)(hl:(kQ Ks i).jt=G):i<tags.length/\tags.getD i Y=G:=by
 subst h;unfold kQ at hl;by_cases hi:i<Ks.length;·exact Ekd
 ·exact El_
theorem Zy{Rel If:H->H->Prop}(Ks:List (dy Rel If))(tags:List Bool)(htag:Ks.map dy.jt=tags)(cs:List Nat)(ks:List (Nat×Nat))(hm:P.follows .mixedOrders=G)(hB:bN l.toArray=G)(hK:fj l.toArray cs ks=G)(hlt:Qf l.toArray cs tags=G)(hlk:(ks.all fun p=>decide (p.1<=cs.length))=G)(hnd:(OU l).Nodup) (hcg:(cs.all fun c=>match l[c]? with|some o=>o.guard.isNone|none=>false)=G) (hPh: ∀b w w',Ph b w->Rel w w'->Ph b w') (h0:Ph 0 w0.drew) (hstep:bQ Ph Rel If P l.toArray Q (fun x=>EB l 0 x a0) (RQ (kQ Ks)) cs 0 l ks) (hend: ∀x w,Ph cs.length w->(∀i,i<l.length->RQ (kQ Ks) i x w)->wpList P l.toArray Q [] (EB l 0 x a0) w):(Code.region id l.toArray G).wp P Q a0 w0:=by
 refine Qd cs ks hm hB hK hlk hnd (RQ (kQ Ks)) hcg hPh ?_ ?_ ?_ h0 hstep hend
 ·intro i x w w' _ h hr;unfold RQ at*;split at h;·exact h
  ·rename_i s h1 h2 _;exact El9
  ·rename_i s h1 _;exact El9
 ·intro i x w w' c hi hc hne hrb h hr;unfold RQ at*;split at h;·exact h
  ·exact EmO
  ·rename_i s h1 he;exfalso;obtain⟨h3,h4⟩:=EZ4 htag i i9;have h5:=List.all_eq_true.1 hlt i (List.mem_range.2 h3);rw[h4] at h5;simp only[Bool.not_true,Bool.false_or] at h5;have h6:=List.all_eq_true.1 h5 c hc;rw[hrb] at h6;simp at h6;exact hne h6
 ·intro i x y w _ hq h;unfold RQ at*;exact ElN
end
def sZ(gr:Nat)(tv:Array M)(w w':H):Prop:=EG gr w w'/\(D w gr tv 109->D w' gr tv 109)/\((∃c:Array M,c.size=8/\D w gr c 109)-> ∃c:Array M,c.size=8/\D w' gr c 109)
theorem oC(h:Eh w w'):sZ gr tv w w':=⟨EG.Eu h,fun k=>D.B k h,fun⟨c,h1,h2⟩=>⟨c,h1,D.B h2 h⟩⟩
theorem bi:Kept (sZ gr tv):=
 ⟨fun w=>oC (E6 _ _),fun a b c h k=>⟨h.1.trans k.1,fun x=>k.2.1 (h.2.1 x),fun x=>k.2.2 (h.2.2 x)⟩,fun w=>oC (I1 _)⟩
theorem Od{g:Nat}(cs:Array M):EG g W (W.setRow g cs):=
 ⟨Ek,fun k hk _=>setRow_other W g k cs hk,fun lo h1 _=>E2 (g:=g) (E6 lo W) h1 cs⟩
theorem EZ5{c:Array M}(K:D w gr c 109)(hs:tv.size=8):sZ gr tv w (w.setRow gr tv):=⟨Od tv,fun _=>K.setRow tv,fun _=>⟨tv,hs,K.setRow tv⟩⟩
theorem ox.only{e:Ending}(h:ox lo gq L most s r a m e W)(ho:EG gr W W')(K:D W gr c0 109):ox lo gq L most s r a m e W':=by
 rcases h with⟨cd,h1,h2,h3⟩|⟨h1,h2,L',came,h3,h4,h5⟩;·exact .inl ⟨cd,h1,h2,h3.only ho K EZ EZ⟩
 ·exact .inr ⟨h1,h2,L',came,h3,h4,h5.only ho K EZ EZ⟩
theorem UZ:ID EJ 28 56:=⟨⟨_,Tryz.underlying28,O⟩,Ec⟩
def bj(lo gq gr:Nat)(L:List One)(most s r a m:Int)(cd:Int)(w:H):Prop:=ox lo gq L most s r a m (Eg (E I cd)) w/\ ∃c:Array M,c.size=8/\D w gr c 109
theorem bj.rel{cd:Int}(h:bj lo gq gr L most s r a m cd W)(hr:sZ gr tv W W'):bj lo gq gr L most s r a m cd W':=by obtain⟨h1,c,h2,h3⟩:=h;exact⟨h1.only hr.1 h3,hr.2.2 ⟨c,h2,h3⟩⟩
theorem EZ6{e:Ending}(h:ox lo gq L most s r a m e W): ∃cd:Int,e=Eg (E I cd):=by
 rcases h with⟨cd,h1,h2,h3⟩|⟨h1,-⟩;·exact⟨cd,h2⟩
 ·exact⟨0,h1⟩
def Qg(lo gq:Nat)(L:List One)(most:Int)(t:EL)(s rk mp:Int)(t':EL)(how cd:Int)(w:H):Prop:=
 (cd≠0/\t'=t/\how=0/\JZ w lo gq L most)\/
 (cd=0/\how=3/\t.Ow s=(t',0)/\ ∃L',O4 L' L/\JZ w lo gq L' most)\/
 (cd=0/\how=0/\t'=t/\(∀x∈L,x.s≠s)/\ ∃(L':List One) (came:Nat),came<18446744073709551616/\L'.Perm (L++[⟨s,rk,0,mp,came⟩])/\JZ w lo gq L' most)
theorem mJ(gk:Nat)(tv:Array M)(TS:tv.size=8)(TO:tv.all (·.oneCell')=G)(cd:Int)(w:H)(KT:D w gk tv 109): Ef EJ 216 #[E I cd,V (X ⟨gk,0,Z⟩)] w fun e w'=>e=Eg (Es #[EU tv,E I 0,E I cd])/\Eh w w':=by have TS:=J TS;have TO:=J TO;have KT:=J KT;go_enter Tryz.func216,Tryz.ntmps216;go_wp2_with (with_reducible refine I2 6 ?_);refine Ed.in ?_;generalize hW:World.alloc _ _=w1 at*;have KR:Ea (D w1 (w.heap.size) #[E I 0,E I 0,E I 0,E I 0,E I 0,E I 0,E I 0,Eb Y] 109):=J (by subst hW;repeat (first|exact D.new _ _ _|exact D.new' _ _ _ Ek|refine D.alloc ?_ _));have b1:Ea (Eh w w1):=J (by subst hW;(repeat (first|exact E6 _ _|(refine Below.alloc ?_ Io _)|(refine Below.setCell ?_ Io _))));clear hW;replace KT:=EN KT b1.out;obtain⟨gr,hgr⟩:=En w.heap.size;rw[<-hgr] at KR⊢;have LR:=J (show w.heap.size<=gr from U);rw[hgr];rw[hgr] at KR LR;go_wp2_with (with_reducible first|refine wL EP KT ?_ (hn:=TS.out)|refine wS (cs:=tv) EP KR ?_ (hn:=TS.out) (h1:=TO.out));refine EQ (fg EP O _ _ w.heap.size tv (E I 0) (E I cd) O O O (KR.out.setRow _) TS.out) O ?_;exact⟨O,E2 (g:=w.heap.size) b1.out (E5 _) _⟩
theorem EZ7(lo gq:Nat)(L:List One)(most:Int)(g:Nat->M)(pa:Int)(hpa:g 45=E I pa)(hg: ∀i,i<5->XH (g i))(t:EL)(tok:t.ok)(s:Int)(now:Bool)(w:H)(lq:lo<=gq)(Q:JZ w lo gq L most)(hl:L.length<=3)(hsub:(∀x∈L,x.s≠s)->L.length<=2): Ef EJ 177 #[EU (EH 56 g),t.a,V (X ⟨gq,0,Z⟩),E I s,Eb now] w fun e w'=>(∃t' how cd,e=Eg (Es #[t'.a,E I how,E I cd])/\Qg lo gq L most t s (Zt g s) (max pa 0) t' how cd w')/\Is lo w w':=by
 have HQ:=J Q;have HL:=J hl;have LQ:=J lq;have lw:=J (show lo<=w.heap.size from lR);have he: -9223372036854775808<=t.e:=by have:=tok.e;omega
 obtain⟨tv,IE,TS,TO,CG,CZ⟩: ∃tv,t.a=EU tv/\tv.size=8/\tv.all (·.oneCell')=G/\(∀s W,Ef EJ 140 #[EU tv,E I s] W fun x w'=>x=Eg (Es #[(t.Ow s).1.a,E I (t.Ow s).2])/\Eh W w')/\(∀W,Ef EJ 96 #[EU tv] W fun x w'=>x=Eg t.ZK.a/\Eh W w'):=⟨_,O,O,bR _ _ _ _ _ _ _ _,fun s W=>ny t s W he,fun W=>qO t W he⟩;rw[IE];have TS:=J TS;have TO:=J TO;have CG:=J CG;have JM:=J IE;have cC:=J (show∀W g,D W g tv 109->W.cell? ⟨g,0,Z⟩=X (E I t.h)/\W.cell? ⟨g,1,Z⟩=X (E I t.e)/\W.cell? ⟨g,7,Z⟩=X (Eb t.bad) from fun W g K=>by have e:tv=Oo t.h t.e t.o t.oa t.om t.la t.lm t.bad:=QO;subst e;exact⟨(D.cell K 0).trans O,(D.cell K 1).trans O,(D.cell K 7).trans O⟩);have CH:=J<|fun W=>EXj g s t.h W hg;have CR:=J<|fun W=>EXi g s W hg;have CT:=J<|fun W=>uH pa W;have CQ:=J<|fun W q=>EZC lo gq L most s (Zt g s) 0 (max pa 0) W lq q hl hsub;generalize Zt g s=rk at*;generalize max pa 0=mp at*;generalize Cz g s t.h=hb at*;obtain⟨pv,hpv⟩:=En (EH 56 g);rw[<-hpv] at CH CR⊢;have PC:Ea (pv[45]?=X (E I pa)):=J (by rw[hpv,<-hpa];simp[EH]);have PS:Ea (pv.size=56):=J (by rw[hpv];simp[EH]);have eC: ∀(args:Array M) (W:H),(callFunc 216 args).run EJ W= .ok (.enter 216 args) W:=fun _ _=>Ec;have TKO:=J tok;clear hpv hpa hg Q hl lq hsub tok CZ IE he;go_enter Tryz.func177,Tryz.ntmps177;go_wp2_with (with_reducible refine I2 19 ?_);refine Ed.in ?_;generalize hW:World.alloc _ _=w1 at*;have KP:Ea (D w1 (w.heap.size) pv 28):=J (by subst hW;repeat (first|exact D.new _ _ _|exact D.new' _ _ _ Ek|refine D.alloc ?_ _));have KT:Ea (D w1 (w.heap.size+1) tv 109):=J (by subst hW;repeat (first|exact D.new _ _ _|exact D.new' _ _ _ Ek|refine D.alloc ?_ _));have KR:Ea (D w1 (w.heap.size+1+1) #[E I 0,E I 0,E I 0,E I 0,E I 0,E I 0,E I 0,Eb Y] 109):=J (by subst hW;repeat (first|exact D.new _ _ _|exact D.new' _ _ _ Ek|refine D.alloc ?_ _));have b1:Ea (Eh w w1):=J (by subst hW;(repeat (first|exact E6 _ _|(refine Below.alloc ?_ Io _)|(refine Below.setCell ?_ Io _))));clear hW;obtain⟨gr,hgr⟩:=En (w.heap.size+1+1);rw[<-hgr] at KR⊢;obtain⟨gk,Xx⟩:=En (w.heap.size+1);rw[<-Xx] at KT⊢;obtain⟨gp,O8⟩:=En w.heap.size;rw[<-O8] at KP;rw[show w.heap.size=gp from O8.symm];have LR:=J (show w.heap.size<=gr from U);have oB:=J (show gk≠gr from U);clear hgr Xx O8;have Q1:=J<|HQ.out.B b1.out;have MM:=J<|Is.Eu b1.out lw.out;have c7:=(cC.out _ _ KT.out).2.2;have c0:=(cC.out _ _ KT.out).1;have c1:=(cC.out _ _ KT.out).2.1;clear b1;cases hbad:t.bad with
 |true=> rw[hbad] at c7;go_wp2_with fail;(with_reducible refine(mJ gk tv TS.out TO.out 29 _ KT.out).mono ?_);rintro e7 w7 ⟨rfl,b7⟩;replace KT:=EN KT b7;replace KR:=EN KR b7;replace KP:=EN KP b7;replace Q1:=J<|Q1.out.B b7;replace MM:=J<|MM.out.trans (Is.Eu b7 (Ey lw.out MM.out.bel.size));clear b7;go_wp2_with (with_reducible refine wS (cs:=tv) EP KR ?_ (hn:=TS.out) (h1:=TO.out));refine EQ (fg EP O _ _ gr tv (E I 0) (E I 29) O O O (KR.out.setRow _) TS.out) O ?_;refine⟨⟨t,0,29,Zv,.inl ⟨EZ,O,O,Q1.out.Ul _ KR.out EZ EZ⟩⟩,MM.out.Um _ LR.out lw.out KR.out EZ EZ⟩
 |false=>
  rw[hbad] at c7;by_cases h1:s=t.h;·have t1:(s==t.h)=G:=oA;have H1:=J h1;clear h1;go_wp2_with fail;(with_reducible refine(mJ gk tv TS.out TO.out 25 _ KT.out).mono ?_);rintro e7 w7 ⟨rfl,b7⟩;replace KT:=EN KT b7;replace KR:=EN KR b7;replace KP:=EN KP b7;replace Q1:=J<|Q1.out.B b7;replace MM:=J<|MM.out.trans (Is.Eu b7 (Ey lw.out MM.out.bel.size));clear b7;go_wp2_with (with_reducible refine wS (cs:=tv) EP KR ?_ (hn:=TS.out) (h1:=TO.out));refine EQ (fg EP O _ _ gr tv (E I 0) (E I 25) O O O (KR.out.setRow _) TS.out) O ?_;refine⟨⟨t,0,25,Zv,.inl ⟨EZ,O,O,Q1.out.Ul _ KR.out EZ EZ⟩⟩,MM.out.Um _ LR.out lw.out KR.out EZ EZ⟩
  ·have t1:(s==t.h)=Y:=oA;by_cases h2:65535<=t.e;·have t2:decide (65535<=t.e)=G:=Ia h2;go_wp2_with fail;(with_reducible refine(mJ gk tv TS.out TO.out 24 _ KT.out).mono ?_);rintro e7 w7 ⟨rfl,b7⟩;replace KT:=EN KT b7;replace KR:=EN KR b7;replace KP:=EN KP b7;replace Q1:=J<|Q1.out.B b7;replace MM:=J<|MM.out.trans (Is.Eu b7 (Ey lw.out MM.out.bel.size));clear b7;go_wp2_with (with_reducible refine wS (cs:=tv) EP KR ?_ (hn:=TS.out) (h1:=TO.out));refine EQ (fg EP O _ _ gr tv (E I 0) (E I 24) O O O (KR.out.setRow _) TS.out) O ?_;refine⟨⟨t,0,24,Zv,.inl ⟨EZ,O,O,Q1.out.Ul _ KR.out EZ EZ⟩⟩,MM.out.Um _ LR.out lw.out KR.out EZ EZ⟩
   ·have t2:decide (65535<=t.e)=Y:=E9 h2;by_cases h4:t.h=4
    ·have t4:(t.h==4)=G:=dX;have H4:=J h4;clear h4;go_wp2_with (with_reducible refine wL EP KT ?_ (hn:=TS.out));(with_reducible refine(CG.out s _).mono ?_);rintro e4 w4 ⟨rfl,b4⟩;replace KT:=EN KT b4;replace KR:=EN KR b4;replace KP:=EN KP b4;replace Q1:=J<|Q1.out.B b4;replace MM:=J<|MM.out.trans (Is.Eu b4 (Ey lw.out MM.out.bel.size));clear b4;cases hgt:t.Ow s with|mk t2 cd=>
     rcases Xw t2 with⟨rv,Iy,RS,RO⟩;rw[show(t2,cd).fst.a=EU rv from Iy];have RS:=J RS;have RO:=J RO;have OC:=J Iy;have HG:=J hgt;clear Iy hgt;go_wp2_with (with_reducible refine aT 109 ?_);refine Ed.in ?_;generalize hW:World.alloc _ _=wm at*;have KB:Ea (D wm (w4.heap.size) #[E I 0,E I 0,E I 0,E I 0,E I 0,E I 0,E I 0,Eb Y] 109):=J (by subst hW;repeat (first|exact D.new _ _ _|exact D.new' _ _ _ Ek|refine D.alloc ?_ _));have bq:Ea (Eh w4 wm):=J Dt;clear hW;obtain⟨J9,aB⟩:=En w4.heap.size;rw[<-aB] at KB⊢;have Zx:=J (show w4.heap.size<=J9 from U);clear aB;go_wp2_with (with_reducible refine wS (cs:=rv) EP KB (Ed.mk ?_) (hn:=RS.out) (h1:=RO.out));refine Ed.in ?_;replace KB:=J<|KB.out.setRow rv;replace bq:=J<|E2 (g:=J9) bq.out Zx.out rv;generalize wm.setRow J9 rv=w5 at*;replace KT:=EN KT bq.out;replace KR:=EN KR bq.out;replace KP:=EN KP bq.out;replace Q1:=J<|Q1.out.B bq.out;replace MM:=J<|MM.out.trans (Is.Eu bq.out (Ey lw.out MM.out.bel.size));clear bq Zx;by_cases hcd:cd=0;·exact EiZ
     ·exact Eib
    ·have t4:(t.h==4)=Y:=dX;cases now with
     |true=>
      go_wp2_with (((with_reducible refine dI 28 ?_);(with_reducible refine XP (g:=gp) UZ ?_ ?_ KP ?_ ?_);(·first|exact Ei rfl|(simp[IQ,yielded];done));(·exact⟨O,O⟩);(·exact PS.out)));(with_reducible refine(CH.out _).mono ?_);rintro e2 w2 ⟨rfl,b2⟩;replace KT:=EN KT b2;replace KR:=EN KR b2;replace KP:=EN KP b2;replace Q1:=J<|Q1.out.B b2;replace MM:=J<|MM.out.trans (Is.Eu b2 (Ey lw.out MM.out.bel.size));clear b2;cases hb with
      |true=>
       go_wp2_with (with_reducible refine wL EP KT ?_ (hn:=TS.out));(with_reducible refine(CG.out s _).mono ?_);rintro e4 w4 ⟨rfl,b4⟩;replace KT:=EN KT b4;replace KR:=EN KR b4;replace KP:=EN KP b4;replace Q1:=J<|Q1.out.B b4;replace MM:=J<|MM.out.trans (Is.Eu b4 (Ey lw.out MM.out.bel.size));clear b4;cases hgt:t.Ow s with|mk t2 cd=>
       rcases Xw t2 with⟨rv,Iy,RS,RO⟩;rw[show(t2,cd).fst.a=EU rv from Iy];have RS:=J RS;have RO:=J RO;have OC:=J Iy;have HG:=J hgt;clear Iy hgt;go_wp2_with (with_reducible refine aT 109 ?_);refine Ed.in ?_;generalize hW:World.alloc _ _=wm at*;have KB:Ea (D wm (w4.heap.size) #[E I 0,E I 0,E I 0,E I 0,E I 0,E I 0,E I 0,Eb Y] 109):=J (by subst hW;repeat (first|exact D.new _ _ _|exact D.new' _ _ _ Ek|refine D.alloc ?_ _));have bq:Ea (Eh w4 wm):=J Dt;clear hW;obtain⟨J9,aB⟩:=En w4.heap.size;rw[<-aB] at KB⊢;have Zx:=J (show w4.heap.size<=J9 from U);clear aB;go_wp2_with (with_reducible refine wS (cs:=rv) EP KB (Ed.mk ?_) (hn:=RS.out) (h1:=RO.out));refine Ed.in ?_;replace KB:=J<|KB.out.setRow rv;replace bq:=J<|E2 (g:=J9) bq.out Zx.out rv;generalize wm.setRow J9 rv=w5 at*;replace KT:=EN KT bq.out;replace KR:=EN KR bq.out;replace KP:=EN KP bq.out;replace Q1:=J<|Q1.out.B bq.out;replace MM:=J<|MM.out.trans (Is.Eu bq.out (Ey lw.out MM.out.bel.size));clear bq Zx;by_cases hcd:cd=0;·exact EiZ
       ·exact Eib
      |false=> go_wp2_with fail;(with_reducible refine(mJ gk tv TS.out TO.out 26 _ KT.out).mono ?_);rintro e7 w7 ⟨rfl,b7⟩;replace KT:=EN KT b7;replace KR:=EN KR b7;replace KP:=EN KP b7;replace Q1:=J<|Q1.out.B b7;replace MM:=J<|MM.out.trans (Is.Eu b7 (Ey lw.out MM.out.bel.size));clear b7;go_wp2_with (with_reducible refine wS (cs:=tv) EP KR ?_ (hn:=TS.out) (h1:=TO.out));refine EQ (fg EP O _ _ gr tv (E I 0) (E I 26) O O O (KR.out.setRow _) TS.out) O ?_;refine⟨⟨t,0,26,Zv,.inl ⟨EZ,O,O,Q1.out.Ul _ KR.out EZ EZ⟩⟩,MM.out.Um _ LR.out lw.out KR.out EZ EZ⟩
     |false=>
      go_wp2_with fail;refine Zy (Ph:=fun p wq=>match p with|0=>(D wq gp pv 28/\D wq gk tv 109/\(∃c:Array M,c.size=8/\D wq gr c 109)/\JZ wq lo gq L most/\Is lo w wq)|_=>(D wq gk tv 109/\(∃c:Array M,c.size=8/\D wq gr c 109)/\Is lo w wq)) (Rel:=(sZ gr tv)) (If:=fun _ _=>True) [kq (.func (.func 216) #[] #[V (X ⟨gk,0,Z⟩)]),kp gq 0,kq (E I s),kq (EU pv),kq (E I s),kq (E I rk),kp gp 45,kq (E I pa),kq (EU #[E I 0,E I mp]),kq (EU #[E I s,E I rk,E I 0,E I mp]),.late (fun v w=> ∃cd:Int,v=E I cd/\bj lo gq gr L most s rk 0 mp cd w) (fun v w w' h hr=>xp),.late (fun v w=> ∃cd:Int,v=Es #[EU tv,E I 0,E I cd]/\bj lo gq gr L most s rk 0 mp cd w) (fun v w w' h hr=>xp),kq (EU tv),kq (E I 0),.late (fun v w=> ∃cd:Int,v=E I cd/\bj lo gq gr L most s rk 0 mp cd w) (fun v w w' h hr=>xp),.late (fun _ w=>D w gr tv 109) (fun v w w' h hr=>hr.2.1 h),kq (E I 0),.late (fun v w=> ∃cd:Int,v=E I cd/\bj lo gq gr L most s rk 0 mp cd w) (fun v w w' h hr=>xp)] [Y,Y,Y,Y,Y,Y,Y,Y,Y,Y,G,G,Y,Y,G,G,Y,G] O [10] [(0,1),(0,0),(0,0),(0,0),(0,0),(0,0),(0,0),(0,0),(0,0),(0,0),(0,0),(1,1),(1,1),(1,1),(1,1),(1,1),(1,1),(1,1)] Ec Ec Ec Ec Ec On Ec ?hPh ?h0 ?hstep ?hend
      case hPh=>
       intro p w2 w3 h hr;match p,h with
       |0,h=> obtain⟨k1,k2,⟨c,hc,k3⟩,q,m⟩:=h;exact⟨hr.1.Em k1 (E7 k1 k3 EZ),hr.1.Em k2 oB.out,hr.2.2 ⟨c,hc,k3⟩,q.only hr.1 k3 EZ EZ,m.l_ hr.1 LR.out lw.out⟩
       |_+1,h=> obtain⟨k2,⟨c,hc,k3⟩,m⟩:=h;exact⟨hr.1.Em k2 oB.out,hr.2.2 ⟨c,hc,k3⟩,m.l_ hr.1 LR.out lw.out⟩
      case h0=> exact⟨KP.out.drew,KT.out.drew,⟨_,O,KR.out.drew⟩,Q1.out.B (I1 _),MM.out.trans (Is.Eu (I1 _) (Ey lw.out MM.out.bel.size))⟩
      case hstep=>
       refine⟨?_,?_,?_,?_,?_,?_,?_,?_,?_,?_,?_,?_,?_,?_,?_,?_,?_,?_,trivial⟩;all_goals first|intro xv wq p hlo hhi hp hd|intro xv wq hp hd
       all_goals simp only[EB,Ic,Ig,IJ,IU]
       ·exact Ir bi (Ei O) Ew O
       ·exact ElE
       ·exact ElE
       ·obtain rfl:p=0:=U;exact fi bi UZ (Ei O) ⟨O,O⟩ (hp.1) PS.out O
       ·exact ElE
       ·obtain rfl:p=0:=U;have d3:xv 3=EU pv:=hd.at 3 rfl;have d4:xv 4=E I s:=hd.at 4 rfl;refine IY (f:=219) (args:= #[xv 3,xv 4]) (Ei O) Ew ?_;rw[d3,d4];exact(CR.out wq).mono fun e w2 h=>⟨_,h.1,oC h.2,O⟩
       ·exact ElE
       ·obtain rfl:p=0:=U;have d6:xv 6=V (X ⟨gp,45,Z⟩):=hd.at 6 rfl;have cc:wq.cell? ⟨gp,45,Z⟩=X (E I pa):=(D.cell hp.1 45).trans PC.out;exact Ir bi (Ei O) xq O
       ·obtain rfl:p=0:=U;have d7:xv 7=E I pa:=hd.at 7 rfl;refine IY (f:=174) (args:= #[xv 7]) (Ei O) Ew ?_;rw[d7];exact(CT.out wq).mono fun e w2 h=>⟨_,h.1,oC h.2,O⟩
       ·obtain rfl:p=0:=U;have d2:xv 2=E I s:=hd.at 2 rfl;have d5:xv 5=E I rk:=hd.at 5 rfl;have d8:xv 8=EU #[E I 0,E I mp]:=hd.at 8 rfl;exact Ir bi (Ei O) (by simp[go_sem,d2,d5,d8]) O
       ·have d1:xv 1=V (X ⟨gq,0,Z⟩):=hd.at 1 rfl;have d9:xv 9=EU #[E I s,E I rk,E I 0,E I mp]:=hd.at 9 rfl;refine IY (f:=218) (args:= #[xv 1,xv 9]) (Ei O) Ew ?_;rw[d1,d9];refine(CQ.out wq hp.2.2.2.1).mono fun e w2 h=> ?_;obtain⟨cd,he⟩:=EZ6 h.1;obtain⟨c,hc,kc⟩:=hp.2.2.1;have Qh:=h.2.Em kc EZ EZ;exact⟨_,he,⟨trivial,⟨h.2.Em hp.2.1 EZ EZ,⟨c,hc,Qh⟩,hp.2.2.2.2.trans h.2⟩⟩,cd,O,by rw[<-he];exact h.1,c,hc,Qh⟩
       ·obtain rfl:p=1:=U;have d0:xv 0= .func (.func 216) #[] #[V (X ⟨gk,0,Z⟩)]:=hd.at 0 rfl;obtain⟨cd,e10,hpk⟩: ∃cd:Int,xv 10=E I cd/\bj lo gq gr L most s rk 0 mp cd wq:=hd.at 10 rfl;refine IY (f:=216) (args:= #[xv 10,V (X ⟨gk,0,Z⟩)]) (Ei O) (by simp[go_sem,d0,eC]) ?_;rw[e10];exact(mJ gk tv TS.out TO.out cd wq hp.1).mono fun e w2 h=>⟨_,h.1,oC h.2,cd,O,hpk.rel (oC (tv:=tv) h.2)⟩
       ·exact Ekc
       ·exact Ekc
       ·obtain rfl:p=1:=U;obtain⟨cd,e11,hpk⟩: ∃cd,xv 11=Es #[EU tv,E I 0,E I cd]/\bj lo gq gr L most s rk 0 mp cd wq:=hd.at 11 rfl;exact Ir bi (Ei O) Dz ⟨cd,O,hpk⟩
       ·obtain rfl:p=1:=U;have d12:xv 12=EU tv:=hd.at 12 rfl;obtain⟨c,hc,kc⟩:=hp.2.1;exact ag EP (Ei O) ⟨O,O,d12⟩ kc hc TS.out TO.out (EZ5 kc TS.out) (kc.setRow _)
       ·obtain rfl:p=1:=U;have d13:xv 13=E I 0:=hd.at 13 rfl;exact Ir bi (Ei O) sb O
       ·obtain rfl:p=1:=U;obtain⟨cd,e14,hpk⟩: ∃cd:Int,xv 14=E I cd/\bj lo gq gr L most s rk 0 mp cd wq:=hd.at 14 rfl;exact Ir bi (Ei O) (by simp[go_sem,e14]) ⟨cd,O,hpk⟩
      case hend=>
       intro xv W6 hp hd;simp only[EB,Ic,Ig,IJ,IU];obtain⟨cd,e17,hpk⟩: ∃cd:Int,xv 17=E I cd/\bj lo gq gr L most s rk 0 mp cd W6:=hd 17 EZ;have d16:xv 16=E I 0:=hd 16 EZ;have kr:D W6 gr tv 109:=hd 15 EZ;obtain⟨-,-,m⟩:=hp;rw[e17,d16];go_wp2_with fail;refine EQ (fg EP O _ _ gr tv (E I 0) (E I cd) O O O kr TS.out) O ?_;refine⟨⟨t,0,cd,Zv,?_⟩,m⟩;rcases hpk.1 with⟨cd2,a1,a2,a3⟩|⟨a1,a2,a3⟩;·injection a2 with a2;injection a2 with _ a2;subst a2;exact .inl ⟨a1,O,O,a3⟩
       ·injection a1 with a1;injection a1 with _ a1;subst a1;exact .inr (.inr ⟨O,O,O,a2,a3⟩)
theorem E4.dz(S:E4 lo hi g gc gq gt gs c ns rs w):hi<=w.heap.size:=by obtain⟨_,_,_,KS,_⟩:=S.bX;have:=S.his;have:=KS.lt;omega
theorem Jz.cD(h:Jz lo g gc gq gt c W)(m:Is lo W W')(L':List One)(q:JZ W' lo gq L' (pn g 48))(hok:({c with q:=L'}:EA).ok):Jz lo g gc gq gt {c with q:=L'} W':=by
 obtain⟨d0,d1,d2,hd,k,r⟩:=h.Em;have hl:=m.bel;refine⟨h.lo2,h.U8,hok,h.lc,h.lq,h.lt,⟨d0,d1,d2,hd,m.Em k EZ EZ,r⟩,m.Em h.tab EZ EZ,q,fun i h1 h2=>(h.keys i h1 h2).Em fun _ _ hk=>m.Em hk EZ EZ,fun i hi=> ?_,fun i hi=> ?_⟩;·exact Elp
 ·exact Els
theorem E4.cD(h:E4 lo hi g gc gq gt gs c ns rs W)(m:Is lo W W')(L':List One)(q:JZ W' lo gq L' (pn g 48))(hok:({c with q:=L'}:EA).ok):E4 lo hi g gc gq gt gs {c with q:=L'} ns rs W':=by obtain⟨sv,rv,sc,k,r1,r2⟩:=h.bX;exact⟨h.core.cD m L' q hok,h.hc,h.hq,h.ht,h.Z8,h.his,sv,rv,sc,m.Em k EZ EZ,EW r1 fun _ _ hk=>m.Em hk EZ EZ,EW r2 fun _ _ hk=>m.Em hk EZ EZ⟩
theorem EA.ok.sub(h:c.ok)(s:O4 L' c.q):({c with q:=L'}:EA).ok:=
 ⟨h.tok,h.T,Ey s.len h.q,fun x hx=>h.ones x (s.mem x hx),fun x hx=>h.src x (s.mem x hx),s.nd h.nd,h.bU,h.fK,h.mode,h.El,h.pt,h.E3⟩
theorem Qi{L:List Int}(h1: ∀x∈L,1<=x/\x<=3)(h2:L.Nodup):L.length<=3:=by have h:=List.Nodup.length_le_of_subset (l₂:=[1,2,3]) h2 (fun x hx=>by have:=h1 x hx;simp only[List.mem_cons,List.not_mem_nil,or_false];omega);simpa using h
theorem EA.ok.push(h:c.ok){x:One}(p:L'.Perm (c.q++[x]))(hx:x.ok)(h1:1<=x.s/\x.s<=3)(h2: ∀y∈c.q,y.s≠x.s):({c with q:=L'}:EA).ok:=by
 have hs: ∀y∈L',1<=y.s/\y.s<=3:=fun y hy=>by
  rcases List.mem_append.1 (p.mem_iff.1 hy) with h'|h';·exact h.src y h'
  ·simp at h';subst h';exact h1
 have hn:(L'.map One.s).Nodup:=by rw[(p.map One.s).nodup_iff,List.map_append,List.nodup_append];refine⟨h.nd,Ek,?_⟩;intro a ha b hb;simp at hb;subst hb;obtain⟨y,hy,rfl⟩:=List.mem_map.1 ha;exact h2 y hy
 refine⟨h.tok,h.T,?_,fun y hy=> ?_,hs,hn,h.bU,h.fK,h.mode,h.El,h.pt,h.E3⟩;·have:=Qi (L:=L'.map One.s) (fun z hz=>by obtain⟨y,hy,rfl⟩:=List.mem_map.1 hz;exact hs y hy) hn;exact Ek_
 ·rcases List.mem_append.1 (p.mem_iff.1 hy) with h'|h';·exact h.ones y h'
  ·simp at h';subst h';exact hx
theorem EA.ok.room(h:c.ok)(h1:1<=s/\s<=3)(h2: ∀x∈c.q,x.s≠s):c.q.length<=2:=by
 have:=Qi (L:=s::c.q.map One.s) (fun z hz=>by
  rcases List.mem_cons.1 hz with rfl|hz;·exact h1
  ·obtain⟨y,hy,rfl⟩:=List.mem_map.1 hz;exact h.src y hy) (List.nodup_cons.2 ⟨fun hm=>by obtain⟨y,hy,e⟩:=List.mem_map.1 hm;exact h2 y hy e,h.nd⟩)
 simp at this;omega
theorem E4.set{c':EA}(S:E4 lo hi g gc gq gt gs c ns rs W)(ho:EG gc W W')(hT:c'.T=c.T)(hq:c'.q=c.q)(hok:c'.ok) (hb: ∀(d0 d1 d2:Dr) (hd:List Int),OZ W gc (ZJ (EH 56 g).toList c gq gt d0 d1 d2 hd) 120->d0.ok->d1.ok->d2.ok->OZ W' gc (ZJ (EH 56 g).toList c' gq gt d0 d1 d2 hd) 120):E4 lo hi g gc gq gt gs c' ns rs W'/\Ev lo hi W W':=by obtain⟨d0,d1,d2,hd,k,o0,o1,o2,r⟩:=S.core.Em;obtain⟨sv,rv,sc,ks,r1,r2⟩:=S.bX;have k':=hb d0 d1 d2 hd k o0 o1 o2;exact⟨⟨S.core.set ho hT hq hok ⟨d0,d1,d2,hd,k',o0,o1,o2,r⟩,S.hc,S.hq,S.ht,S.Z8,S.his,sv,rv,sc,ho.Em ks (E7 ks k EZ),EW r1 fun _ _ hk=>ho.Em hk (E7 hk k EZ),EW r2 fun _ _ hk=>ho.Em hk (E7 hk k EZ)⟩,Ev.rB ho k k' EZ S.core.lc⟩
theorem E4.ZZ(S:E4 lo hi g gc gq gt gs c ns rs W)(x:EL)(hok:({c with tok:=x}:EA).ok):E4 lo hi g gc gq gt gs {c with tok:=x} ns rs (W.setCells gc 56 x.v)/\Ev lo hi W (W.setCells gc 56 x.v):=
 S.set (JX _ _ _) O O hok fun d0 d1 d2 hd K o0 o1 o2=>K.set 1 rfl (J4 (Jj g) o0 o1 o2 1 U) x.v O
theorem E4.DA(S:E4 lo hi g gc gq gt gs c ns rs W)(x:Int)(hok:({c with samples:=x}:EA).ok):E4 lo hi g gc gq gt gs {c with samples:=x} ns rs (W.setCells gc 96 [E I x])/\Ev lo hi W (W.setCells gc 96 [E I x]):=
 S.set (JX _ _ _) O O hok fun d0 d1 d2 hd K o0 o1 o2=>K.set 7 rfl (J4 (Jj g) o0 o1 o2 7 U) [E I x] O
theorem E4.sd(S:E4 lo hi g gc gq gt gs c ns rs W)(x:Int)(hok:({c with beyond:=x}:EA).ok):E4 lo hi g gc gq gt gs {c with beyond:=x} ns rs (W.setCells gc 97 [E I x])/\Ev lo hi W (W.setCells gc 97 [E I x]):=
 S.set (JX _ _ _) O O hok fun d0 d1 d2 hd K o0 o1 o2=>K.set 8 rfl (J4 (Jj g) o0 o1 o2 8 U) [E I x] O
theorem E4.sf(S:E4 lo hi g gc gq gt gs c ns rs W)(x:Int)(hok:({c with mode:=x}:EA).ok):E4 lo hi g gc gq gt gs {c with mode:=x} ns rs (W.setCells gc 98 [E I x])/\Ev lo hi W (W.setCells gc 98 [E I x]):=
 S.set (JX _ _ _) O O hok fun d0 d1 d2 hd K o0 o1 o2=>K.set 9 rfl (J4 (Jj g) o0 o1 o2 9 U) [E I x] O
theorem E4.sg(S:E4 lo hi g gc gq gt gs c ns rs W)(x:Oa)(hok:({c with El:=x}:EA).ok):E4 lo hi g gc gq gt gs {c with El:=x} ns rs (W.setCells gc 99 x.v)/\Ev lo hi W (W.setCells gc 99 x.v):=
 S.set (JX _ _ _) O O hok fun d0 d1 d2 hd K o0 o1 o2=>K.set 10 rfl (J4 (Jj g) o0 o1 o2 10 U) x.v O
theorem E4.dA(S:E4 lo hi g gc gq gt gs c ns rs W)(x:Pt)(hok:({c with pt:=x}:EA).ok):E4 lo hi g gc gq gt gs {c with pt:=x} ns rs (W.setCells gc 102 x.v)/\Ev lo hi W (W.setCells gc 102 x.v):=
 S.set (JX _ _ _) O O hok fun d0 d1 d2 hd K o0 o1 o2=>K.set 11 rfl (J4 (Jj g) o0 o1 o2 11 U) x.v O
theorem aE(C:Jz lo g gc gq gt c w)(k:Nat){old:List M}(ho:coreC (EH 56 g).toList c gq gt k=X old)(n:Nat)(hn:n<=old.length):w.there gc (hZ k) n:=by
 obtain⟨d0,d1,d2,hd,KG,o0,o1,o2,-,-⟩:=C.Em
 have hk:k<13:=by
  rcases Nat.lt_or_ge k 13 with h|h;·exact h
  ·unfold coreC at ho;split at ho<;>first|omega|cases ho
 refine KG.there k (old:=old) ?_ (J4 (Jj g) o0 o1 o2 k hk) n hn;unfold coreC at ho;split at ho<;>first|exact ho|cases ho
theorem oD(C:Jz lo g gc gq gt c w)(i:Nat):w.frozen? ⟨gc,i,Z⟩=Y:=by obtain⟨d0,d1,d2,hd,KG,-⟩:=C.Em;exact KG.Jw i
theorem aD(C:Jz lo g gc gq gt c w): ∃big:Array M,D w gc big 120/\ ∀(k:Nat) (old:List M),coreC (EH 56 g).toList c gq gt k=X old->big.extract (hZ k) (hZ k+old.length)=old.toArray:=by
 obtain⟨d0,d1,d2,hd,KG,o0,o1,o2,-,-⟩:=C.Em;refine⟨_,KG,fun k old ho=> ?_⟩
 have hk:k<13:=by
  rcases Nat.lt_or_ge k 13 with h|h;·exact h
  ·unfold coreC at ho;split at ho<;>first|omega|cases ho
 refine OZ.extract k (old:=old) ?_ (J4 (Jj g) o0 o1 o2 k hk) _ O;unfold coreC at ho;split at ho<;>first|exact ho|cases ho
theorem EZ8(c0 a0 a1 a2 a3 n0 n1 n2 n3 r0 s0 q0 r s q:Int)(w:H): Ef EJ 144 #[EU #[E I c0,E I a0,E I a1,E I a2,E I a3,E I n0,E I n1,E I n2,E I n3,E I r0,E I s0,E I q0],EU #[E I r,E I s,E I q]] w fun e w'=>e=Eg (EU #[E I c0,E I 0,E I 0,E I 0,E I 0,E I n0,E I n1,E I n2,E I n3,E I r,E I s,E I q])/\Eh w w':=by go_enter Tryz.func144,Tryz.ntmps144;go_wp2_with fail;refine EQ (v:=EU #[E I c0,E I 0,E I 0,E I 0,E I 0,E I n0,E I n1,E I n2,E I n3,E I r,E I s,E I q]) (by simp[results,Tryz.results144,go_sem]) O ⟨O,?_⟩;exact Eh7
theorem EZ9(g:Nat->M)(m:Int)(hm:g 50=E I m)(h0:0<=m/\m<=32767)(c0 a0 a1 a2 a3 n0 n1 n2 n3 r0 s0 q0 r s q:Int)(x0 x1 x2 x3:Int)(w:H): Ef EJ 139 #[EU (EH 56 g),EU #[E I c0,E I a0,E I a1,E I a2,E I a3,E I n0,E I n1,E I n2,E I n3,E I r0,E I s0,E I q0],E I 0,EU #[E I x0,E I x1,E I x2,E I x3],EU #[E I r,E I s,E I q]] w fun e w'=>e=Eg (EU #[E I 0,E I (JL x0 (-m) m),E I (JL x1 (-m) m),E I (JL x2 (-m) m),E I (JL x3 (-m) m),E I n0,E I n1,E I n2,E I n3,E I r,E I s,E I q])/\Eh w w':=by have j0: ∀w,(Instr.index 25 (EU #[E I x0,E I x1,E I x2,E I x3]) (E I 0)).run EJ w= .ok (E I x0) w:=fun _=>Ec;have j1: ∀w,(Instr.index 25 (EU #[E I x0,E I x1,E I x2,E I x3]) (E I 1)).run EJ w= .ok (E I x1) w:=fun _=>Ec;have j2: ∀w,(Instr.index 25 (EU #[E I x0,E I x1,E I x2,E I x3]) (E I 2)).run EJ w= .ok (E I x2) w:=fun _=>Ec;have j3: ∀w,(Instr.index 25 (EU #[E I x0,E I x1,E I x2,E I x3]) (E I 3)).run EJ w= .ok (E I x3) w:=fun _=>Ec;have hl:(50:Nat)<56:=U;have hneg:IntKind.i64.wrap (-m)= -m:=nz;go_enter Tryz.func139,Tryz.ntmps139;go_wp2_with fail;refine wp_loop_rounds 5 ?_;(iterate 2 rw[Ib];go_wp2_with (go_at_call 184;(with_reducible refine(Xb _ _ _ _).mono ?_);rintro e w1 ⟨rfl,rfl⟩));(iterate 2 rw[Ib];go_wp2_with (go_at_call 184;(with_reducible refine(Xb _ _ _ _).mono ?_);rintro e w1 ⟨rfl,rfl⟩));rw[Ib];go_wp2_with (go_at_call 184;(with_reducible refine(Xb _ _ _ _).mono ?_);rintro e w1 ⟨rfl,rfl⟩);refine EQ (v:=EU #[E I 0,E I (JL x0 (-m) m),E I (JL x1 (-m) m),E I (JL x2 (-m) m),E I (JL x3 (-m) m),E I n0,E I n1,E I n2,E I n3,E I r,E I s,E I q]) xr O ⟨O,?_⟩;exact Eh7
theorem EZ_(g:Nat->M)(m:Int)(hm:g 51=E I m)(h0:0<=m/\m<=32767)(c0 a0 a1 a2 a3 n0 n1 n2 n3 r0 s0 q0 r s q:Int)(x0 x1 x2 x3:Int)(w:H): Ef EJ 139 #[EU (EH 56 g),EU #[E I c0,E I a0,E I a1,E I a2,E I a3,E I n0,E I n1,E I n2,E I n3,E I r0,E I s0,E I q0],E I 1,EU #[E I x0,E I x1,E I x2,E I x3],EU #[E I r,E I s,E I q]] w fun e w'=>e=Eg (EU #[E I 1,E I (JL x0 (-m) m),E I (JL x1 (-m) m),E I (JL x2 (-m) m),E I (JL x3 (-m) m),E I n0,E I n1,E I n2,E I n3,E I r,E I s,E I q])/\Eh w w':=by have j0: ∀w,(Instr.index 25 (EU #[E I x0,E I x1,E I x2,E I x3]) (E I 0)).run EJ w= .ok (E I x0) w:=fun _=>Ec;have j1: ∀w,(Instr.index 25 (EU #[E I x0,E I x1,E I x2,E I x3]) (E I 1)).run EJ w= .ok (E I x1) w:=fun _=>Ec;have j2: ∀w,(Instr.index 25 (EU #[E I x0,E I x1,E I x2,E I x3]) (E I 2)).run EJ w= .ok (E I x2) w:=fun _=>Ec;have j3: ∀w,(Instr.index 25 (EU #[E I x0,E I x1,E I x2,E I x3]) (E I 3)).run EJ w= .ok (E I x3) w:=fun _=>Ec;have hl:(51:Nat)<56:=U;have hneg:IntKind.i64.wrap (-m)= -m:=nz;go_enter Tryz.func139,Tryz.ntmps139;go_wp2_with fail;refine wp_loop_rounds 5 ?_;(iterate 2 rw[Ib];go_wp2_with (go_at_call 184;(with_reducible refine(Xb _ _ _ _).mono ?_);rintro e w1 ⟨rfl,rfl⟩));(iterate 2 rw[Ib];go_wp2_with (go_at_call 184;(with_reducible refine(Xb _ _ _ _).mono ?_);rintro e w1 ⟨rfl,rfl⟩));rw[Ib];go_wp2_with (go_at_call 184;(with_reducible refine(Xb _ _ _ _).mono ?_);rintro e w1 ⟨rfl,rfl⟩);refine EQ (v:=EU #[E I 1,E I (JL x0 (-m) m),E I (JL x1 (-m) m),E I (JL x2 (-m) m),E I (JL x3 (-m) m),E I n0,E I n1,E I n2,E I n3,E I r,E I s,E I q]) xr O ⟨O,?_⟩;exact Eh7
theorem EaE(g:Nat->M)(m:Int)(hm:g 52=E I m)(h0:0<=m/\m<=32767)(c0 a0 a1 a2 a3 n0 n1 n2 n3 r0 s0 q0 r s q:Int)(x0 x1 x2 x3:Int)(w:H): Ef EJ 139 #[EU (EH 56 g),EU #[E I c0,E I a0,E I a1,E I a2,E I a3,E I n0,E I n1,E I n2,E I n3,E I r0,E I s0,E I q0],E I 2,EU #[E I x0,E I x1,E I x2,E I x3],EU #[E I r,E I s,E I q]] w fun e w'=>e=Eg (EU #[E I 2,E I (JL x0 (-m) m),E I (JL x1 (-m) m),E I (JL x2 (-m) m),E I (JL x3 (-m) m),E I n0,E I n1,E I n2,E I n3,E I r,E I s,E I q])/\Eh w w':=by have j0: ∀w,(Instr.index 25 (EU #[E I x0,E I x1,E I x2,E I x3]) (E I 0)).run EJ w= .ok (E I x0) w:=fun _=>Ec;have j1: ∀w,(Instr.index 25 (EU #[E I x0,E I x1,E I x2,E I x3]) (E I 1)).run EJ w= .ok (E I x1) w:=fun _=>Ec;have j2: ∀w,(Instr.index 25 (EU #[E I x0,E I x1,E I x2,E I x3]) (E I 2)).run EJ w= .ok (E I x2) w:=fun _=>Ec;have j3: ∀w,(Instr.index 25 (EU #[E I x0,E I x1,E I x2,E I x3]) (E I 3)).run EJ w= .ok (E I x3) w:=fun _=>Ec;have hl:(52:Nat)<56:=U;have hneg:IntKind.i64.wrap (-m)= -m:=nz;go_enter Tryz.func139,Tryz.ntmps139;go_wp2_with fail;refine wp_loop_rounds 5 ?_;(iterate 2 rw[Ib];go_wp2_with (go_at_call 184;(with_reducible refine(Xb _ _ _ _).mono ?_);rintro e w1 ⟨rfl,rfl⟩));(iterate 2 rw[Ib];go_wp2_with (go_at_call 184;(with_reducible refine(Xb _ _ _ _).mono ?_);rintro e w1 ⟨rfl,rfl⟩));rw[Ib];go_wp2_with (go_at_call 184;(with_reducible refine(Xb _ _ _ _).mono ?_);rintro e w1 ⟨rfl,rfl⟩);refine EQ (v:=EU #[E I 2,E I (JL x0 (-m) m),E I (JL x1 (-m) m),E I (JL x2 (-m) m),E I (JL x3 (-m) m),E I n0,E I n1,E I n2,E I n3,E I r,E I s,E I q]) xr O ⟨O,?_⟩;exact Eh7
theorem EaI(g:Nat->M)(m:Int)(hm:g 53=E I m)(h0:0<=m/\m<=32767)(c0 a0 a1 a2 a3 n0 n1 n2 n3 r0 s0 q0 r s q:Int)(x0 x1 x2 x3:Int)(w:H): Ef EJ 139 #[EU (EH 56 g),EU #[E I c0,E I a0,E I a1,E I a2,E I a3,E I n0,E I n1,E I n2,E I n3,E I r0,E I s0,E I q0],E I 3,EU #[E I x0,E I x1,E I x2,E I x3],EU #[E I r,E I s,E I q]] w fun e w'=>e=Eg (EU #[E I 3,E I (JL x0 (-m) m),E I (JL x1 (-m) m),E I (JL x2 (-m) m),E I (JL x3 (-m) m),E I n0,E I n1,E I n2,E I n3,E I r,E I s,E I q])/\Eh w w':=by have j0: ∀w,(Instr.index 25 (EU #[E I x0,E I x1,E I x2,E I x3]) (E I 0)).run EJ w= .ok (E I x0) w:=fun _=>Ec;have j1: ∀w,(Instr.index 25 (EU #[E I x0,E I x1,E I x2,E I x3]) (E I 1)).run EJ w= .ok (E I x1) w:=fun _=>Ec;have j2: ∀w,(Instr.index 25 (EU #[E I x0,E I x1,E I x2,E I x3]) (E I 2)).run EJ w= .ok (E I x2) w:=fun _=>Ec;have j3: ∀w,(Instr.index 25 (EU #[E I x0,E I x1,E I x2,E I x3]) (E I 3)).run EJ w= .ok (E I x3) w:=fun _=>Ec;have hl:(53:Nat)<56:=U;have hneg:IntKind.i64.wrap (-m)= -m:=nz;go_enter Tryz.func139,Tryz.ntmps139;go_wp2_with fail;refine wp_loop_rounds 5 ?_;(iterate 2 rw[Ib];go_wp2_with (go_at_call 184;(with_reducible refine(Xb _ _ _ _).mono ?_);rintro e w1 ⟨rfl,rfl⟩));(iterate 2 rw[Ib];go_wp2_with (go_at_call 184;(with_reducible refine(Xb _ _ _ _).mono ?_);rintro e w1 ⟨rfl,rfl⟩));rw[Ib];go_wp2_with (go_at_call 184;(with_reducible refine(Xb _ _ _ _).mono ?_);rintro e w1 ⟨rfl,rfl⟩);refine EQ (v:=EU #[E I 3,E I (JL x0 (-m) m),E I (JL x1 (-m) m),E I (JL x2 (-m) m),E I (JL x3 (-m) m),E I n0,E I n1,E I n2,E I n3,E I r,E I s,E I q]) xr O ⟨O,?_⟩;exact Eh7
theorem cF:ID EJ 36 3:=⟨⟨_,Tryz.underlying36,O⟩,Ec⟩
theorem fS:ID EJ 50 12:=⟨⟨_,Tryz.underlying50,O⟩,Ec⟩
theorem EA.ok.ZZ(h:c.ok)(ht:t.ok):({c with tok:=t}:EA).ok:=⟨ht,h.T,h.q,h.ones,h.src,h.nd,h.bU,h.fK,h.mode,h.El,h.pt,h.E3⟩
theorem ju(lo hi:Nat)(g:Nat->M)(gc gq gt gs:Nat)(c:EA)(ns:Nat)(rs:List Rec)(t:EL)(how n:Int)(w:H)(S:E4 lo hi g gc gq gt gs c ns rs w)(ht:t.ok)(hn:ns<900000)(hl:rs.length<900000): Ef EJ 97 #[V (X ⟨gs,0,Z⟩),t.a,E I how,E I n] w fun e w'=>e=Eg (Es #[])/\(∃L' m,m<=2/\O4 L' c.q/\E4 lo hi g gc gq gt gs {c with tok:=t,q:=L'} (ns+m) (rs++[⟨8,t.h,n,t.e,0,how⟩]) w')/\Ev lo hi w w':=by
 obtain⟨tv,IE,TS,TO,X0,cC⟩: ∃tv,t.a=EU tv/\Ea (tv.size=8)/\Ea (tv.all (·.oneCell')=G)/\Ea (tv.toList=t.v)/\Ea (∀W g,D W g tv 109->W.cell? ⟨g,0,Z⟩=X (E I t.h)/\W.cell? ⟨g,1,Z⟩=X (E I t.e)):=⟨_,O,J O,J (bR _ _ _ _ _ _ _ _),J O,J fun W g K=>⟨(D.cell K 0).trans O,(D.cell K 1).trans O⟩⟩;rw[IE];have hH:=J S;have HT:=J ht;have HN:=J hn;have HL:=J hl;clear S ht hn hl IE;obtain⟨h2,Qj⟩:=En t.h;obtain⟨e2,he2⟩:=En t.e;rw[<-Qj,<-he2] at cC⊢;replace he2:=J he2;clear Qj;have BR1:Tryz.prog.built 222 [(0,E I 134),(3,E I h2),(4,E I e2)]=X (IW [134,0,0,h2,e2,0,0,0,0,0,0,0,0,0]):=Ec;have BR2:Tryz.prog.built 222 [(0,E I 133),(4,E I e2)]=X (IW [133,0,0,0,e2,0,0,0,0,0,0,0,0,0]):=Ec;go_enter Tryz.func97,Tryz.ntmps97;have KT:=J<|D.new w tv 109;have b1:=Eo w (EI tv 109);have S1:=J<|hH.out.B b1;have MM:=J<|Ev.Eu (lo:=lo) (hi:=hi) b1;go_wp2_with fail;clear b1;generalize w.alloc (EI tv 109)=w1 at*;obtain⟨gk,Xx⟩:=En w.heap.size;rw[<-Xx] at KT⊢;clear Xx;have y0: ∀y:Ext w1,(Ex w1 y).cell? ⟨gs,0,Z⟩=X (V (X ⟨gc,0,Z⟩)):=fun y=>(S1.out.B (EC y)).Iu;have y1: ∀y:Ext w1,(Ex w1 y).cell? ⟨gc,56,Z⟩=X (E I c.tok.h):=fun y=>(S1.out.B (EC y)).core.cell 1 rfl 0 XW;have y2: ∀y:Ext w1,(Ex w1 y).cell? ⟨gk,0,Z⟩=X (E I h2):=fun y=>(cC.out _ _ (D.B KT.out (EC y))).1;refine Uv Ec Ec ?_
 repeat (first
  |go_big_quiet_skip
  |(go_big_quiet_want
    first
     |(go_big_quiet_op
       first
        |go_big_quiet_on
        |go_big_quiet_call (fail))))
 refine wpQuiet_nil ?_;intro _ hw';obtain⟨y9,rfl⟩:=hw';have El:=EC y9;replace KT:=EN KT El;replace S1:=J<|S1.out.B El;replace MM:=J<|MM.out.trans (Ev.Eu El);clear y0 y1 y2 El;generalize Ex w1 y9=w2 at*;go_wp2_with fail;have y0: ∀y:Ext w2,(Ex w2 y).cell? ⟨gs,0,Z⟩=X (V (X ⟨gc,0,Z⟩)):=fun y=>(S1.out.B (EC y)).Iu;refine JB 7 Ec Ec ?_;simp only[Il,Ij,Iz,Ix]
 repeat (first
  |go_big_quiet_skip
  |(go_big_quiet_want
    first
     |(refine Oj (T:=109) (g:=gk) EP _ rfl rfl KT ?_ ?_;(·exact TS.out);go_simp;go_big_quiet_on)
     |(go_big_quiet_op
       first
        |go_big_quiet_on
        |go_big_quiet_call (fail))))
 refine wpQuiet_nil ?_;intro _ hw';obtain⟨y9,rfl⟩:=hw';have El:=EC y9;replace KT:=EN KT El;replace S1:=J<|S1.out.B El;replace MM:=J<|MM.out.trans (Ev.Eu El);clear y0 El;generalize Ex w2 y9=w3 at*;have TH:=J<|aE S1.out.core 1 rfl 8 XW;go_wp2_with ((with_reducible refine JI 109 ?_);(with_reducible refine wpList_store_mid O 109 _ _ O gc 56 tv ?_ ?_ ?_ ?_ ?_ ?_);(·rfl);(·rfl);(·rw[TS.out];exact TH.out);(·rw[TS.out];exact EP.2);(·exact TO.out);refine Ed.mk ?_);refine Ed.in ?_;rw[X0.out];have S4:=S1.out.ZZ t (S1.out.core.ok.ZZ HT.out);obtain⟨d0,d1,d2,hd,KG,-⟩:=S1.out.core.Em;replace KT:=J<|(JX (g:=gc) t.v 56 w3).Em KT.out (E7 KT.out KG EZ);replace S1:=J S4.1;replace MM:=J<|MM.out.trans S4.2;clear S4 TH KG;generalize w3.setCells gc 56 t.v=w4 at*;have z0:=S1.out.Iu;have z64:w4.cell? ⟨gc,64,Z⟩=X (V (X ⟨gq,0,Z⟩)):=S1.out.core.cell 2 rfl 0 Ek;go_wp2_with fail;(with_reducible refine(lQ lo gq c.q (pn g 48) h2 _ S1.out.core.lq S1.out.core.XV S1.out.core.ok.q).mono ?_);rintro e5 w5 ⟨⟨b5,rfl⟩,⟨L',q5,sq⟩,m5⟩;replace KT:=J<|m5.Em KT.out EZ EZ;replace S1:=J<|S1.out.cD m5 L' q5 (S1.out.core.ok.sub sq);replace MM:=J<|MM.out.trans (m5.fM hi);have SQ:=J sq;clear m5 q5 sq z0 z64;have c1:=(cC.out _ _ KT.out).2;go_wp2_with ((with_reducible refine In 41 ?_);refine IP O 222 _ O (IW [134,0,0,h2,e2,0,0,0,0,0,0,0,0,0]) BR1 ?_);(with_reducible refine(xa lo hi g gc gq gt gs _ ns rs [134,0,0,h2,e2,0,0,0,0,0,0,0,0,0] c.tok.h _ S1.out (lK _ _ _ _ _ _) JP).mono ?_);rintro e6 w6 ⟨rfl,⟨m1,hm1,s6⟩,m6⟩;replace KT:=J<|m6.Em KT.out EZ EZ;replace S1:=J s6;replace MM:=J<|MM.out.trans m6;have fT:=J hm1;clear m6 s6 hm1 c1;have c1:=(cC.out _ _ KT.out).2;go_wp2_with ((with_reducible refine In 47 ?_);refine IP O 222 _ O (IW [133,0,0,0,e2,0,0,0,0,0,0,0,0,0]) BR2 ?_);(with_reducible refine(xa lo hi g gc gq gt gs _ (ns+m1) rs [133,0,0,0,e2,0,0,0,0,0,0,0,0,0] h2 _ S1.out (lK _ _ _ _ _ _) sh).mono ?_);rintro e7 w7 ⟨rfl,⟨m2,hm2,s7⟩,m7⟩;replace S1:=J s7;replace MM:=J<|MM.out.trans m7;have fV:=J hm2;clear m7 s7 hm2 c1 KT;go_wp2_with fail;(with_reducible refine(Xs lo hi g gc gq gt gs _ (ns+m1+m2) rs 8 h2 n 0 how _ S1.out Ju).mono ?_);rintro e8 w8 ⟨rfl,s8,m8⟩;have S8:=J s8;replace MM:=J<|MM.out.trans m8;clear m8 s8;go_wp2_with fail;go_end0;refine⟨O,⟨L',m1+m2,by have:=fT.out;have:=fV.out;omega,SQ.out,?_⟩,MM.out⟩;rw[he2.out,<-Nat.add_assoc];exact S8.out
theorem EaU(h:t.ok)(s:Int):(t.drop s).1.ok:=by
 unfold EL.drop;split;·exact h
 ·exact⟨h.h,h.e,br,br,br,h.la,h.lm,br⟩
theorem Qk(lo hi:Nat)(g:Nat->M)(gc gq gt gs:Nat)(c:EA)(ns:Nat)(rs:List Rec)(s:Int)(w:H)(S:E4 lo hi g gc gq gt gs c ns rs w)(hn:ns<900000)(hl:rs.length<900000): Ef EJ 103 #[V (X ⟨gs,0,Z⟩),E I s] w fun e w'=>e=Eg (Es #[])/\(∃L' m,m<=2/\O4 L' c.q/\E4 lo hi g gc gq gt gs {c with tok:=(c.tok.drop s).1,q:=L'} (ns+m) (rs++if(c.tok.drop s).2 then [⟨12,s,0,c.tok.e,16,0⟩] else []) w')/\Ev lo hi w w':=by
 have S1:=J S;have HN:=J hn;have HL:=J hl;have MM:=J<|Ev.refl lo hi w;clear S hn hl;obtain⟨N,hN⟩:=En (if(c.tok.drop s).2 then [⟨12,s,0,c.tok.e,16,0⟩] else []:List Rec);rw[<-hN];replace hN:=J hN;have z0:=S1.out.Iu;have z64:w.cell? ⟨gc,64,Z⟩=X (V (X ⟨gq,0,Z⟩)):=S1.out.core.cell 2 rfl 0 Ek;go_enter Tryz.func103,Tryz.ntmps103;go_wp2_with fail;(with_reducible refine(lQ lo gq c.q (pn g 48) s _ S1.out.core.lq S1.out.core.XV S1.out.core.ok.q).mono ?_);rintro e5 w5 ⟨⟨b5,rfl⟩,⟨L',q5,sq⟩,m5⟩;replace S1:=J<|S1.out.cD m5 L' q5 (S1.out.core.ok.sub sq);replace MM:=J<|MM.out.trans (m5.fM hi);have SQ:=J sq;clear m5 q5 sq z0 z64;have z0:=S1.out.Iu;obtain⟨big,KB,OY⟩:=aD S1.out.core;have KB:=J KB;have EX:=J<|OY 1 c.tok.v O;have CD:=J<|fun W=>Yi c.tok s W;obtain⟨Ik,OD,Un,TO0⟩:=Xw c.tok;have aF:Ea (big.extract 56 (56+8)=Ik):=J (by have e:=EX.out;have h:=OD;unfold EL.a at h;injection h with h;rw[<-h];exact e);rw[OD] at CD;have Un:=J Un;clear OY EX OD;go_wp2_with (with_reducible refine wM (off:=56) (cs:=Ik) EP KB ?_ (hn:=Un.out) (he:=aF.out));(with_reducible refine(CD.out _).mono ?_);rintro e6 w6 ⟨rfl,b6⟩;replace S1:=J<|S1.out.B b6;replace MM:=J<|MM.out.trans (Ev.Eu b6);clear b6 z0 KB;have Ql:=J<|EaU S1.out.core.ok.tok s;have HD1:Ea ((c.tok.drop s).2=Y->(c.tok.drop s).1=c.tok):=J (by unfold EL.drop;split;exact fun _=>rfl;intro h;cases h);have Qm:Ea ((c.tok.drop s).1.e=c.tok.e):=J (by unfold EL.drop;split<;>rfl);obtain⟨t,ht⟩:=En ((c.tok.drop s).1);rw[<-ht] at Ql HD1 Qm⊢;have HT:=J ht;clear ht;obtain⟨tv,IE,TS,TO,X0,cC⟩: ∃tv,t.a=EU tv/\Ea (tv.size=8)/\Ea (tv.all (·.oneCell')=G)/\Ea (tv.toList=t.v)/\Ea (∀W g,D W g tv 109->W.cell? ⟨g,0,Z⟩=X (E I t.h)/\W.cell? ⟨g,1,Z⟩=X (E I t.e)):=⟨_,O,J O,J (bR _ _ _ _ _ _ _ _),J O,J fun W g K=>⟨(D.cell K 0).trans O,(D.cell K 1).trans O⟩⟩;rw[IE];go_wp2_with (with_reducible refine aT 109 ?_);refine Ed.in ?_;generalize hW:World.alloc _ _=w7 at*;have KT:Ea (D w7 (w6.heap.size) #[E I 0,E I 0,E I 0,E I 0,E I 0,E I 0,E I 0,Eb Y] 109):=J (by subst hW;repeat (first|exact D.new _ _ _|exact D.new' _ _ _ Ek|refine D.alloc ?_ _));have b7:Ea (Eh w6 w7):=J Qn;clear hW;obtain⟨gk,Xx⟩:=En w6.heap.size;rw[<-Xx] at KT⊢;have LK:=J (show w6.heap.size<=gk from U);clear Xx;go_wp2_with (with_reducible refine wS (cs:=tv) EP KT (Ed.mk ?_) (hn:=TS.out) (h1:=TO.out));refine Ed.in ?_;replace KT:=J<|KT.out.setRow tv;replace b7:=J<|E2 (g:=gk) b7.out LK.out tv;generalize w7.setRow gk tv=w8 at*;replace S1:=J<|S1.out.B b7.out;replace MM:=J<|MM.out.trans (Ev.Eu b7.out);clear b7 LK;cases hop:(c.tok.drop s).2 with
 |false=>
  have xt:=J hop;clear hop;go_wp2_with fail;refine EQ (results_none O _ _ _) O ?_;refine⟨O,⟨L',0,U,SQ.out,?_⟩,MM.out⟩;have e1:(c.tok.drop s).1=c.tok:=HT.out.symm.trans (HD1.out xt.out);have eN:N=[]:=by rw[hN.out,xt.out];rfl
  rw[e1,eN,List.append_nil];exact S1.out
 |true=>
  have xt:=J hop;clear hop;go_wp2_with fail;have y0: ∀y:Ext w8,(Ex w8 y).cell? ⟨gs,0,Z⟩=X (V (X ⟨gc,0,Z⟩)):=fun y=>(S1.out.B (EC y)).Iu;refine JB 7 Ec Ec ?_;simp only[Il,Ij,Iz,Ix]
  repeat (first
   |go_big_quiet_skip
   |(go_big_quiet_want
     first
      |(refine Oj (T:=109) (g:=gk) EP _ rfl rfl KT ?_ ?_;(·exact TS.out);go_simp;go_big_quiet_on)
      |(go_big_quiet_op
        first
         |go_big_quiet_on
         |go_big_quiet_call (fail))))
  refine wpQuiet_nil ?_;intro _ hw';obtain⟨y9,rfl⟩:=hw';have El:=EC y9;replace KT:=EN KT El;replace S1:=J<|S1.out.B El;replace MM:=J<|MM.out.trans (Ev.Eu El);clear y0 El;generalize Ex w8 y9=w9 at*;have TH:=J<|aE S1.out.core 1 rfl 8 XW;go_wp2_with ((with_reducible refine JI 109 ?_);(with_reducible refine wpList_store_mid O 109 _ _ O gc 56 tv ?_ ?_ ?_ ?_ ?_ ?_);(·rfl);(·rfl);(·rw[TS.out];exact TH.out);(·rw[TS.out];exact EP.2);(·exact TO.out);refine Ed.mk ?_);refine Ed.in ?_;rw[X0.out];have S4:=S1.out.ZZ t (S1.out.core.ok.ZZ Ql.out);obtain⟨d0,d1,d2,hd,KG,-⟩:=S1.out.core.Em;replace KT:=J<|(JX (g:=gc) t.v 56 w9).Em KT.out (E7 KT.out KG EZ);replace S1:=J S4.1;replace MM:=J<|MM.out.trans S4.2;clear S4 TH KG;generalize w9.setCells gc 56 t.v=UD at*;have c0:=(cC.out _ _ KT.out).1;go_wp2_with fail;(with_reducible refine(lL lo hi g gc gq gt gs _ ns rs t.h s 16 _ S1.out JP).mono ?_);rintro e11 Zn ⟨rfl,⟨m1,hm1,s11⟩,m11⟩;replace S1:=J s11;replace MM:=J<|MM.out.trans m11;have fT:=J hm1;clear m11 s11 hm1 c0 KT;go_wp2_with fail;(with_reducible refine(Xs lo hi g gc gq gt gs _ (ns+m1) rs 12 s 0 16 0 _ S1.out Ju).mono ?_);rintro e12 Xz ⟨rfl,s12,m12⟩;have S8:=J s12;replace MM:=J<|MM.out.trans m12;clear m12 s12;go_wp2_with fail;go_end0;refine⟨O,⟨L',m1,oF,SQ.out,?_⟩,MM.out⟩;have eN:N=[⟨12,s,0,t.e,16,0⟩]:=by rw[hN.out,xt.out,Qm.out];rfl
  rw[<-HT.out,eN];exact S8.out
theorem EA.ok.sf(h:c.ok)(hm:0<=m/\m<=4):({c with mode:=m}:EA).ok:=⟨h.tok,h.T,h.q,h.ones,h.src,h.nd,h.bU,h.fK,hm,h.El,h.pt,h.E3⟩
theorem EA.ok.sg(h:c.ok){b:Oa}(hb:b.ok):({c with El:=b}:EA).ok:=⟨h.tok,h.T,h.q,h.ones,h.src,h.nd,h.bU,h.fK,h.mode,hb,h.pt,h.E3⟩
theorem EA.ok.dA(h:c.ok)(hp:p.ok):({c with pt:=p}:EA).ok:=⟨h.tok,h.T,h.q,h.ones,h.src,h.nd,h.bU,h.fK,h.mode,h.El,hp,h.E3⟩
def Pt.hold(p:Pt)(b:Oa):Pt:=⟨p.c,0,0,0,0,p.n0,p.n1,p.n2,p.n3,b⟩
theorem Pt.ok.hold(h:p.ok)(b:Oa):(p.hold b).ok:=⟨h.c,xu,xu,xu,xu,h.n0,h.n1,h.n2,h.n3⟩
theorem xw(lo hi:Nat)(g:Nat->M)(gc gq gt gs:Nat)(c:EA)(ns:Nat)(rs:List Rec)(m:Int)(b:Oa)(w:H)(S:E4 lo hi g gc gq gt gs c ns rs w)(hm:0<=m/\m<=4)(hb:b.ok): Ef EJ 100 #[V (X ⟨gs,0,Z⟩),E I m,EU #[E I b.r,E I b.s,E I b.q]] w fun e w'=>e=Eg (Es #[])/\E4 lo hi g gc gq gt gs {c with mode:=m,El:=b,pt:=c.pt.hold b} ns rs w'/\Ev lo hi w w':=by
 have hH:=J S;have HM:=J hm;have HB:=J hb;have KL:=J<|D.new w #[E I b.r,E I b.s,E I b.q] 36;have b1:=Eo w (EI #[E I b.r,E I b.s,E I b.q] 36);have S1:=J<|hH.out.B b1;have MM:=J<|Ev.Eu (lo:=lo) (hi:=hi) b1;have CH:Ea (∀W,Ef EJ 144 #[EU c.pt.v.toArray,EU #[E I b.r,E I b.s,E I b.q]] W fun e w'=>e=Eg (EU (c.pt.hold b).v.toArray)/\Eh W w'):=J<|fun W=>EZ8 c.pt.c c.pt.a0 c.pt.a1 c.pt.a2 c.pt.a3 c.pt.n0 c.pt.n1 c.pt.n2 c.pt.n3 c.pt.b.r c.pt.b.s c.pt.b.q b.r b.s b.q W;clear S hm hb;go_enter Tryz.func100,Tryz.ntmps100;go_wp2_with (with_reducible refine I2 9 ?_);refine Ed.in ?_;clear b1;generalize w.alloc (EI #[E I b.r,E I b.s,E I b.q] 36)=w1 at*;obtain⟨gl,hgl⟩:=En w.heap.size;rw[<-hgl] at KL⊢;clear hgl;have z0:=S1.out.Iu;have zm:w1.cell? ⟨gc,98,Z⟩=X (E I c.mode):=S1.out.core.cell 9 rfl 0 Ek;have zf:=oD S1.out.core 98;go_wp2_with fail;have S4:=S1.out.sf m (S1.out.core.ok.sf HM.out);obtain⟨d0,d1,d2,hd,KG,-⟩:=S1.out.core.Em;replace KL:Ea (D (w1.setCell ⟨gc,98,Z⟩ (E I m)) gl #[E I b.r,E I b.s,E I b.q] 36):=J<|(OH (g:=gc) (W:=w1) 98 (E I m)).Em KL.out (E7 KL.out KG EZ);replace S1:Ea (E4 lo hi g gc gq gt gs {c with mode:=m} ns rs (w1.setCell ⟨gc,98,Z⟩ (E I m))):=J S4.1;replace MM:Ea (Ev lo hi w (w1.setCell ⟨gc,98,Z⟩ (E I m))):=J<|MM.out.trans S4.2;clear S4 z0 zm zf KG;generalize w1.setCell ⟨gc,98,Z⟩ (E I m)=w2 at*;have y0: ∀y:Ext w2,(Ex w2 y).cell? ⟨gs,0,Z⟩=X (V (X ⟨gc,0,Z⟩)):=fun y=>(S1.out.B (EC y)).Iu;refine JB 7 Ec Ec ?_;simp only[Il,Ij,Iz,Ix]
 repeat (first
  |go_big_quiet_skip
  |(go_big_quiet_want
    first
     |(refine Oj (T:=36) (g:=gl) cF _ rfl rfl KL ?_ ?_;(·rfl);go_simp;go_big_quiet_on)
     |(go_big_quiet_op
       first
        |go_big_quiet_on
        |go_big_quiet_call (fail))))
 refine wpQuiet_nil ?_;intro _ hw';obtain⟨y9,rfl⟩:=hw';have El:=EC y9;replace KL:=EN KL El;replace S1:=J<|S1.out.B El;replace MM:=J<|MM.out.trans (Ev.Eu El);clear y0 El;generalize Ex w2 y9=w3 at*;have TH:=J<|aE S1.out.core 10 rfl 3 (by simp[Oa.v]);go_wp2_with ((with_reducible refine JI 36 ?_);(with_reducible refine wpList_store_mid O 36 _ _ O gc 99 #[E I b.r,E I b.s,E I b.q] ?_ ?_ ?_ ?_ ?_ ?_);(·rfl);(·rfl);(·exact TH.out);(·exact cF.2);(·simp[Value.oneCell']);refine Ed.mk ?_);refine Ed.in ?_;have S4:=S1.out.sg b (S1.out.core.ok.sg HB.out);obtain⟨d0,d1,d2,hd,KG,-⟩:=S1.out.core.Em;replace KL:Ea (D (w3.setCells gc 99 b.v) gl #[E I b.r,E I b.s,E I b.q] 36):=J<|(JX (g:=gc) b.v 99 w3).Em KL.out (E7 KL.out KG EZ);replace S1:=J S4.1;replace MM:=J<|MM.out.trans S4.2;clear S4 TH KG;change wpList _ _ _ _ _ (w3.setCells gc 99 b.v);generalize w3.setCells gc 99 b.v=w4 at*;go_wp2_with fail;obtain⟨d0,d1,d2,hd,KG,o0,o1,o2,-,-⟩:=S1.out.core.Em;have HF:=J<|J4 (c:={c with mode:=m,El:=b}) (gq:=gq) (gt:=gt) (hd:=hd) (Jj g) o0 o1 o2 11 U;have KG:=J KG;clear o0 o1 o2;have y0: ∀y:Ext w4,(Ex w4 y).cell? ⟨gs,0,Z⟩=X (V (X ⟨gc,0,Z⟩)):=fun y=>(S1.out.B (EC y)).Iu;refine JB 15 Ec Ec ?_;simp only[Il,Ij,Iz,Ix]
 repeat (first
  |go_big_quiet_skip
  |(go_big_quiet_want
    first
     |(refine Oj (T:=36) (g:=gl) cF _ rfl rfl KL ?_ ?_;(·rfl);go_simp;go_big_quiet_on)
     |(refine Xa (T:=50) (g:=gc) (off:=102) fS _ rfl rfl KG 11 rfl HF.out rfl ?_;go_simp;go_big_quiet_on)
     |(go_big_quiet_op
       first
        |go_big_quiet_on
        |go_big_quiet_call (with_reducible refine X6 (CH.out _)))))
 refine wpQuiet_nil ?_;intro _ hw';obtain⟨y9,rfl⟩:=hw';have El:=EC y9;replace KL:=EN KL El;replace S1:=J<|S1.out.B El;replace MM:=J<|MM.out.trans (Ev.Eu El);clear y0 El KG HF;generalize Ex w4 y9=w5 at*;have TH:=J<|aE S1.out.core 11 rfl 12 sj;have dB:=J<|S1.out.core.ok.pt.hold b;go_wp2_with ((with_reducible refine JI 50 ?_);(with_reducible refine wpList_store_mid O 50 _ _ O gc 102 (c.pt.hold b).v.toArray ?_ ?_ ?_ ?_ ?_ ?_);(·rfl);(·rfl);(·exact TH.out);(·exact fS.2);(·simp[Pt.v,Value.oneCell']);refine Ed.mk ?_);refine Ed.in ?_;have S4:=S1.out.dA (c.pt.hold b) (S1.out.core.ok.dA dB.out);replace S1:=J S4.1;replace MM:=J<|MM.out.trans S4.2;clear S4 TH;change wpList _ _ _ _ _ (w5.setCells gc 102 (c.pt.hold b).v);generalize w5.setCells gc 102 (c.pt.hold b).v=w6 at*;go_wp2_with fail;go_end0;exact⟨O,S1.out,MM.out⟩
def EM.ia(T:EM)(s:Int):EM:=if s=1\/s=2\/s=3 then(if(T.ER (s-1).toNat).on then T.put (s-1).toNat JU else T) else T
theorem EM.EaX(h:T.ok)(s:Int):(T.ia s).ok:=by
 unfold EM.ia;split
 ·split;·exact h.put _ pS
  ·exact h
 ·exact h
theorem EM.EaZ(h:T.Uk)(s:Int):(T.ia s).Uk:=by
 unfold EM.ia;split
 ·split;·exact h.put _ ⟨EZ,EZ,EZ,EZ⟩
  ·exact h
 ·exact h
theorem Eaa{e:Ending}(h:qr T gt s w e w'):(∃b,e=Eg (Eb b))/\EV w' gt (T.ia s)/\EG gt w w':=by
 unfold qr at h;unfold EM.ia;obtain⟨h1,h2⟩:=h;split at h1
 ·rename_i h3;rw[if_pos h3];split at h1;·rename_i h4;rw[if_pos h4];exact⟨⟨_,h1.1⟩,h1.2,h2⟩
  ·rename_i h4;rw[if_neg h4];exact⟨⟨_,h1.1⟩,h1.2,h2⟩
 ·rename_i h3;rw[if_neg h3];exact⟨⟨_,h1.1⟩,h1.2,h2⟩
theorem EA.ok.sr(h:c.ok)(hT:T.ok)(hb:T.Uk):({c with T:=T}:EA).ok:=⟨h.tok,hT,h.q,h.ones,h.src,h.nd,h.bU,h.fK,h.mode,h.El,h.pt,hb⟩
theorem E4.su(S:E4 lo hi g gc gq gt gs c ns rs W)(ho:EG gt W W')(T:EM)(k:EV W' gt T)(hok:({c with T:=T}:EA).ok):E4 lo hi g gc gq gt gs {c with T:=T} ns rs W'/\Ev lo hi W W':=by
 obtain⟨d0,d1,d2,hd,kg,r⟩:=S.core.Em;obtain⟨sv,rv,sc,ks,r1,r2⟩:=S.bX;obtain⟨v,came,k2,q2,q3⟩:=S.core.XV;have kt:D W gt c.T.v.toArray 163:=S.core.tab;have hl:=ho.bel lo S.core.lt (Ey S.core.lt (Nat.le_of_lt kt.lt));refine⟨⟨⟨S.core.lo2,S.core.U8,hok,S.core.lc,S.core.lq,S.core.lt,⟨d0,d1,d2,hd,ho.Em kg (E7 kg kt EZ),r⟩,k,⟨v,came,ho.Em k2 (E7 k2 kt EZ),q2,EW q3 fun _ _ hk=>ho.Em hk (E7 hk kt EZ)⟩,fun i h1 h2=>(S.core.keys i h1 h2).Em fun _ _ hk=>ho.Em hk (E7 hk kt EZ),fun i hi=> ?_,fun i hi=> ?_⟩,S.hc,S.hq,S.ht,S.Z8,S.his,sv,rv,sc,ho.Em ks (E7 ks kt EZ),EW r1 fun _ _ hk=>ho.Em hk (E7 hk kt EZ),EW r2 fun _ _ hk=>ho.Em hk (E7 hk kt EZ)⟩,Ev.rB ho kt k EZ S.core.lt⟩;·rw[hl.cell (p:=⟨0,i,Z⟩) Qo];exact S.core.roots i hi
 ·rw[hl.cell (p:=⟨1,i,Z⟩) Qo];exact S.core.cmds i hi
theorem U_{gm:Nat}{l:List Int}(K:D W gm (ED l) 183)(i:Nat)(h:i<12)(h7:i≠7):W.cell? ⟨gm,i,Z⟩=X (E I (l.getD i 0)):=by rw[D.cell K,Xj l i h,if_neg h7]
theorem Eab(lo hi:Nat)(g:Nat->M)(gc gq gt gs:Nat)(c:EA)(ns:Nat)(rs:List Rec)(l:List Int)(k:Int)(w:H)(S:E4 lo hi g gc gq gt gs c ns rs w)(hn:ns<800000)(hl:rs.length<800000): Ef EJ 128 #[V (X ⟨gs,0,Z⟩),E I k,EU (ED l)] w fun e w'=>e=Eg (Es #[])/\E4 lo hi g gc gq gt gs c (ns+1) rs w'/\Ev lo hi w w':=by
 have S0:=J S;have HN:=J hn;have HL:=J hl;have KM:=J<|D.new w (ED l) 183;have b1:=Eo w (EI (ED l) 183);have S1:=J<|S0.out.B b1;have MM:=J<|Ev.Eu (lo:=lo) (hi:=hi) b1;obtain⟨v1,hv1⟩:=En (l.getD 1 0);have JW:Ea (∀W g,D W g (ED l) 183->W.cell? ⟨g,1,Z⟩=X (E I v1)):=J (fun W g K=>by rw[hv1];exact U_ K 1 U U);try rw[<-hv1]
 replace hv1:=J hv1;clear S hn hl S0;obtain⟨mv,hmv⟩:=En (ED l);rw[<-hmv] at KM b1 S1 MM JW⊢;clear hmv;go_enter Tryz.func128,Tryz.ntmps128;go_wp2_with (with_reducible refine I2 9 ?_);refine Ed.in ?_;clear b1;generalize w.alloc (EI mv 183)=w1 at*;obtain⟨gm,hgm⟩:=En w.heap.size;rw[<-hgm] at KM⊢;clear hgm;have c1:=JW.out _ _ KM.out;go_wp2_with fail;(with_reducible refine(fL lo hi g gc gq gt gs c ns rs k v1 _ S1.out JP).mono ?_);rintro e2 w2 ⟨rfl,s2,m2⟩;go_wp2_with fail;go_end0;exact⟨O,s2,MM.out.trans m2⟩
theorem Eac(lo hi:Nat)(g:Nat->M)(gc gq gt gs:Nat)(c:EA)(ns:Nat)(rs:List Rec)(l:List Int)(k:Int)(w:H)(S:E4 lo hi g gc gq gt gs c ns rs w)(hn:ns<800000)(hl:rs.length<800000): Ef EJ 129 #[V (X ⟨gs,0,Z⟩),E I k,EU (ED l)] w fun e w'=>e=Eg (Es #[])/\(∃L' m,m<=3/\O4 L' c.q/\E4 lo hi g gc gq gt gs {c with T:=c.T.ia k,tok:=(c.tok.drop k).1,q:=L'} (ns+m) ((rs++if(c.tok.drop k).2 then [⟨12,k,0,c.tok.e,16,0⟩] else [])++[⟨4,k,l.getD 1 0,(c.tok.drop k).1.e,0,0⟩]) w')/\Ev lo hi w w':=by
 obtain⟨N,hN⟩:=En (if(c.tok.drop k).2 then [⟨12,k,0,c.tok.e,16,0⟩] else []:List Rec);rw[<-hN];replace hN:=J hN;have lD:=J (show N.length<=1 by rw[hN.out];split<;>simp);have S0:=J S;have HN:=J hn;have HL:=J hl;have KM:=J<|D.new w (ED l) 183;have b1:=Eo w (EI (ED l) 183);have S1:=J<|S0.out.B b1;have MM:=J<|Ev.Eu (lo:=lo) (hi:=hi) b1;obtain⟨v1,hv1⟩:=En (l.getD 1 0);have JW:Ea (∀W g,D W g (ED l) 183->W.cell? ⟨g,1,Z⟩=X (E I v1)):=J (fun W g K=>by rw[hv1];exact U_ K 1 U U);try rw[<-hv1]
 replace hv1:=J hv1;clear S hn hl S0;obtain⟨mv,hmv⟩:=En (ED l);rw[<-hmv] at KM b1 S1 MM JW⊢;clear hmv;go_enter Tryz.func129,Tryz.ntmps129;go_wp2_with (with_reducible refine I2 9 ?_);refine Ed.in ?_;clear b1;generalize w.alloc (EI mv 183)=w1 at*;obtain⟨gm,hgm⟩:=En w.heap.size;rw[<-hgm] at KM⊢;clear hgm;have z0:=S1.out.Iu;have oG:w1.cell? ⟨gc,95,Z⟩=X (V (X ⟨gt,0,Z⟩)):=S1.out.core.cell 6 rfl 0 Ek;go_wp2_with fail;(with_reducible refine(EE1 gt c.T k _ S1.out.core.tab S1.out.core.ok.T).mono ?_);intro e2 w2 h2;obtain⟨⟨b2,rfl⟩,Qp,o2⟩:=Eaa h2;have hS:=S1.out.su o2 (c.T.ia k) Qp (S1.out.core.ok.sr (EM.EaX S1.out.core.ok.T k) (EM.EaZ S1.out.core.ok.E3 _));replace KM:=J<|o2.Em KM.out (E7 KM.out S1.out.core.tab EZ);replace S1:=J hS.1;replace MM:=J<|MM.out.trans hS.2;clear h2 hS Qp o2 z0 oG;go_wp2_with fail;(with_reducible refine(Qk lo hi g gc gq gt gs _ ns rs k _ S1.out JP Ju).mono ?_);rintro e3 w3 ⟨rfl,⟨L',m3,jv,sq,s3⟩,mO⟩;rw[show(if(c.tok.drop k).2=G then [(⟨12,k,0,c.tok.e,16,0⟩:Rec)] else [])=N from hN.out.symm] at s3;replace KM:=J<|mO.Em KM.out EZ EZ;replace S1:=J s3;replace MM:=J<|MM.out.trans mO;have SQ:=J sq;have mU:=J jv;clear s3 mO sq jv;have c1:=JW.out _ _ KM.out;go_wp2_with fail;(with_reducible refine(Xs lo hi g gc gq gt gs _ (ns+m3) _ 4 k v1 0 0 _ S1.out (by have:=HL.out;have:=lD.out;rw[IL];omega)).mono ?_);rintro e4 w4 ⟨rfl,s4,m4⟩;replace KM:=J<|m4.Em KM.out EZ EZ;replace S1:=J s4;replace MM:=J<|MM.out.trans m4;clear s4 m4 c1;have c1:=JW.out _ _ KM.out;go_wp2_with fail;(with_reducible refine(fL lo hi g gc gq gt gs _ (ns+m3) _ k v1 _ S1.out (by have:=HN.out;have:=mU.out;omega)).mono ?_);rintro e5 w5 ⟨rfl,s5,m5⟩;have S5:=J s5;replace MM:=J<|MM.out.trans m5;clear s5 m5;go_wp2_with fail;go_end0;exact⟨O,⟨L',m3+1,by have:=mU.out;omega,SQ.out,S5.out⟩,MM.out⟩
section
variable{P:Program}{Q:Exit->Act->World->Prop}
inductive Zz(Rel If:H->H->Prop) where
 |val (p:M->Prop)
 |dep (s:M->H->Prop) (h1: ∀v w w',s v w->Rel w w'->s v w') (h2: ∀v w w',s v w->If w w'->s v w')
 |late (s:M->H->Prop) (h1: ∀v w w',s v w->Rel w w'->s v w')
 |tie (ds:List Nat) (s:(Nat->M)->H->Prop) (h1: ∀x w w',s x w->Rel w w'->s x w') (hx: ∀x y w,(∀k∈ds,x k=y k)->s x w->s y w)
 |tied (ds:List Nat) (s:(Nat->M)->H->Prop) (h1: ∀x w w',s x w->Rel w w'->s x w') (h2: ∀x w w',s x w->If w w'->s x w') (hx: ∀x y w,(∀k∈ds,x k=y k)->s x w->s y w)
 |ZA (ds:List Nat) (s:(Nat->M)->Prop) (hx: ∀x y,(∀k∈ds,x k=y k)->s x->s y)
instance{Rel If}(x):CoeDep KQ (KQ.kq x) (Zz Rel If):=⟨.val fun v=>v=x⟩
instance{Rel If}(g i):CoeDep KQ (KQ.kp g i) (Zz Rel If):=⟨.val fun v=>v=V (X ⟨g,i,Z⟩)⟩
def Zz.jt{Rel If:H->H->Prop}:Zz Rel If->Bool
 | .late _ _=>G
 | .tie _ _ _ _=>G
 |_=>Y
def Zz.ds{Rel If:H->H->Prop}:Zz Rel If->List Nat
 | .tie ds _ _ _=>ds
 | .tied ds _ _ _ _=>ds
 | .ZA ds _ _=>ds
 |_=>[]
def RT{Rel If:H->H->Prop}(K:Nat->Zz Rel If)(i:Nat)(x:Nat->M)(w:H):Prop:=match K i with
 | .val p=>p (x i)
 | .dep s _ _=>s (x i) w
 | .late s _=>s (x i) w
 | .tie _ s _ _=>s x w
 | .tied _ s _ _ _=>s x w
 | .ZA _ s _=>s x
def kT{Rel If:H->H->Prop}(Ks:List (Zz Rel If))(i:Nat):Zz Rel If:=Ks.getD i (.val fun _=>True)
def Ead(ops:Array EK)(ib:List (List Nat)):Bool:=(List.range ib.length).all fun i=>(ib.getD i []).all fun k=>decide (k=i)||(match ops[i]? with|some o=>o.after.toList.any (fun e=>Region.binds .any e&&e.on==k)|none=>false)
theorem Eaf{Rel If:H->H->Prop}{Ks:List (Zz Rel If)}(h:Ks.map Zz.jt=tags)(i:Nat)(hl:(kT Ks i).jt=G):i<tags.length/\tags.getD i Y=G:=by
 subst h;unfold kT at hl;by_cases hi:i<Ks.length;·exact Ekd
 ·exact El_
theorem DB{Rel If:H->H->Prop}{Ks:List (Zz Rel If)}{ib:List (List Nat)}(h:Ks.map Zz.ds=ib)(i:Nat)(k:Nat)(hk:k∈(kT Ks i).ds):i<ib.length/\k∈ib.getD i []:=by
 subst h;unfold kT at hk;by_cases hi:i<Ks.length;·refine⟨Om,?_⟩;simp only[List.getD_eq_getElem?_getD,List.getElem?_map,List.getElem?_eq_getElem hi,Option.map_some,Option.getD_some] at hk⊢;exact hk
 ·rw[List.getD_eq_getElem?_getD,List.getElem?_eq_none U] at hk;cases hk
theorem fW{Rel If:H->H->Prop}(Ks:List (Zz Rel If))(tags:List Bool)(htag:Ks.map Zz.jt=tags)(ib:List (List Nat))(hds:Ks.map Zz.ds=ib)(cs:List Nat)(ks:List (Nat×Nat))(hm:P.follows .mixedOrders=G)(hB:bN l.toArray=G)(hK:fj l.toArray cs ks=G)(hlt:Qf l.toArray cs tags=G)(htie:Ead l.toArray ib=G)(hlk:(ks.all fun p=>decide (p.1<=cs.length))=G)(hnd:(OU l).Nodup) (hcg:(cs.all fun c=>match l[c]? with|some o=>o.guard.isNone|none=>false)=G) (hPh: ∀b w w',Ph b w->Rel w w'->Ph b w') (h0:Ph 0 w0.drew) (hstep:bQ Ph Rel If P l.toArray Q (fun x=>EB l 0 x a0) (RT (kT Ks)) cs 0 l ks) (hend: ∀x w,Ph cs.length w->(∀i,i<l.length->RT (kT Ks) i x w)->wpList P l.toArray Q [] (EB l 0 x a0) w):(Code.region id l.toArray G).wp P Q a0 w0:=by
 refine Qd cs ks hm hB hK hlk hnd (RT (kT Ks)) hcg hPh ?_ ?_ ?_ h0 hstep hend
 ·intro i x w w' _ h hr;unfold RT at*;split at h;·exact h
  ·rename_i s h1 h2 _;exact El9
  ·rename_i s h1 _;exact El9
  ·rename_i ds s h1 hx _;exact El9
  ·rename_i ds s h1 h2 hx _;exact El9
  ·exact h
 ·intro i x w w' c hi hc hne hrb h hr;have nl:(kT Ks i).jt=true->False:=fun he=>by obtain⟨h3,h4⟩:=Eaf htag i he;have h5:=List.all_eq_true.1 hlt i (List.mem_range.2 h3);rw[h4] at h5;simp only[Bool.not_true,Bool.false_or] at h5;have h6:=List.all_eq_true.1 h5 c hc;rw[hrb] at h6;simp at h6;exact hne h6
  unfold RT at*;split at h;·exact h
  ·exact EmO
  ·rename_i s h1 he;exact(nl i9).elim
  ·rename_i ds s h1 hx he;exact(nl i9).elim
  ·rename_i ds s h1 h2 hx _;exact h2 _ _ _ h hr
  ·exact h
 ·intro i x y w _ hq h;unfold RT at*;split at h;·rw[hq i (.inl rfl)] at h;exact h
  ·exact ElN
  ·exact ElN
  ·rename_i ds s h1 hx he;refine hx x y w (fun k hk=>hq k ?_) h;obtain⟨h3,h4⟩:=DB hds i k DC;have h5:=List.all_eq_true.1 htie i (List.mem_range.2 h3);have h6:=List.all_eq_true.1 h5 k h4;simp only[Bool.or_eq_true,decide_eq_true_eq] at h6;rcases h6 with h6|h6;·exact .inl h6
   ·exact .inr (p6 h6)
  ·rename_i ds s h1 h2 hx he;refine hx x y w (fun k hk=>hq k ?_) h;obtain⟨h3,h4⟩:=DB hds i k DC;have h5:=List.all_eq_true.1 htie i (List.mem_range.2 h3);have h6:=List.all_eq_true.1 h5 k h4;simp only[Bool.or_eq_true,decide_eq_true_eq] at h6;rcases h6 with h6|h6;·exact .inl h6
   ·exact .inr (p6 h6)
  ·rename_i ds s hx he;refine hx x y (fun k hk=>hq k ?_) h;obtain⟨h3,h4⟩:=DB hds i k DC;have h5:=List.all_eq_true.1 htie i (List.mem_range.2 h3);have h6:=List.all_eq_true.1 h5 k h4;simp only[Bool.or_eq_true,decide_eq_true_eq] at h6;rcases h6 with h6|h6;·exact .inl h6
   ·exact .inr (p6 h6)
end
def ic(w w':H):Prop:= ∀b c,D w b c 109->c.size=8-> ∃c':Array M,c'.size=8/\D w' b c' 109
theorem oH{c cs:Array M}(_:D w b c 109)(hs:cs.size=8):ic w (w.setRow b cs):=fun k d h h8=>by
 by_cases e:k=b;·subst e;exact⟨cs,hs,h.setRow cs⟩
 ·exact⟨d,h8,D.setRow_other h b cs e⟩
def X1(n0:Nat)(v:M)(w:H):Prop:= ∃(b:Nat) (c:Array M),v=V (X ⟨b,0,Z⟩)/\n0<=b/\c.size=8/\D w b c 109
theorem X1.B(h:X1 n0 v w)(hb:Eh w w'):X1 n0 v w':=by exact Emk
theorem X1.dC(h:X1 n0 v w)(hb:ic w w'):X1 n0 v w':=by obtain⟨b,c,h1,h2,h3,h4⟩:=h;obtain⟨c',h5,h6⟩:=hb b c h4 h3;exact⟨b,c',h1,h2,h5,h6⟩
theorem E4.only(S:E4 lo hi g gc gq gt gs c ns rs W)(ho:EG b W W'){d:Array M}(K:D W b d 109)(h1:lo<=b):E4 lo hi g gc gq gt gs c ns rs W':=by obtain⟨sv,rv,sc,ks,r1,r2⟩:=S.bX;have kp: ∀k cs T,T≠109->D W k cs T->D W' k cs T:=fun k cs T hT hb=>ho.Em hb (E7 hb K hT);exact⟨S.core.via (fun k cs T hT hb=>kp k cs T (by intro e;subst e;revert hT;decide) hb) (ho.bel lo h1 Dk),S.hc,S.hq,S.ht,S.Z8,S.his,sv,rv,sc,kp _ _ _ EZ ks,EW r1 fun _ _ hk=>kp _ _ _ EZ hk,EW r2 fun _ _ hk=>kp _ _ _ EZ hk⟩
theorem Ev.only(m:Ev lo hi w W)(ho:EG b W W')(h1:w.heap.size<=b)(h2:hi<=b)(h3:b<W.heap.size):Ev lo hi w W':=by
 have bb:=ho.bel 0 (Nat.zero_le _) (Nat.zero_le _);refine⟨bb.os.trans m.os,bb.tape.trans m.tape,bb.output.trans m.output,Ey m.size ho.size,fun k hk hl hm=>(ho.keep k U U).trans (m.low k hk hl hm),fun k c T hb hm=> ?_,fun k c T hb=> ?_,fun k c T p hk hb=> ?_⟩;·exact ho.Em (m.high k c T hb hm) xj
 ·obtain⟨c',hc⟩:=m.stay k c T hb;exact⟨c',ho.Em hc xj⟩
 ·obtain⟨c',p',hc⟩:=m.wT k c T p hk hb;exact⟨c',p',(ho.keep k U U).trans hc⟩
theorem ig:Og EJ 109 #[E I 0,E I 0,E I 0,E I 0,E I 0,E I 0,E I 0,Eb Y]:=by exact Eiz
theorem Eag(h:t.ok)(k e:Int)(hr:t.accept k e=(t2,0)):0<=t.o/\t.o=k/\t.Ow k=(t2,0):=by
 unfold EL.accept at hr;split at hr;·simp at hr
 ·split at hr;·simp at hr
  ·rename_i h1 h2;exact⟨U,U,hr⟩
theorem DD(h:t.ok){e:Int}(hs:0<=s/\s<=4)(he:0<=e/\e<=65535):(t.pass s e).ok:=⟨hs,he,oK,oK,oK,oK,oK,oK⟩
theorem cG(h:t.ok)(hr:t.Ow s=(t2,0)):t2.ok/\t2.e=t.e+1/\t2.h=s/\t2.o= -1:=by obtain⟨h1,h2,h3,h4,rfl⟩:=Du hr;exact⟨DD h ⟨h1,U⟩ ⟨by have:=h.e;omega,U⟩,O,O,O⟩
theorem Eah(lo hi:Nat)(g:Nat->M)(gc gq gt gs:Nat)(c:EA)(ns:Nat)(rs:List Rec)(l:List Int)(k:Int)(w:H)(S:E4 lo hi g gc gq gt gs c ns rs w)(hn:ns<800000)(hl:rs.length<800000): Ef EJ 132 #[V (X ⟨gs,0,Z⟩),E I k,EU (ED l)] w fun e w'=>e=Eg (Es #[])/\(∃c' m new,m<=3/\E4 lo hi g gc gq gt gs c' (ns+m) (rs++new) w'/\((∃cd,c'=c/\new=[⟨7,k,l.getD 1 0,c.tok.e,cd,0⟩])\/(∃t2 L',c.tok.Ow k=(t2,0)/\O4 L' c.q/\c'={c with tok:=t2,q:=L'}/\new=[⟨8,t2.h,l.getD 1 0,t2.e,0,1⟩])))/\Ev lo hi w w':=by
 have XA:=fun W e=>EEU c.tok k e W xy;obtain⟨Ik,OD,Un,XE⟩: ∃Ik,c.tok.a=EU Ik/\Ea (Ik.size=8)/\Ea (c.tok.v.toArray=Ik):=⟨_,O,J O,J O⟩;have S0:=J S;have HN:=J hn;have HL:=J hl;have KM:=J<|D.new w (ED l) 183;have b1:=Eo w (EI (ED l) 183);have S1:=J<|S0.out.B b1;have MM:=J<|Ev.Eu (lo:=lo) (hi:=hi) b1;obtain⟨v1,hv1⟩:=En (l.getD 1 0);have JW:Ea (∀W g,D W g (ED l) 183->W.cell? ⟨g,1,Z⟩=X (E I v1)):=J (fun W g K=>by rw[hv1];exact U_ K 1 U U);try rw[<-hv1]
 replace hv1:=J hv1;obtain⟨v4,hv4⟩:=En (l.getD 4 0);have Qq:Ea (∀W g,D W g (ED l) 183->W.cell? ⟨g,4,Z⟩=X (E I v4)):=J (fun W g K=>by rw[hv4];exact U_ K 4 U U);try rw[<-hv4]
 replace hv4:=J hv4;clear S hn hl S0;obtain⟨mv,hmv⟩:=En (ED l);rw[<-hmv] at KM b1 S1 MM JW Qq⊢;clear hmv;cases hr:c.tok.accept k v4 with|mk t2 cd=>
 obtain⟨rv,Iy,RS,RO⟩:=Xw t2;have RS:=J RS;have RO:=J RO;have OC:=J Iy;have HR:=J hr;have CA:Ea (∀W,Ef EJ 179 #[EU Ik,E I k,E I v4] W fun x w'=>x=Eg (Es #[EU rv,E I cd])/\Eh W w'):=J (fun W=>by have h:=XA W v4;rw[hr,OD] at h;rw[<-Iy];exact h);clear hr Iy XA OD;go_enter Tryz.func132,Tryz.ntmps132;go_wp2_with fail;clear b1;generalize w.alloc (EI mv 183)=w1 at*;obtain⟨gm,hgm⟩:=En w.heap.size;rw[<-hgm] at KM⊢;clear hgm;obtain⟨n0,hn0⟩:=En w1.heap.size;have U0:=J (show lo<=n0/\hi<=n0/\w.heap.size<=n0 from jw);refine fW (Ph:=fun _ wq=>(E4 lo hi g gc gq gt gs c ns rs wq/\Ev lo hi w wq/\D wq gm mv 183/\n0<=wq.heap.size)) (Rel:=Jr) (If:=ic) [kp gs 0,kp gs 0,kp gs 0,kp gc 0,kp gc 0,kp gc 56,kq (EU Ik),kq (E I k),kp gm 4,kq (E I v4),kq (Es #[EU rv,E I cd]),kq (Es #[EU rv,E I cd]),kq (EU rv),kq (E I cd),.dep (X1 n0) (fun v w w' h hr=>h.B hr) (fun v w w' h hr=>h.dC hr),.tie [14] (fun x w=> ∃b:Nat,x 14=V (X ⟨b,0,Z⟩)/\n0<=b/\D w b rv 109) (fun x w w' h hr=>oL) (fun x y w hq h=>by rw[hq 14 Ek] at h;exact h),kq (E I cd)] [Y,Y,Y,Y,Y,Y,Y,Y,Y,Y,Y,Y,Y,Y,Y,G,Y] O [[],[],[],[],[],[],[],[],[],[],[],[],[],[],[],[14],[]] O [15] [(0,0),(0,0),(0,0),(0,0),(0,0),(0,0),(0,0),(0,0),(0,0),(0,0),(0,0),(0,0),(0,0),(0,1),(0,0),(0,0),(1,1)] Ec Ec Ec Ec Ec Ec On Ec ?hPh ?h0 ?hstep ?hend;case hPh=> intro p w2 w3 h hr;exact⟨h.1.B hr,h.2.1.trans (Ev.Eu hr),D.B h.2.2.1 hr,Ey h.2.2.2 (Below.size hr)⟩
 case h0=> exact Ek2
 case hstep=>
  refine⟨?_,?_,?_,?_,?_,?_,?_,?_,?_,?_,?_,?_,?_,?_,?_,?_,?_,trivial⟩;all_goals first|intro xv wq p hlo hhi hp hd|intro xv wq hp hd
  all_goals simp only[EB,Ic,Ig,IJ,IU]
  ·exact EiE
  ·exact Eim
  ·exact Eil
  ·exact Ekr
  ·exact Eik
  ·exact EiF
  ·obtain rfl:p=0:=U;have d5:xv 5=V (X ⟨gc,56,Z⟩):=hd.at 5 rfl;obtain⟨big,KB,OY⟩:=aD hp.1.core;exact EjH
  ·exact EiE
  ·exact EiE
  ·obtain rfl:p=0:=U;have d8:xv 8=V (X ⟨gm,4,Z⟩):=hd.at 8 rfl;have cc:wq.cell? ⟨gm,4,Z⟩=X (E I v4):=Qq.out _ _ hp.2.2.1;exact Ep DH O
  ·obtain rfl:p=0:=U;have d6:xv 6=EU Ik:=hd.at 6 rfl;have d7:xv 7=E I k:=hd.at 7 rfl;have d9:xv 9=E I v4:=hd.at 9 rfl;refine IY (f:=179) (args:= #[xv 6,xv 7,xv 9]) (Ei O) Ew ?_;rw[d6,d7,d9];exact(CA.out wq).mono fun e w2 h=>⟨_,h.1,h.2,O⟩
  ·obtain rfl:p=0:=U;have d10:xv 10=Es #[EU rv,E I cd]:=hd.at 10 rfl;exact Eml
  ·obtain rfl:p=0:=U;exact EnJ
  ·exact EnJ
  ·exact ElU
  ·have d12:xv 12=EU rv:=hd.at 12 rfl;obtain⟨b,d0,eA,lb,h8,kb⟩:X1 n0 (xv 14) wq:=hd.at 14 rfl;have nh:=U0.out;refine ag EP (Ei O) ⟨O,eA,d12⟩ kb h8 RS.out RO.out ⟨oH kb RS.out,?_⟩ ⟨b,eA,lb,kb.setRow _⟩;exact Eks
  ·obtain rfl:p=1:=U;have d13:xv 13=E I cd:=hd.at 13 rfl;exact Ep sb O
 case hend=>
  intro xv W6 hp hd;clear S1 MM KM;simp only[EB,Ic,Ig,IJ,IU];obtain⟨b,eA,lb,kb⟩: ∃b:Nat,xv 14=V (X ⟨b,0,Z⟩)/\n0<=b/\D W6 b rv 109:=hd 15 EZ;have d16:xv 16=E I cd:=hd 16 EZ;obtain⟨s6,m6,aG,-⟩:=hp;have S1:=J s6;have MM:=J m6;have KM:=J aG;have KB:=J kb;rw[eA,d16];clear s6 m6 aG kb hd eA d16 CA;have c1:=JW.out _ _ KM.out;by_cases hcd:cd=0;·subst hcd;obtain⟨ha1,ha2,DK⟩:=Eag S1.out.core.ok.tok k v4 HR.out;have HT2:=J (cG S1.out.core.ok.tok DK).1;have HG:=J DK;clear ha1 ha2 DK;go_wp2_with (with_reducible refine wL EP KB ?_ (hn:=RS.out));rw[<-OC.out];(with_reducible refine(ju lo hi g gc gq gt gs c ns rs t2 1 v1 _ S1.out HT2.out JP Ju).mono ?_);rintro e7 w7 ⟨rfl,⟨L',m7,UV,sq,s7⟩,Uo⟩;replace KM:=J<|Uo.Em KM.out EZ EZ;replace S1:=J s7;replace MM:=J<|MM.out.trans Uo;have SQ:=J sq;have jx:=J UV;clear s7 Uo sq UV c1;have c1:=JW.out _ _ KM.out;go_wp2_with fail;(with_reducible refine(fL lo hi g gc gq gt gs _ (ns+m7) _ k v1 _ S1.out DL).mono ?_);rintro e8 w8 ⟨rfl,s8,m8⟩;have S8:=J s8;replace MM:=J<|MM.out.trans m8;clear s8 m8;go_wp2_with fail;go_end0;exact⟨O,⟨_,m7+1,_,mX,S8.out,.inr ⟨t2,L',HG.out,SQ.out,O,O⟩⟩,MM.out⟩
  ·have t9:(cd !=0)=G:=aC;exact Ei4
theorem Is.dC(m:Is lo W W'):ic W W':=fun b c h h8=>⟨c,h8,m.Em h EZ EZ⟩
theorem Eai(lo hi:Nat)(g:Nat->M)(gc gq gt gs:Nat)(c:EA)(ns:Nat)(rs:List Rec)(l:List Int)(k:Int)(w:H)(S:E4 lo hi g gc gq gt gs c ns rs w)(hn:ns<800000)(hl:rs.length<800000): Ef EJ 134 #[V (X ⟨gs,0,Z⟩),E I k,EU (ED l)] w fun e w'=>e=Eg (Es #[])/\(∃c' m new,m<=3/\E4 lo hi g gc gq gt gs c' (ns+m) (rs++new) w'/\ ∃L',((∃cd,c'={c with q:=L'}/\new=[⟨7,k,l.getD 1 0,c.tok.e,cd,0⟩])\/(∃t2,t2.ok/\t2.e=c.tok.e+1/\t2.o= -1/\c'={c with tok:=t2,q:=L'}/\new=[⟨8,t2.h,l.getD 1 0,t2.e,0,2⟩])))/\Ev lo hi w w':=by
 have XA:=fun W q=>QJ lo gq c.q (pn g 48) k c.tok W S.core.lq q S.core.ok.q xy;obtain⟨Ik,OD,Un,XE⟩: ∃Ik,c.tok.a=EU Ik/\Ea (Ik.size=8)/\Ea (c.tok.v.toArray=Ik):=⟨_,O,J O,J O⟩;have S0:=J S;have HN:=J hn;have HL:=J hl;have KM:=J<|D.new w (ED l) 183;have b1:=Eo w (EI (ED l) 183);have S1:=J<|S0.out.B b1;have MM:=J<|Ev.Eu (lo:=lo) (hi:=hi) b1;obtain⟨v1,hv1⟩:=En (l.getD 1 0);have JW:Ea (∀W g,D W g (ED l) 183->W.cell? ⟨g,1,Z⟩=X (E I v1)):=J (fun W g K=>by rw[hv1];exact U_ K 1 U U);try rw[<-hv1]
 replace hv1:=J hv1;clear S hn hl S0;obtain⟨mv,hmv⟩:=En (ED l);rw[<-hmv] at KM b1 S1 MM JW⊢;clear hmv;have CA:Ea (∀W,JZ W lo gq c.q (pn g 48)->Ef EJ 137 #[EU Ik,V (X ⟨gq,0,Z⟩),E I k] W _):=J (fun W q=>Qr);obtain⟨PQ,hPQ⟩: ∃PQ:Array M->Int->Prop,PQ=fun rv cd=> ∃t2:EL,t2.a=EU rv/\rv.size=8/\rv.all (·.oneCell')=G/\oz c.tok c.q k t2 cd:=⟨_,O⟩;have mZ:Ea (∀(t2:EL) (rv:Array M) (cd:Int),t2.a=EU rv->rv.size=8->rv.all (·.oneCell')=G->oz c.tok c.q k t2 cd->PQ rv cd):=J (fun t2 rv cd h1 h2 h3 h4=>xz);have ma:Ea (∀rv cd,PQ rv cd->rv.size=8/\rv.all (·.oneCell')=G):=J (fun rv cd h=>xA);replace hPQ:=J hPQ;clear XA OD;go_enter Tryz.func134,Tryz.ntmps134;go_wp2_with fail;clear b1;generalize w.alloc (EI mv 183)=w1 at*;obtain⟨gm,hgm⟩:=En w.heap.size;rw[<-hgm] at KM⊢;clear hgm;obtain⟨n0,hn0⟩:=En w1.heap.size;have U0:=J (show lo<=n0/\hi<=n0/\w.heap.size<=n0 from jw);refine fW (Ph:=fun p wq=>n0<=wq.heap.size/\(match p with|0=>(E4 lo hi g gc gq gt gs c ns rs wq/\Ev lo hi w wq/\D wq gm mv 183)|_=>(∃L':List One,E4 lo hi g gc gq gt gs {c with q:=L'} ns rs wq/\Ev lo hi w wq/\D wq gm mv 183))) (Rel:=Jr) (If:=ic) [kp gs 0,kp gs 0,kp gs 0,kp gc 0,kp gc 0,kp gc 56,kq (EU Ik),kp gs 0,kp gs 0,kp gs 0,kp gc 0,kp gc 0,kp gc 64,kp gq 0,kq (E I k),.val (fun v=> ∃(rv:Array M) (cd:Int),PQ rv cd/\v=Es #[EU rv,E I cd]),.val (fun v=> ∃(rv:Array M) (cd:Int),PQ rv cd/\v=Es #[EU rv,E I cd]),.ZA [16,17] (fun x=> ∃(rv:Array M) (cd:Int),PQ rv cd/\x 16=Es #[EU rv,E I cd]/\x 17=EU rv) (fun x y hq h=>by simpa only[hq 16 Ek,hq 17 Ek] using h),.ZA [16,18] (fun x=> ∃(rv:Array M) (cd:Int),PQ rv cd/\x 16=Es #[EU rv,E I cd]/\x 18=E I cd) (fun x y hq h=>by simpa only[hq 16 Ek,hq 18 Ek] using h),.dep (X1 n0) (fun v w w' h hr=>h.B hr) (fun v w w' h hr=>h.dC hr),.tie [19,17] (fun x w=> ∃(b:Nat) (rv:Array M),x 19=V (X ⟨b,0,Z⟩)/\x 17=EU rv/\n0<=b/\D w b rv 109) (fun x w w' h hr=>xB) (fun x y w hq h=>by rw[hq 19 Ek,hq 17 Ek] at h;exact h),.ZA [18,21] (fun x=>x 21=x 18) (fun x y hq h=>by simpa only[hq 18 Ek,hq 21 Ek] using h)] [Y,Y,Y,Y,Y,Y,Y,Y,Y,Y,Y,Y,Y,Y,Y,Y,Y,Y,Y,Y,G,Y] O [[],[],[],[],[],[],[],[],[],[],[],[],[],[],[],[],[],[16,17],[16,18],[],[19,17],[18,21]] O [15,20] [(0,0),(0,0),(0,0),(0,0),(0,0),(0,0),(0,0),(0,0),(0,0),(0,0),(0,0),(0,0),(0,0),(0,0),(0,0),(0,0),(1,1),(1,1),(1,2),(0,1),(1,1),(2,2)] Ec Ec Ec Ec Ec Ec On Ec ?hPh ?h0 ?hstep ?hend
 case hPh=>
  intro p w2 w3 h hr;match p,h with
  |0,h=>exact⟨Ey h.1 (Below.size hr),h.2.1.B hr,h.2.2.1.trans (Ev.Eu hr),D.B h.2.2.2 hr⟩
  |_+1,h=> obtain⟨nn,L',s,m,km⟩:=h;exact⟨Ey nn (Below.size hr),L',s.B hr,m.trans (Ev.Eu hr),D.B km hr⟩
 case h0=> exact Ek3
 case hstep=>
  refine⟨?_,?_,?_,?_,?_,?_,?_,?_,?_,?_,?_,?_,?_,?_,?_,?_,?_,?_,?_,?_,?_,?_,trivial⟩;all_goals first|intro xv wq p hlo hhi hp hd|intro xv wq hp hd
  all_goals simp only[EB,Ic,Ig,IJ,IU]
  ·exact EiE
  ·exact Eim
  ·exact Eil
  ·exact EiJ
  ·exact Eik
  ·exact EiF
  ·exact EmT
  ·exact EiE
  ·exact EjU
  ·exact EjO
  ·exact EiK
  ·exact EjI
  ·exact EjE
  ·exact Ej6
  ·exact EiE
  ·have d6:xv 6=EU Ik:=hd.at 6 rfl;have d13:xv 13=V (X ⟨gq,0,Z⟩):=hd.at 13 rfl;have d14:xv 14=E I k:=hd.at 14 rfl;refine IY (f:=137) (args:= #[xv 6,xv 13,xv 14]) (Ei O) Ew ?_;rw[d6,d13,d14];refine(CA.out wq hp.2.1.core.XV).mono fun e w2 h=> ?_;obtain⟨⟨t2,cd,L2,he,hf,sq,q2⟩,m2⟩:=h;obtain⟨rv,Iy,hs,ho⟩:=Xw t2;exact⟨_,he,⟨m2.dC,Ey hp.1 m2.bel.size,L2,hp.2.1.cD m2 L2 q2 (hp.2.1.core.ok.sub sq),hp.2.2.1.trans (m2.fM hi),m2.Em hp.2.2.2 EZ EZ⟩,rv,cd,mZ.out t2 rv cd Iy hs ho hf,congrArg (fun v=>Value.tuple #[v,E I cd]) Iy⟩
  ·obtain rfl:p=1:=U;obtain⟨rv,cd,hpq,e15⟩: ∃(rv:Array M) (cd:Int),PQ rv cd/\xv 15=Es #[EU rv,E I cd]:=hd.at 15 rfl;exact Ep DM ⟨rv,cd,hpq,O⟩
  ·obtain rfl:p=1:=U;exact EkZ
  ·exact EkZ
  ·exact Ejw
  ·obtain⟨b,d0,eA,lb,h8,kb⟩:X1 n0 (xv 19) wq:=hd.at 19 rfl;have nh:=U0.out;obtain⟨rv,cd,hpq,-,e17⟩: ∃(rv:Array M) (cd:Int),PQ rv cd/\xv 16=Es #[EU rv,E I cd]/\xv 17=EU rv:=hd.at 17 rfl;have hsz:=ma.out _ _ hpq;obtain⟨nn,L',s,m,km⟩:=hp;refine ag EP (Ei O) ⟨O,eA,e17⟩ kb h8 hsz.1 hsz.2 ⟨oH kb hsz.1,?_⟩ ⟨b,rv,eA,e17,lb,kb.setRow _⟩;exact Elf
  ·obtain rfl:p=2:=U;obtain⟨rv,cd,hpq,-,e18⟩: ∃(rv:Array M) (cd:Int),PQ rv cd/\xv 16=Es #[EU rv,E I cd]/\xv 18=E I cd:=hd.at 18 rfl;exact Ep (by simp[go_sem,e18]) (e18.symm)
 case hend=>
  intro xv W6 hp hd;clear S1 MM KM;simp only[EB,Ic,Ig,IJ,IU];obtain⟨rv,cd,hpq,eM,e17⟩: ∃(rv:Array M) (cd:Int),PQ rv cd/\xv 16=Es #[EU rv,E I cd]/\xv 17=EU rv:=hd 17 EZ;obtain⟨b,dD,eA,eE,lb,kb⟩: ∃(b:Nat) (rv:Array M),xv 19=V (X ⟨b,0,Z⟩)/\xv 17=EU rv/\n0<=b/\D W6 b rv 109:=hd 20 EZ;have mc:dD=rv:=by rw[eE] at e17;injection e17
  subst mc;have a21:xv 21=E I cd:=by have h1:xv 21=xv 18:=hd 21 EZ;obtain⟨xF,DN,-,f1,f2⟩: ∃(rv:Array M) (cd:Int),PQ rv cd/\xv 16=Es #[EU rv,E I cd]/\xv 18=E I cd:=hd 18 EZ;exact Ekn
  obtain⟨-,L',s6,m6,aG⟩:=hp;have S1:=J s6;have MM:=J m6;have KM:=J aG;have KB:=J kb;rw[eA,a21];rw[hPQ.out] at hpq;obtain⟨t2,Iy,hs,ho,hf⟩:=hpq;have OC:=J Iy;have RS:=J hs;have HF:=J hf;clear s6 m6 aG kb hd eA a21 CA Iy hs ho hf eM eE;have c1:=JW.out _ _ KM.out;by_cases hcd:cd=0
  ·subst hcd
   have HT2:Ea (t2.ok/\t2.e=c.tok.e+1/\t2.o= -1):=J (by
    rcases HF.out with⟨a1,-⟩|⟨-,-,-,x,-,a2⟩;·exact absurd O a1
    ·exact⟨(cG S1.out.core.ok.tok a2).1,(cG S1.out.core.ok.tok a2).2.1,(cG S1.out.core.ok.tok a2).2.2.2⟩)
   go_wp2_with (with_reducible refine wL EP KB ?_ (hn:=RS.out));rw[<-OC.out];(with_reducible refine(ju lo hi g gc gq gt gs _ ns rs t2 2 v1 _ S1.out HT2.out.1 JP Ju).mono ?_);rintro e7 w7 ⟨rfl,⟨L2,m7,UV,sq,s7⟩,Uo⟩;replace KM:=J<|Uo.Em KM.out EZ EZ;replace S1:=J s7;replace MM:=J<|MM.out.trans Uo;have jx:=J UV;clear s7 Uo sq UV c1;have c1:=JW.out _ _ KM.out;go_wp2_with fail;(with_reducible refine(fL lo hi g gc gq gt gs _ (ns+m7) _ k v1 _ S1.out DL).mono ?_);rintro e8 w8 ⟨rfl,s8,m8⟩;have S8:=J s8;replace MM:=J<|MM.out.trans m8;clear s8 m8;go_wp2_with fail;go_end0;exact⟨O,⟨_,m7+1,_,mX,S8.out,L2,.inr ⟨t2,HT2.out.1,HT2.out.2.1,HT2.out.2.2,O,O⟩⟩,MM.out⟩
  ·exact EiW
end Go.Proofs.YtclmichaaiohjaaGreatDoor
